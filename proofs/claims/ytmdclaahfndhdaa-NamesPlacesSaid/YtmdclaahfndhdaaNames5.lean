/- Contracts of the reference of names (Put, Same, Short); a fixed answer. -/
import Derived.Test.YtmdclaahfndhdaaNames4
namespace Go.Proofs.Ytmdclaahfndhdaa
set_option linter.unusedVariables false
open Go.RowKit Go.Maps Go.WideMaps

theorem rPut_c (A : Option Addr) (n c B : Nat) (ss : List ByteArray) (s : ByteArray) (w : World) (hr : Reads w B 1 A n (ss.map Value.string)) (hB : B ≤ w.heap.size) (hn : n ≤ 100000) (hsz : ∀ s ∈ ss, s.size ≤ maxLen) (hs : s.size ≤ maxLen) :
    Calls Try.prog 26 #[.slice A n c, .string s] w (PutPost A n c ss s w) := by
  have hl : ss.length = n := by simpa using hr.1
  have HL := Lib.hid ((lists_length ss).trans hl); clear hl
  have HR := fun W => Lib.hid (rRight_c A n c B ss W)
  have HP := fun W => Lib.hid (rPlace_c A n c B ss s W)
  have HN := fun W => Lib.hid (rNamed_c s W hs)
  have HRd := Lib.hid hr
  obtain ⟨i0, hi0, hz0, hz1, hz2⟩ := info_parts Try.infoStr
  by_cases hR : rightB (lists ss) = true
  · have hl32 : n ≤ 32 := by
      have := hR; unfold rightB at this; rw [decide_eq_true_eq, HL.out] at this; exact this.1
    by_cases hN : namedB s.data.toList = true
    · by_cases hP : placeOf (lists ss) s.data.toList = 0
      · have hP0 : ¬ ((0 : Int) < (placeOf (lists ss) s.data.toList : Int)) := by omega
        by_cases h32 : n = 32
        · have HE := Lib.hid (show putErr (lists ss) s.data.toList = 9 from by unfold putErr; rw [hR, hN, hP, HL.out, h32]; rfl)
          clear hP
          have hge : 32 ≤ n := by omega
          clear h32
          go_enter Try.func26, Try.ntmps26
          go_wp2_with (first | (go_at_call 28; refine ((HR _).out HRd.out (by omega) hsz).mono ?_; rintro e w' ⟨rfl, rfl⟩) | (go_at_call 58; refine ((HN _).out).mono ?_; rintro e w' ⟨rfl, rfl⟩) | (go_at_call 30; refine ((HP _).out HRd.out (by omega)).mono ?_; rintro e w' ⟨rfl, rfl⟩))
          go_ret2
          exact ⟨.inl ⟨by rw [HE.out]; decide, by rw [HE.out]; rfl⟩, Below.refl _ _⟩
        · have HE := Lib.hid (show putErr (lists ss) s.data.toList = 0 from by unfold putErr; rw [hR, hN, hP, HL.out]; simp [h32])
          have hlt : n < 32 := by omega
          clear hP h32
          go_enter Try.func26, Try.ntmps26
          go_wp2_with (first
            | (go_at_call 28; refine ((HR _).out HRd.out (by omega) hsz).mono ?_; rintro e w' ⟨rfl, rfl⟩)
            | (go_at_call 58; refine ((HN _).out).mono ?_; rintro e w' ⟨rfl, rfl⟩)
            | (go_at_call 30; refine ((HP _).out HRd.out (by omega)).mono ?_; rintro e w' ⟨rfl, rfl⟩)
            | (at_builtin; refine wpList_append_any _ rfl (.tmp 23) (.tmp 24) 31 rfl w.heap.size 9 i0 _ 1 16 Try.underlying31 hi0 hz0 hz1 hz2 rfl (by omega) _ 0 [] rfl (own_empty w 9 w.heap.size (Nat.le_refl _) 1) B A n c _ rfl (HRd.out.alloc hB _) (strs_one ss) (by unfold maxLen; omega) (by omega) (by simp) ?_; intro v1 w1 hown1 hg1 hat1; have hb1 := below_own ((Below.refl w.heap.size w).alloc (Nat.le_refl _) _) hg1 (own_empty w 9 w.heap.size (Nat.le_refl _) 1) (Nat.le_refl _) (by simp); simp only [Nat.zero_add, List.nil_append] at hown1; clear hg1 hat1)
            | (at_builtin; go_must (refine wpList_append_one w1 rfl (.tmp 25) (.tmp 27) 31 rfl w.heap.size 9 i0 _ 16 Try.underlying31 hi0 hz0 hz1 hz2 rfl _ n _ hown1 rfl (.string s) rfl rfl (by unfold maxLen; omega) (by omega) hb1.size ?_); intro v' w4 hown4 hg4))
          go_ret2
          refine ⟨.inr ⟨HE.out, v', rfl, ?_⟩, below_own hb1 hg4 hown1 (Nat.le_refl _) hb1.size⟩
          rw [List.map_append]
          exact hown4
      · have hP0 : (0 : Int) < (placeOf (lists ss) s.data.toList : Int) := by omega
        have HE := Lib.hid (show putErr (lists ss) s.data.toList = 7 from by unfold putErr; rw [hR, hN]; simp [hP])
        clear hP
        go_enter Try.func26, Try.ntmps26
        go_wp2_with (first | (go_at_call 28; refine ((HR _).out HRd.out (by omega) hsz).mono ?_; rintro e w' ⟨rfl, rfl⟩) | (go_at_call 58; refine ((HN _).out).mono ?_; rintro e w' ⟨rfl, rfl⟩) | (go_at_call 30; refine ((HP _).out HRd.out (by omega)).mono ?_; rintro e w' ⟨rfl, rfl⟩))
        go_ret2
        exact ⟨.inl ⟨by rw [HE.out]; decide, by rw [HE.out]; rfl⟩, Below.refl _ _⟩
    · have hN' : namedB s.data.toList = false := by simpa using hN
      have HE := Lib.hid (show putErr (lists ss) s.data.toList = 3 from by unfold putErr; rw [hR, hN']; rfl)
      go_enter Try.func26, Try.ntmps26
      go_wp2_with (first | (go_at_call 28; refine ((HR _).out HRd.out (by omega) hsz).mono ?_; rintro e w' ⟨rfl, rfl⟩) | (go_at_call 58; refine ((HN _).out).mono ?_; rintro e w' ⟨rfl, rfl⟩))
      go_ret2
      exact ⟨.inl ⟨by rw [HE.out]; decide, by rw [HE.out]; rfl⟩, Below.refl _ _⟩
  · have hR' : rightB (lists ss) = false := by simpa using hR
    have HE := Lib.hid (show putErr (lists ss) s.data.toList = 1 from by unfold putErr; rw [hR']; rfl)
    go_enter Try.func26, Try.ntmps26
    go_wp2_with (go_at_call 28; refine ((HR _).out HRd.out (by omega) hsz).mono ?_; rintro e w' ⟨rfl, rfl⟩)
    go_ret2
    exact ⟨.inl ⟨by rw [HE.out]; decide, by rw [HE.out]; rfl⟩, Below.refl _ _⟩

theorem take_ext {l m : List (List UInt8)} {k : Nat} {x y : List UInt8} (h : l.take k = m.take k) (hx : l[k]? = some x) (hy : m[k]? = some y) : x = y ↔ l.take (k + 1) = m.take (k + 1) := by
  rw [List.take_add_one, List.take_add_one, hx, hy, h]
  simp

theorem Same_c (A A2 : Option Addr) (n c n2 c2 B : Nat) (ss tt : List ByteArray) (w : World) (hr : Reads w B 1 A n (ss.map Value.string)) (hr2 : Reads w B 1 A2 n2 (tt.map Value.string)) (hn : n ≤ 1000000) (hn2 : n2 ≤ 1000000) (hB : B ≤ w.heap.size) :
    Calls Try.prog 31 #[.slice A n c, .slice A2 n2 c2] w fun e w' => e = .returned (.bool (decide (lists ss = lists tt))) ∧ Below w.heap.size w w' := by
  have hl : ss.length = n := by simpa using hr.1
  have hl2 : tt.length = n2 := by simpa using hr2.1
  have HL := Lib.hid ((lists_length ss).trans hl); clear hl
  have HL2 := Lib.hid ((lists_length tt).trans hl2); clear hl2
  by_cases hnn : n = n2
  · obtain rfl := hnn
    go_enter Try.func31, Try.ntmps31
    go_wp2
    go_loopw [5] (fun i wr => ∃ k : Nat, k ≤ n ∧ i = .int .i64 k ∧ Hid ((lists ss).take k = (lists tt).take k) ∧ Below w.heap.size w wr) (fun i _ => n - (intOf i).toNat)
    case atStart => exact ⟨0, Nat.zero_le _, rfl, rfl, Below.refl _ _⟩
    case round =>
      obtain ⟨k, hk, rfl, H0, hbr⟩ := hrel
      by_cases hlt : k < n
      · have hrr := (hr.more hB).below hbr
        have hrr2 := (hr2.more hB).below hbr
        obtain ⟨ad, x, rfl, hb, hx, hc⟩ := hrr.str_at hlt
        obtain ⟨ad2, y, rfl, hb2, hy, hc2⟩ := hrr2.str_at hlt
        have HX := Lib.hid (lists_get ss k x hx)
        have HY := Lib.hid (lists_get tt k y hy)
        clear hx hy hrr hrr2 hr hr2
        by_cases he : x.data.toList = y.data.toList
        · have heb : (!(x.toList == y.toList)) = false := by rw [str_beq]; simpa using he
          have heb2 : (x.toList == y.toList) = true := by rw [str_beq]; simpa using he
          have HE := Lib.hid he; clear he
          go_wp2
          go_quiet (fail)
          go_wp2
          go_roundw
          case rel => exact ⟨k + 1, by omega, by go_num, (take_ext H0.out HX.out HY.out).1 HE.out, below_drewN hbr _⟩
          case measure => simp [intOf]; omega
        · have heb2 : (x.toList == y.toList) = false := by rw [str_beq]; simpa using he
          have HE := Lib.hid he; clear he
          go_wp2
          go_quiet (fail)
          go_wp2
          go_ret
          refine ⟨ret_b ?_, below_drewN hbr _⟩
          have : lists ss ≠ lists tt := fun h => HE.out (by have := HX.out; rw [h, HY.out] at this; injection this with this; exact this.symm)
          simp [this]
      · have HT := Lib.hid (List.take_of_length_le (l := lists ss) (i := k) (by rw [HL.out]; omega))
        have HT2 := Lib.hid (List.take_of_length_le (l := lists tt) (i := k) (by rw [HL2.out]; omega))
        go_wp2
        go_ret
        refine ⟨ret_b ?_, hbr⟩
        have := H0.out
        rw [HT.out, HT2.out] at this
        simp [this]
  · have hne : ((n : Int) != (n2 : Int)) = true := by rw [bne_iff_ne]; omega
    have hne2 : (n != n2) = true := by rw [bne_iff_ne]; exact hnn
    go_enter Try.func31, Try.ntmps31
    go_wp2
    go_ret
    refine ⟨ret_b ?_, Below.refl _ _⟩
    have : lists ss ≠ lists tt := fun h => hnn (by rw [← HL.out, ← HL2.out, h])
    simp [this]

theorem Short_no (A : Option Addr) (n c B : Nat) (ss : List ByteArray) (w : World) (hr : Reads w B 1 A n (ss.map Value.string)) (hn : n ≤ 9223372036854775807) (hsz : ∀ s ∈ ss, s.size ≤ maxLen) :
    Calls Try.prog 24 #[.slice A n c] w fun e w' => e = .returned (.bool (decide (n ≤ 60) && decide (∀ s ∈ ss, s.size ≤ 100))) ∧ w = w' := by
  have hl : ss.length = n := by simpa using hr.1
  have HL := Lib.hid hl; clear hl
  go_enter Try.func24, Try.ntmps24
  go_wp2
  go_loop [3] (fun i => ∃ k : Nat, k ≤ n ∧ i = .int .i64 k ∧ Hid (∀ (j : Nat) s, j < k → ss[j]? = some s → s.size ≤ 100)) (fun i => n - (intOf i).toNat)
  case atStart => exact ⟨0, Nat.zero_le _, rfl, fun j y hj => by omega⟩
  case round =>
    obtain ⟨k, hk, rfl, H0⟩ := hrel
    by_cases hlt : k < n
    · obtain ⟨ad, x, rfl, hb, hx, hc⟩ := hr.str_at hlt
      have hxs := hsz x (List.mem_of_getElem? hx)
      unfold maxLen at hxs
      have HX := Lib.hid hx
      clear hx hr
      by_cases he : x.size ≤ 100
      · go_wp2
        go_round
        case rel =>
          refine ⟨k + 1, by omega, by go_num, fun j y hj hy => ?_⟩
          rcases Nat.lt_or_ge j k with h | h
          · exact H0.out j y h hy
          · obtain rfl : j = k := by omega
            rw [HX.out] at hy
            cases hy
            exact he
        case measure => simp [intOf]; omega
      · go_wp2
        go_ret
        refine ⟨ret_b ?_, rfl⟩
        have : ¬ ∀ s ∈ ss, s.size ≤ 100 := fun h => he (h x (List.mem_of_getElem? HX.out))
        simp [this]
    · go_wp2
      go_ret
      refine ⟨ret_b (a := decide ((n : Int) ≤ 60)) ?_, rfl⟩
      have h1 : ∀ s ∈ ss, s.size ≤ 100 := fun s hs => by
        obtain ⟨i, hi⟩ := List.mem_iff_getElem?.1 hs
        exact H0.out i s (by have : i < ss.length := (List.getElem?_eq_some_iff.1 hi).1; rw [HL.out] at this; omega) hi
      have h2 : decide (∀ s ∈ ss, s.size ≤ 100) = true := by rw [decide_eq_true_eq]; exact h1
      rw [h2, Bool.and_true, decide_eq_decide]
      omega
end Go.Proofs.Ytmdclaahfndhdaa
