/- Contracts of names.Put, its reference, Same and Short. -/
import Derived.Test.YtmdclaahfndhdaaNames3
namespace Go.Proofs.Ytmdclaahfndhdaa
set_option linter.unusedVariables false
open Go.RowKit Go.Maps Go.WideMaps

theorem Try.infoStr : (Try.prog.info? 9).map (fun i => (i.zero, i.size, i.bytes)) = some (some (.string ByteArray.empty), 1, 16) := by kernel_rfl

theorem strs_one (ss : List ByteArray) : ∀ u ∈ ss.map Value.string, u.oneCell' = true := by
  intro u hu
  obtain ⟨s, _, rfl⟩ := List.mem_map.1 hu
  rfl

theorem CloneS_c (A : Option Addr) (n c B : Nat) (ss : List ByteArray) (w : World) (hr : Reads w B 1 A n (ss.map Value.string)) (hB : B ≤ w.heap.size) (hn : n ≤ 1000000) :
    Calls Try.prog 57 #[.slice A n c] w fun e w' => ∃ v, e = .returned v ∧ w'.ownsRow w.heap.size 9 1 v n (ss.map Value.string) ∧ Below w.heap.size w w' := by
  have q : ∀ (w : World) (a : Option Addr) (n c n' c' : Nat), (binOp .eql 31 (.slice a n c) (.slice none n' c')).run Try.prog w = .ok (.bool a.isNone) w := fun w a n c n' c' => Lib.run_eql_slice_nil w _ _ a n c n' c' Try.underlying31
  obtain ⟨i0, hi0, hz0, hz1, hz2⟩ := info_parts Try.infoStr
  rcases A with _ | ad
  · have hn0 : n = 0 := by
      rcases Nat.eq_zero_or_pos n with h | h
      · exact h
      · obtain ⟨_, h, _⟩ := hr.2 h; cases h
    subst hn0
    have hs : ss.map Value.string = [] := List.eq_nil_of_length_eq_zero (by simpa using hr.1)
    have HS := Lib.hid hs; clear hs hr
    go_enter Try.func57, Try.ntmps57
    go_wp2
    go_ret
    exact ⟨_, rfl, ⟨by rw [HS.out]; rfl, .inl ⟨rfl, rfl⟩⟩, Below.refl _ _⟩
  · have HR := Lib.hid hr; clear hr
    go_enter Try.func57, Try.ntmps57
    go_wp2_with (at_builtin; go_must (refine wpList_append_any _ rfl _ _ 31 rfl w.heap.size 9 i0 _ 1 16 Try.underlying31 hi0 hz0 hz1 hz2 rfl (by omega) _ 0 [] rfl (own_empty w 9 w.heap.size (Nat.le_refl _) 1) B (some ad) n c _ rfl (HR.out.alloc hB _) (strs_one ss) (by unfold maxLen; omega) (by omega) (by simp) ?_); intro v1 w1 hown1 hg1 hat1)
    go_ret
    exact ⟨v1, rfl, by simpa using hown1, below_own ((Below.refl _ _).alloc (Nat.le_refl _) _) hg1 (own_empty w 9 w.heap.size (Nat.le_refl _) 1) (Nat.le_refl _) (by simp)⟩

def putErr (l : List (List UInt8)) (s : List UInt8) : Int :=
  if rightB l = false then 1 else if namedB s = false then 3 else if placeOf l s ≠ 0 then 7 else if l.length = 32 then 9 else 0

def PutPost (A : Option Addr) (n c : Nat) (ss : List ByteArray) (s : ByteArray) (w : World) (e : Ending) (w' : World) : Prop :=
  ((putErr (lists ss) s.data.toList ≠ 0 ∧ e = .returned (.tuple #[.slice A n c, .int .i64 (putErr (lists ss) s.data.toList)])) ∨
   (putErr (lists ss) s.data.toList = 0 ∧ ∃ v, e = .returned (.tuple #[v, .int .i64 0]) ∧ w'.ownsRow w.heap.size 9 1 v (n + 1) ((ss ++ [s]).map Value.string))) ∧ Below w.heap.size w w'

theorem Put_c (A : Option Addr) (n c B : Nat) (ss : List ByteArray) (s : ByteArray) (w : World) (hr : Reads w B 1 A n (ss.map Value.string)) (hB : B ≤ w.heap.size) (hn : n ≤ 100000) (hsz : ∀ s ∈ ss, s.size ≤ maxLen) (hs : s.size ≤ maxLen) :
    Calls Try.prog 25 #[.slice A n c, .string s] w (PutPost A n c ss s w) := by
  have hl : ss.length = n := by simpa using hr.1
  have HL := Lib.hid ((lists_length ss).trans hl); clear hl
  have HR := fun W => Lib.hid (Right_c A n c B ss W)
  have HP := fun W => Lib.hid (Place_c A n c B ss s W)
  have HC := fun W => Lib.hid (CloneS_c A n c B ss W)
  have HN := fun W => Lib.hid (Named_c s W hs)
  obtain ⟨i0, hi0, hz0, hz1, hz2⟩ := info_parts Try.infoStr
  by_cases hR : rightB (lists ss) = true
  · have hl32 : n ≤ 32 := by
      have := hR; unfold rightB at this; rw [decide_eq_true_eq, HL.out] at this; exact this.1
    by_cases hN : namedB s.data.toList = true
    · by_cases hP : placeOf (lists ss) s.data.toList = 0
      · have hP0 : ¬ ((0 : Int) < (placeOf (lists ss) s.data.toList : Int)) := by omega
        by_cases h32 : n = 32
        · have HE := Lib.hid (show putErr (lists ss) s.data.toList = 9 from by unfold putErr; rw [hR, hN, hP, HL.out, h32]; rfl)
          clear hP
          subst h32
          go_enter Try.func25, Try.ntmps25
          go_wp2_with fail
          refine ((HR _).out hr hB (by omega) hsz).mono ?_
          rintro e w1 ⟨rfl, hb1⟩
          have hr1 := (hr.more hB).below hb1
          have hw1 := hb1.size
          go_wp2_with fail
          refine ((HN _).out).mono ?_
          rintro e w1' ⟨rfl, rfl⟩
          go_wp2_with fail
          have HP1 := fun W => Lib.hid (Place_c A 32 c w.heap.size ss s W)
          refine ((HP1 _).out hr1 hw1 (by omega) hsz hs).mono ?_
          rintro e w2 ⟨rfl, hb2⟩
          go_wp2
          go_ret2
          exact ⟨.inl ⟨by rw [HE.out]; decide, by rw [HE.out]; rfl⟩, hb1.trans (hb2.mono hw1)⟩
        · have HE := Lib.hid (show putErr (lists ss) s.data.toList = 0 from by unfold putErr; rw [hR, hN, hP, HL.out]; simp [h32])
          have hb32 : ((n : Int) == 32) = false := by simp; omega
          have hb33 : (n == 32) = false := by simp; omega
          clear hP h32
          go_enter Try.func25, Try.ntmps25
          go_wp2_with fail
          refine ((HR _).out hr hB (by omega) hsz).mono ?_
          rintro e w1 ⟨rfl, hb1⟩
          have hr1 := (hr.more hB).below hb1
          have hw1 := hb1.size
          go_wp2_with fail
          refine ((HN _).out).mono ?_
          rintro e w1' ⟨rfl, rfl⟩
          go_wp2_with fail
          have HP1 := fun W => Lib.hid (Place_c A n c w.heap.size ss s W)
          refine ((HP1 _).out hr1 hw1 (by omega) hsz hs).mono ?_
          rintro e w2 ⟨rfl, hb2⟩
          have hb2' := hb1.trans (hb2.mono hw1)
          have hr2 := (hr.more hB).below hb2'
          have hw2 := hb2'.size
          clear hr1 hb2
          go_wp2_with fail
          have HC1 := fun W => Lib.hid (CloneS_c A n c w.heap.size ss W)
          refine ((HC1 _).out hr2 hw2 (by omega)).mono ?_
          rintro e w3 ⟨v, rfl, hown, hb3⟩
          have hb3' := hb2'.trans (hb3.mono hw2)
          have hw3 := hb3.size
          go_wp2_with (at_builtin; go_must (refine wpList_append_one w3 rfl _ _ 31 rfl w2.heap.size 9 i0 _ 16 Try.underlying31 hi0 hz0 hz1 hz2 rfl _ n _ hown rfl (.string s) rfl rfl (by unfold maxLen; omega) (by omega) hw3 ?_); intro v' w4 hown4 hg4)
          go_ret2
          refine ⟨.inr ⟨HE.out, v', rfl, ?_⟩, below_own hb3' hg4 hown hw2 (by omega)⟩
          rw [List.map_append]
          exact ownsRow_base hown4 hw2
      · have hP0 : (0 : Int) < (placeOf (lists ss) s.data.toList : Int) := by omega
        have HE := Lib.hid (show putErr (lists ss) s.data.toList = 7 from by unfold putErr; rw [hR, hN]; simp [hP])
        clear hP
        go_enter Try.func25, Try.ntmps25
        go_wp2_with fail
        refine ((HR _).out hr hB (by omega) hsz).mono ?_
        rintro e w1 ⟨rfl, hb1⟩
        have hr1 := (hr.more hB).below hb1
        have hw1 := hb1.size
        go_wp2_with fail
        refine ((HN _).out).mono ?_
        rintro e w1' ⟨rfl, rfl⟩
        go_wp2_with fail
        have HP1 := fun W => Lib.hid (Place_c A n c w.heap.size ss s W)
        refine ((HP1 _).out hr1 hw1 (by omega) hsz hs).mono ?_
        rintro e w2 ⟨rfl, hb2⟩
        go_wp2
        go_ret2
        exact ⟨.inl ⟨by rw [HE.out]; decide, by rw [HE.out]; rfl⟩, hb1.trans (hb2.mono hw1)⟩
    · have hN' : namedB s.data.toList = false := by simpa using hN
      have HE := Lib.hid (show putErr (lists ss) s.data.toList = 3 from by unfold putErr; rw [hR, hN']; rfl)
      go_enter Try.func25, Try.ntmps25
      go_wp2_with fail
      refine ((HR _).out hr hB (by omega) hsz).mono ?_
      rintro e w1 ⟨rfl, hb1⟩
      go_wp2_with fail
      refine ((HN _).out).mono ?_
      rintro e w1' ⟨rfl, rfl⟩
      go_wp2
      go_ret2
      exact ⟨.inl ⟨by rw [HE.out]; decide, by rw [HE.out]; rfl⟩, hb1⟩
  · have hR' : rightB (lists ss) = false := by simpa using hR
    have HE := Lib.hid (show putErr (lists ss) s.data.toList = 1 from by unfold putErr; rw [hR']; rfl)
    go_enter Try.func25, Try.ntmps25
    go_wp2_with fail
    refine ((HR _).out hr hB (by omega) hsz).mono ?_
    rintro e w1 ⟨rfl, hb1⟩
    go_wp2
    go_ret2
    exact ⟨.inl ⟨by rw [HE.out]; decide, by rw [HE.out]; rfl⟩, hb1⟩
end Go.Proofs.Ytmdclaahfndhdaa
