/- The walk of the law NamesRight. -/
import Derived.Test.YtmdclaahfndhdaaNames5
namespace Go.Proofs.Ytmdclaahfndhdaa
set_option linter.unusedVariables false
open Go.RowKit Go.Maps Go.WideMaps

def putL (ss : List ByteArray) (s : ByteArray) : List ByteArray := if putErr (lists ss) s.data.toList = 0 then ss ++ [s] else ss

def PutU (ss : List ByteArray) (s : ByteArray) (w : World) (e : Ending) (w' : World) : Prop :=
  ∃ A' c', e = .returned (.tuple #[.slice A' (putL ss s).length c', .int .i64 (putErr (lists ss) s.data.toList)]) ∧ Reads w' w'.heap.size 1 A' (putL ss s).length ((putL ss s).map Value.string) ∧ (putL ss s).length ≤ c' ∧ Below w.heap.size w w'

theorem put_u {A : Option Addr} {n c B : Nat} {ss : List ByteArray} {s : ByteArray} {w : World} {e : Ending} {w' : World} (hr : Reads w B 1 A n (ss.map Value.string)) (hB : B ≤ w.heap.size) (hnc : n ≤ c) (h : PutPost A n c ss s w e w') : PutU ss s w e w' := by
  have hl : ss.length = n := by simpa using hr.1
  obtain ⟨⟨hne, rfl⟩ | ⟨h0, v, rfl, hown⟩, hb⟩ := h
  · have hp : putL ss s = ss := by unfold putL; rw [if_neg hne]
    refine ⟨A, c, ?_, ?_, ?_, hb⟩
    · rw [hp, hl]
    · rw [hp, hl]; exact ((hr.more hB).below hb).more hb.size
    · rw [hp, hl]; exact hnc
  · have hp : putL ss s = ss ++ [s] := by unfold putL; rw [if_pos h0]
    have hp2 : (putL ss s).length = n + 1 := by rw [hp]; simp [hl]
    obtain ⟨A', c', rfl, h1, _, _, hrr⟩ := own_reads hown
    refine ⟨A', c', ?_, ?_, ?_, hb⟩
    · rw [h0, hp2]
    · rw [hp2, hp]; exact hrr
    · rw [hp2]; exact h1

theorem putL_size {ss : List ByteArray} {s : ByteArray} {m : Nat} (h : ∀ x ∈ ss, x.size ≤ m) (hs : s.size ≤ m) : ∀ x ∈ putL ss s, x.size ≤ m := by
  intro x hx
  unfold putL at hx
  split at hx
  · rcases List.mem_append.1 hx with h' | h'
    · exact h x h'
    · simp at h'; subst h'; exact hs
  · exact h x hx
theorem putL_len (ss : List ByteArray) (s : ByteArray) : (putL ss s).length ≤ ss.length + 1 := by
  unfold putL; split <;> simp

theorem Names_awake (w : World) : Calls Try.prog 23 #[] w fun e w' => e = .returned (.bool true) ∧ Below w.heap.size w w' := by
  have hr : Reads (w.alloc (.cells #[.string ⟨#[97]⟩] 9)) (w.heap.size + 1) 1 (some ⟨w.heap.size, 0, none⟩) 1 ([⟨#[97]⟩].map Value.string) :=
    Reads.of_blk (Blk.new w 9 #[.string ⟨#[97]⟩]) 1 _ rfl rfl
  have HR := Lib.hid hr; clear hr
  have HB0 : Hid (Below w.heap.size w (w.alloc (.cells #[.string ⟨#[97]⟩] 9))) := (Below.refl _ _).alloc (Nat.le_refl _) _
  have h1 : putErr (lists [⟨#[97]⟩]) (⟨#[98]⟩ : ByteArray).data.toList = 0 := by decide
  have h1' : putL [⟨#[97]⟩] ⟨#[98]⟩ = [⟨#[97]⟩, ⟨#[98]⟩] := by unfold putL; rw [if_pos h1]; rfl
  have h2 : putErr (lists [⟨#[97]⟩, ⟨#[98]⟩]) (⟨#[97]⟩ : ByteArray).data.toList = 7 := by decide
  have h3 : placeOf (lists [⟨#[97]⟩, ⟨#[98]⟩]) (⟨#[98]⟩ : ByteArray).data.toList = 2 := by decide
  have h4 : rightB (lists [⟨#[97]⟩, ⟨#[98]⟩]) = true := by decide
  have H1 := Lib.hid h1; have H1' := Lib.hid h1'; have H2 := Lib.hid h2; have H3 := Lib.hid h3; have H4 := Lib.hid h4
  clear h1 h1' h2 h3 h4
  have hsz1 : ∀ s ∈ ([⟨#[97]⟩] : List ByteArray), s.size ≤ maxLen := by decide
  have hsz2 : ∀ s ∈ ([⟨#[97]⟩, ⟨#[98]⟩] : List ByteArray), s.size ≤ maxLen := by decide
  have HS1 := Lib.hid hsz1; have HS2 := Lib.hid hsz2
  clear hsz1 hsz2
  have e1 : ((⟨#[98]⟩ : ByteArray).toList == (⟨#[98]⟩ : ByteArray).toList) = true := by simp
  go_enter Try.func23, Try.ntmps23
  go_wp2_with fail
  refine (Put_c _ 1 1 _ [⟨#[97]⟩] ⟨#[98]⟩ _ HR.out (by simp) (by omega) HS1.out (by decide)).mono ?_
  intro e w1 hp
  obtain ⟨A1, c1, rfl, hr1, hc1, hb1⟩ := put_u HR.out (by simp) (by omega) hp
  rw [H1.out]
  rw [H1'.out] at hr1 ⊢
  have hb1' := HB0.out.trans (hb1.mono (by simp))
  have HR1 := Lib.hid (show Reads w1 w1.heap.size 1 A1 2 ([⟨#[97]⟩, ⟨#[98]⟩].map Value.string) from hr1)
  clear hp hc1 hr1 hb1
  have hw1 := hb1'.size
  go_wp2_with fail
  refine (At_yes A1 2 c1 _ 1 [⟨#[97]⟩, ⟨#[98]⟩] ⟨#[98]⟩ _ HR1.out (by omega) rfl).mono ?_
  rintro e w1' ⟨rfl, rfl⟩
  go_wp2_with fail
  refine (Put_c _ 2 _ _ [⟨#[97]⟩, ⟨#[98]⟩] ⟨#[97]⟩ _ HR1.out (Nat.le_refl _) (by omega) HS2.out (by decide)).mono ?_
  intro e w2 hp
  obtain ⟨⟨hne, rfl⟩ | ⟨h0, v, rfl, hown⟩, hb2⟩ := hp
  · rw [H2.out]
    have HR2 := Lib.hid ((HR1.out.below hb2).more hb2.size)
    have hb2' := hb1'.trans (hb2.mono hw1)
    have hw2 := hb2'.size
    clear hne
    go_wp2_with fail
    refine (Place_c A1 2 c1 _ [⟨#[97]⟩, ⟨#[98]⟩] ⟨#[98]⟩ _ HR2.out (Nat.le_refl _) (by omega) HS2.out (by decide)).mono ?_
    rintro e w3 ⟨rfl, hb3⟩
    rw [H3.out]
    have HR3 := Lib.hid ((HR2.out.below hb3).more hb3.size)
    have hb3' := hb2'.trans (hb3.mono hw2)
    have hw3 := hb3'.size
    go_wp2_with fail
    refine (Right_c A1 2 c1 _ [⟨#[97]⟩, ⟨#[98]⟩] _ HR3.out (Nat.le_refl _) (by omega) HS2.out).mono ?_
    rintro e w4 ⟨rfl, hb4⟩
    rw [H4.out]
    go_wp2
    go_ret
    exact ⟨rfl, hb3'.trans (hb4.mono hw3)⟩
  · exact absurd h0 (by rw [H2.out]; decide)
end Go.Proofs.Ytmdclaahfndhdaa
