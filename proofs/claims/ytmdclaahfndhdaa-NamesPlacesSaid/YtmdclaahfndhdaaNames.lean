/- Contracts of the package names, of what it calls, and of its reference. -/
import Derived.Test.YtmdclaahfndhdaaRows
import Derived.Test.YtmdclaahfndhdaaArgs
import Derived.Test.YtmdclaahfndhdaaNamesP
import Derived.Maps.OwnSet
import Derived.WalkLawsBesides
import Derived.WalkSpells
import Derived.Deep.DeepMust
import Derived.Outline
namespace Go.Proofs.Ytmdclaahfndhdaa
set_option linter.unusedVariables false
open Go.RowKit Go.Maps Go.WideMaps

/-- the names as lists of bytes. -/
def lists (ss : List ByteArray) : List (List UInt8) := ss.map (·.data.toList)
theorem lists_take (ss : List ByteArray) (k : Nat) : lists (ss.take k) = (lists ss).take k := by simp [lists, List.map_take]
theorem lists_length (ss : List ByteArray) : (lists ss).length = ss.length := by simp [lists]
theorem lists_get (ss : List ByteArray) (k : Nat) (s : ByteArray) (h : ss[k]? = some s) : (lists ss)[k]? = some s.data.toList := by simp [lists, h]
theorem lists_snoc (ss : List ByteArray) (s : ByteArray) : lists (ss ++ [s]) = lists ss ++ [s.data.toList] := by simp [lists]
theorem take_succ_str (zs : List ByteArray) (k : Nat) (x : ByteArray) (h : zs[k]? = some x) : zs.take (k + 1) = zs.take k ++ [x] := by
  rw [List.take_add_one, h]; rfl
theorem str_beq (a b : ByteArray) : (a.toList == b.toList) = decide (a.data.toList = b.data.toList) := by
  rw [ByteArray.toList_eq, ByteArray.toList_eq]
  rw [Bool.eq_iff_iff]; simp

theorem Reads.str_at {w : World} {B n k : Nat} {A : Option Addr} {ss : List ByteArray} (h : Reads w B 1 A n (ss.map Value.string)) (hk : k < n) : ∃ ad s, A = some ad ∧ ad.block < B ∧ ss[k]? = some s ∧ w.cell? (ad.add k) = some (.string s) := by
  obtain ⟨ad, u, rfl, hb, hx, hc⟩ := h.at_ hk
  obtain ⟨s, hs, rfl⟩ : ∃ s, ss[k]? = some s ∧ Value.string s = u := by simpa using hx
  exact ⟨ad, s, rfl, hb, hs, hc⟩

def MapIs (w : World) (b : Nat) (l : List (List UInt8)) : Prop :=
  ∃ D : DataW Unit, w.ownsMap Try.prog 9 (plainElem Try.prog 3) b l.length D ∧ (∀ s, Maps.has D (.string s) = decide (placeOf l s ≠ 0)) ∧
    (∀ s, D.atKey (.string s) (.lit (.int .i64 0)) = .lit (.int .i64 (placeOf l s))) ∧ Maps.size D ≤ l.length ∧ (Maps.size D = l.length ↔ l.Nodup)

theorem skeyed : Keyed Try.prog 9 := string_keyed Try.underlying9
theorem zeroInt (w : World) : (zeroValue 3).run Try.prog w = .ok (.int .i64 0) w := by kernel_rfl

theorem mapIs_made (w : World) : MapIs (w.alloc (.map #[] 0)) w.heap.size [] :=
  ⟨.map [], World.ownsMap_made _ _ _ _, fun s => by simp [Maps.has, placeOf], fun s => by simp [DataW.atKey, placeOf], by simp [Maps.size], by simp [Maps.size]⟩

theorem mapIs_old {w : World} {b : Nat} {l : List (List UInt8)} {s : List UInt8} (h : MapIs w b l) (hs : placeOf l s ≠ 0) : MapIs w b (l ++ [s]) := by
  obtain ⟨D, h1, h2, h3, h4, h5⟩ := h
  have hm : s ∈ l := by
    rcases Classical.em (s ∈ l) with h' | h'
    · exact h'
    · exact absurd ((placeOf_zero l s).2 h') hs
  have hp : ∀ x, placeOf (l ++ [s]) x = placeOf l x := by
    intro x
    rcases Classical.em (s = x) with rfl | hne
    · exact placeOf_append l [s] s hs
    · exact placeOf_snoc_miss l x s hne
  refine ⟨D, h1.mono (by simp), fun x => by rw [h2, hp], fun x => by rw [h3, hp], by simp; omega, ?_⟩
  rw [nodup_snoc]
  simp only [List.length_append, List.length_singleton]
  constructor
  · intro h; omega
  · rintro ⟨_, h⟩; exact absurd hm h

theorem mapIs_new {w' : World} {b : Nat} {l : List (List UInt8)} {s : List UInt8} {D : DataW Unit} (hs : placeOf l s = 0) (h2 : ∀ s, Maps.has D (.string s) = decide (placeOf l s ≠ 0))
    (h3 : ∀ s, D.atKey (.string s) (.lit (.int .i64 0)) = .lit (.int .i64 (placeOf l s))) (h4 : Maps.size D ≤ l.length) (h5 : Maps.size D = l.length ↔ l.Nodup) (ht : Maps.Tidy D)
    (ho : w'.ownsMap Try.prog 9 (plainElem Try.prog 3) b (l.length + 1) (D.put (.string s) (.lit (.int .i64 ((l.length : Int) + 1))))) : MapIs w' b (l ++ [s]) := by
  have hk : WideAt.IsKeyLit (.string s) := by simp [WideAt.IsKeyLit]
  have hnh : Maps.has D (.string s) = false := by rw [h2, hs]; rfl
  refine ⟨_, by simpa using ho, fun x => ?_, fun x => ?_, ?_, ?_⟩
  · rcases Classical.em (s = x) with rfl | hne
    · rw [Maps.has_put_same ht.isMap hk, placeOf_snoc_hit l s hs]; simp
    · rw [Maps.has_put_other (by simpa using fun e => hne e.symm), h2, placeOf_snoc_miss l x s hne]
  · rcases Classical.em (s = x) with rfl | hne
    · rw [Maps.atKey_put_same ht.isMap hk, placeOf_snoc_hit l s hs]; rfl
    · rw [Maps.atKey_put_other (by simpa using fun e => hne e.symm), h3, placeOf_snoc_miss l x s hne]
  · rw [Maps.size_put ht, hnh]; simp; omega
  · rw [Maps.size_put ht, hnh, nodup_snoc, ← h5]
    have := (placeOf_zero l s).1 hs
    simp [this]

theorem places_c (A : Option Addr) (n c B : Nat) (ss : List ByteArray) (w : World) (hr : Reads w B 1 A n (ss.map Value.string)) (hB : B ≤ w.heap.size) (hn : n ≤ 1000000) (hsz : ∀ s ∈ ss, s.size ≤ maxLen) :
    Calls Try.prog 59 #[.slice A n c] w fun e w' => e = .returned (.map (some w.heap.size)) ∧ MapIs w' w.heap.size (lists ss) ∧ Below w.heap.size w w' := by
  have hl : ss.length = n := by simpa using hr.1
  have HL := Lib.hid hl; clear hl
  have hmm := fun W => run_makeMap_hint (P := Try.prog) 75 9 3 .i64 (n : Int) Try.underlying75 W
  go_enter Try.func59, Try.ntmps59
  go_wp2
  clear hmm
  go_loopw [13] (fun i wr => ∃ k : Nat, k ≤ n ∧ i = .int .i64 k ∧ MapIs wr w.heap.size ((lists ss).take k) ∧ Below w.heap.size w wr) (fun i _ => n - (intOf i).toNat)
  case atStart => exact ⟨0, Nat.zero_le _, rfl, mapIs_made w, (Below.refl _ _).alloc (Nat.le_refl _) _⟩
  case round =>
    obtain ⟨k, hk, rfl, hmap, hbr⟩ := hrel
    by_cases hlt : k < n
    · have hrr := (hr.more hB).below hbr
      obtain ⟨ad, s, rfl, hb, hx, hc⟩ := hrr.str_at hlt
      have hs := hsz s (List.mem_of_getElem? hx)
      have HX := Lib.hid (show (lists ss).take (k + 1) = (lists ss).take k ++ [s.data.toList] by rw [List.take_add_one, lists_get ss k s hx]; rfl)
      have HK : Hid (((lists ss).take k).length = k) := by rw [List.length_take, lists_length, HL.out]; show min k n = k; omega
      have hkey : keyOf Try.prog 9 (.string s) = some (.string s.data.toList) := keyOf_string_mk Try.underlying9 hs
      have HKey := Lib.hid hkey
      clear hx hrr hkey hr
      by_cases h0 : placeOf ((lists ss).take k) s.data.toList = 0
      · obtain ⟨D, h1, h2, h3, h4, h5⟩ := hmap
        have HN := fun (w' : World) => Lib.hid (mapIs_new (w' := w') (b := w.heap.size) h0 h2 h3 h4 h5 (h1.tidy skeyed))
        have hh : Maps.has D (.string s.data.toList) = false := by rw [h2, h0]; rfl
        have H1 := Lib.hid h1
        clear h0 h2 h3 h4 h5 h1
        go_wp2_with (first
          | (at_lookup; go_must (refine wpList_lookup_own_ok_int _ rfl _ _ 75 rfl 9 3 .i64 skeyed Try.underlying75 Try.underlying3 (zeroInt _) w.heap.size _ D rfl H1.out _ _ rfl HKey.out ?_); intro cc hat hwc; clear hat)
          | (at_mapUpdate; go_must (refine wpList_mapUpdate_own _ rfl _ _ _ 75 rfl 9 3 skeyed Try.underlying75 _ w.heap.size _ _ rfl H1.out (by rw [HK.out]; unfold maxLen; omega) _ _ _ rfl rfl HKey.out _ [] (plainElem_int Try.underlying3 (WalkArith.wf_i64 (by omega))) ?_); intro w1 hown1 hg1))
        go_roundw
        case rel =>
          refine ⟨k + 1, by omega, by go_num, ?_, hbr.grown hg1 hbr.size (fun j hj => by cases hj; exact Nat.le_refl _)⟩
          rw [HX.out]
          refine (HN w1).out ?_
          rw [HK.out]
          rw [HK.out] at hown1
          exact hown1
        case measure => simp [intOf]; omega
      · have HO : Hid (MapIs wr w.heap.size ((lists ss).take k ++ [s.data.toList])) := mapIs_old hmap h0
        obtain ⟨D, h1, h2, _⟩ := hmap
        have hh : Maps.has D (.string s.data.toList) = true := by rw [h2]; simpa using h0
        have H1 := Lib.hid h1
        clear h0 h2 h1
        go_wp2_with (first
          | (at_lookup; go_must (refine wpList_lookup_own_ok_int _ rfl _ _ 75 rfl 9 3 .i64 skeyed Try.underlying75 Try.underlying3 (zeroInt _) w.heap.size _ D rfl H1.out _ _ rfl HKey.out ?_); intro cc hat hwc; clear hat))
        go_roundw
        case rel => exact ⟨k + 1, by omega, by go_num, by rw [HX.out]; exact HO.out, hbr⟩
        case measure => simp [intOf]; omega
    · have HT := Lib.hid (List.take_of_length_le (l := lists ss) (i := k) (by rw [lists_length, HL.out]; omega))
      go_wp2
      go_ret
      exact ⟨rfl, by rw [← HT.out]; exact hmap, hbr⟩
end Go.Proofs.Ytmdclaahfndhdaa
