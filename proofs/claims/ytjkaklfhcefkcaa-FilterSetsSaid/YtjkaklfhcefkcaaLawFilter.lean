/- awake of the laws of filters. -/
import Derived.Test.YtjkaklfhcefkcaaFBytes
import Derived.Test.YtjkaklfhcefkcaaSel2
import Derived.Test.YtjkaklfhcefkcaaTreeMk
namespace Go.Proofs.Ytjkaklfhcefkcaa
set_option linter.unusedVariables false
open Go.RowKit Go.ChangeShapes

theorem reads_evs {w : World} {g : Nat} {cs : Array Value} {evs : List Evt} {n : Nat} (h : Blk w g 33 cs) (hc : cs.toList = evCells evs) (hn : evs.length = n) : Reads w (g + 1) 7 (some ⟨g, 0, none⟩) n (evCells evs) := by
  subst hn
  refine ⟨evCells_length evs, fun _ => ⟨_, rfl, Nat.lt_succ_self _, fun j u hu => ?_⟩⟩
  rw [add_plain, Nat.zero_add, h.cell j, ← hu, ← hc]
  simp
theorem aw_right : rightT (FT.mk 6 0 0 ⟨#[]⟩ [.mk 4 0 0 ⟨#[98]⟩ [], .mk 8 0 0 ⟨#[]⟩ [.mk 5 4 0 ⟨#[]⟩ []]]) = true := by kernel_rfl
theorem aw_sel : selT (FT.mk 6 0 0 ⟨#[]⟩ [.mk 4 0 0 ⟨#[98]⟩ [], .mk 8 0 0 ⟨#[]⟩ [.mk 5 4 0 ⟨#[]⟩ []]]) [(⟨0, 0, 4, ⟨#[98]⟩, 0, 0, 0⟩ : Evt), (⟨0, 0, 3, ⟨#[98]⟩, 0, 0, 0⟩ : Evt), (⟨0, 0, 3, ⟨#[99]⟩, 0, 0, 0⟩ : Evt)] = [(⟨0, 0, 3, ⟨#[98]⟩, 0, 0, 0⟩ : Evt)] := by
  unfold selT
  rw [aw_right, if_pos rfl]
  simp [selE, meansF, meansH, allL, ByteArray.toList_eq]
theorem aw_means : meansF (FT.mk 6 0 0 ⟨#[]⟩ [.mk 4 0 0 ⟨#[98]⟩ [], .mk 8 0 0 ⟨#[]⟩ [.mk 5 4 0 ⟨#[]⟩ []]]) (⟨0, 0, 4, ⟨#[98]⟩, 0, 0, 0⟩ : Evt) = false := by
  simp [meansF, meansH, allL, ByteArray.toList_eq]
theorem aw_rb : rightT (FT.mk 3 1 300 ⟨#[]⟩ []) = true := by kernel_rfl
theorem aw_bytes : bytesT (FT.mk 3 1 300 ⟨#[]⟩ []) = [3, 1, 172, 2, 0, 0] := by
  unfold bytesT
  rw [aw_rb, if_pos rfl, encF, encL, headB]
  rw [show (300 : Int).toNat = 300 from rfl, show (3 : Int).toNat = 3 from rfl, show (1 : Int).toNat = 1 from rfl, uencB_small (n := 3) (by omega), uencB_small (n := 1) (by omega), uencB_big (n := 300) (by omega), uencB_small (n := 300 / 128) (by omega)]
  rw [show ([] : List FT).length = 0 from rfl, uencB_small (n := 0) (by omega), textB]
  rw [show (⟨#[]⟩ : ByteArray).data.toList = [] from rfl, show ([] : List UInt8).length = 0 from rfl, uencB_small (n := 0) (by omega)]
  rfl
theorem aw_tree (w : World) : FTr (((w.alloc (.cells #[.int .i64 5, .int .i64 4, .int .i64 0, .string ⟨#[]⟩, .slice none 0 0] 24)).alloc (.cells #[.int .i64 4, .int .i64 0, .int .i64 0, .string ⟨#[98]⟩, .slice none 0 0, .int .i64 8, .int .i64 0, .int .i64 0, .string ⟨#[]⟩, .slice (some ⟨w.heap.size, 0, none⟩) 1 1] 24)).alloc (.cells #[.int .i64 6, .int .i64 0, .int .i64 0, .string ⟨#[]⟩, .slice (some ⟨w.heap.size + 1, 0, none⟩) 2 2] 24)) (w.heap.size + 2) [.int .i64 6, .int .i64 0, .int .i64 0, .string ⟨#[]⟩, .slice (some ⟨w.heap.size + 1, 0, none⟩) 2 2] (FT.mk 6 0 0 ⟨#[]⟩ [.mk 4 0 0 ⟨#[98]⟩ [], .mk 8 0 0 ⟨#[]⟩ [.mk 5 4 0 ⟨#[]⟩ []]]) := by
  have HK := ((Kept.start w).alloc_at 24 #[.int .i64 5, .int .i64 4, .int .i64 0, .string ⟨#[]⟩, .slice none 0 0] (w.heap.size) rfl).alloc_at 24 #[.int .i64 4, .int .i64 0, .int .i64 0, .string ⟨#[98]⟩, .slice none 0 0, .int .i64 8, .int .i64 0, .int .i64 0, .string ⟨#[]⟩, .slice (some ⟨w.heap.size, 0, none⟩) 1 1] (w.heap.size + 1) (by simp) |>.alloc_at 24 #[.int .i64 6, .int .i64 0, .int .i64 0, .string ⟨#[]⟩, .slice (some ⟨w.heap.size + 1, 0, none⟩) 2 2] (w.heap.size + 2) (by simp)
  have b1 := HK.blk 2 rfl
  have b2 := HK.blk 1 rfl
  exact FTr.two (FTr.leafN _ _ 4 0 0 ⟨#[98]⟩ (by decide) (by decide) (by decide) (by decide)) (FTr.one (FTr.leafN _ _ 5 4 0 ⟨#[]⟩ (by decide) (by decide) (by decide) (by decide)) b1 (by omega) 8 (by decide)) b2 (by omega) 6 (by decide)

set_option maxHeartbeats 4000000 in
set_option maxRecDepth 100000 in
theorem awake_c (w : World) : Calls Try.prog 6 #[] w fun e w' => e = .returned (.bool true) ∧ Below w.heap.size w w' := by
  have HT := Lib.hid (aw_tree w)
  have HL := Lib.hid (FTr.leafN w w.heap.size 3 1 300 ⟨#[]⟩ (by decide) (by decide) (by decide) (by decide))
  have HK1 := Lib.hid (show Kept w (((w.alloc (.cells #[.int .i64 5, .int .i64 4, .int .i64 0, .string ⟨#[]⟩, .slice none 0 0] 24)).alloc (.cells #[.int .i64 4, .int .i64 0, .int .i64 0, .string ⟨#[98]⟩, .slice none 0 0, .int .i64 8, .int .i64 0, .int .i64 0, .string ⟨#[]⟩, .slice (some ⟨w.heap.size, 0, none⟩) 1 1] 24)).alloc (.cells #[.int .i64 6, .int .i64 0, .int .i64 0, .string ⟨#[]⟩, .slice (some ⟨w.heap.size + 1, 0, none⟩) 2 2] 24)) [(w.heap.size + 2, 24, #[.int .i64 6, .int .i64 0, .int .i64 0, .string ⟨#[]⟩, .slice (some ⟨w.heap.size + 1, 0, none⟩) 2 2]), (w.heap.size + 1, 24, #[.int .i64 4, .int .i64 0, .int .i64 0, .string ⟨#[98]⟩, .slice none 0 0, .int .i64 8, .int .i64 0, .int .i64 0, .string ⟨#[]⟩, .slice (some ⟨w.heap.size, 0, none⟩) 1 1]), (w.heap.size, 24, #[.int .i64 5, .int .i64 4, .int .i64 0, .string ⟨#[]⟩, .slice none 0 0])] from ((((Kept.start w).alloc_at 24 #[.int .i64 5, .int .i64 4, .int .i64 0, .string ⟨#[]⟩, .slice none 0 0] (w.heap.size) (by simp)).alloc_at 24 #[.int .i64 4, .int .i64 0, .int .i64 0, .string ⟨#[98]⟩, .slice none 0 0, .int .i64 8, .int .i64 0, .int .i64 0, .string ⟨#[]⟩, .slice (some ⟨w.heap.size, 0, none⟩) 1 1] (w.heap.size + 1) (by simp)).alloc_at 24 #[.int .i64 6, .int .i64 0, .int .i64 0, .string ⟨#[]⟩, .slice (some ⟨w.heap.size + 1, 0, none⟩) 2 2] (w.heap.size + 2) (by simp)))
  have HK2 := Lib.hid (show Kept w ((((w.alloc (.cells #[.int .i64 5, .int .i64 4, .int .i64 0, .string ⟨#[]⟩, .slice none 0 0] 24)).alloc (.cells #[.int .i64 4, .int .i64 0, .int .i64 0, .string ⟨#[98]⟩, .slice none 0 0, .int .i64 8, .int .i64 0, .int .i64 0, .string ⟨#[]⟩, .slice (some ⟨w.heap.size, 0, none⟩) 1 1] 24)).alloc (.cells #[.int .i64 6, .int .i64 0, .int .i64 0, .string ⟨#[]⟩, .slice (some ⟨w.heap.size + 1, 0, none⟩) 2 2] 24)).alloc (.cells #[.int .i64 0, .int .i64 0, .int .i64 4, .string ⟨#[98]⟩, .int .i64 0, .int .i64 0, .int .i64 0, .int .i64 0, .int .i64 0, .int .i64 3, .string ⟨#[98]⟩, .int .i64 0, .int .i64 0, .int .i64 0, .int .i64 0, .int .i64 0, .int .i64 3, .string ⟨#[99]⟩, .int .i64 0, .int .i64 0, .int .i64 0] 33)) [(w.heap.size + 3, 33, #[.int .i64 0, .int .i64 0, .int .i64 4, .string ⟨#[98]⟩, .int .i64 0, .int .i64 0, .int .i64 0, .int .i64 0, .int .i64 0, .int .i64 3, .string ⟨#[98]⟩, .int .i64 0, .int .i64 0, .int .i64 0, .int .i64 0, .int .i64 0, .int .i64 3, .string ⟨#[99]⟩, .int .i64 0, .int .i64 0, .int .i64 0]), (w.heap.size + 2, 24, #[.int .i64 6, .int .i64 0, .int .i64 0, .string ⟨#[]⟩, .slice (some ⟨w.heap.size + 1, 0, none⟩) 2 2]), (w.heap.size + 1, 24, #[.int .i64 4, .int .i64 0, .int .i64 0, .string ⟨#[98]⟩, .slice none 0 0, .int .i64 8, .int .i64 0, .int .i64 0, .string ⟨#[]⟩, .slice (some ⟨w.heap.size, 0, none⟩) 1 1]), (w.heap.size, 24, #[.int .i64 5, .int .i64 4, .int .i64 0, .string ⟨#[]⟩, .slice none 0 0])] from HK1.out.alloc_at 33 #[.int .i64 0, .int .i64 0, .int .i64 4, .string ⟨#[98]⟩, .int .i64 0, .int .i64 0, .int .i64 0, .int .i64 0, .int .i64 0, .int .i64 3, .string ⟨#[98]⟩, .int .i64 0, .int .i64 0, .int .i64 0, .int .i64 0, .int .i64 0, .int .i64 3, .string ⟨#[99]⟩, .int .i64 0, .int .i64 0, .int .i64 0] (w.heap.size + 3) (by simp))
  clear HK1
  have HR3 := Lib.hid (reads_evs (evs := [(⟨0, 0, 4, ⟨#[98]⟩, 0, 0, 0⟩ : Evt), (⟨0, 0, 3, ⟨#[98]⟩, 0, 0, 0⟩ : Evt), (⟨0, 0, 3, ⟨#[99]⟩, 0, 0, 0⟩ : Evt)]) (n := 3) (HK2.out.blk 0 rfl) rfl rfl)
  have HB1 := Lib.hid (show Below (w.heap.size + 2) (((w.alloc (.cells #[.int .i64 5, .int .i64 4, .int .i64 0, .string ⟨#[]⟩, .slice none 0 0] 24)).alloc (.cells #[.int .i64 4, .int .i64 0, .int .i64 0, .string ⟨#[98]⟩, .slice none 0 0, .int .i64 8, .int .i64 0, .int .i64 0, .string ⟨#[]⟩, .slice (some ⟨w.heap.size, 0, none⟩) 1 1] 24)).alloc (.cells #[.int .i64 6, .int .i64 0, .int .i64 0, .string ⟨#[]⟩, .slice (some ⟨w.heap.size + 1, 0, none⟩) 2 2] 24)) ((((w.alloc (.cells #[.int .i64 5, .int .i64 4, .int .i64 0, .string ⟨#[]⟩, .slice none 0 0] 24)).alloc (.cells #[.int .i64 4, .int .i64 0, .int .i64 0, .string ⟨#[98]⟩, .slice none 0 0, .int .i64 8, .int .i64 0, .int .i64 0, .string ⟨#[]⟩, .slice (some ⟨w.heap.size, 0, none⟩) 1 1] 24)).alloc (.cells #[.int .i64 6, .int .i64 0, .int .i64 0, .string ⟨#[]⟩, .slice (some ⟨w.heap.size + 1, 0, none⟩) 2 2] 24)).alloc (.cells #[.int .i64 0, .int .i64 0, .int .i64 4, .string ⟨#[98]⟩, .int .i64 0, .int .i64 0, .int .i64 0, .int .i64 0, .int .i64 0, .int .i64 3, .string ⟨#[98]⟩, .int .i64 0, .int .i64 0, .int .i64 0, .int .i64 0, .int .i64 0, .int .i64 3, .string ⟨#[99]⟩, .int .i64 0, .int .i64 0, .int .i64 0] 33)) from (Below.refl _ _).alloc (by simp) _)
  go_enter Try.func6, Try.ntmps6
  go_wp2_with fail
  with_reducible refine (Select_c HT.out _ HB1.out (by simp) (some ⟨w.heap.size + 3, 0, none⟩) 3 3 (w.heap.size + 3 + 1) [(⟨0, 0, 4, ⟨#[98]⟩, 0, 0, 0⟩ : Evt), (⟨0, 0, 3, ⟨#[98]⟩, 0, 0, 0⟩ : Evt), (⟨0, 0, 3, ⟨#[99]⟩, 0, 0, 0⟩ : Evt)] HR3.out (by simp) (by omega)).mono ?_
  unfold SelOk
  rw [aw_sel]
  rintro e w2 ⟨v2, rfl, hown2, hb2⟩
  obtain ⟨A2, c2, rfl, _, hc2, hr2⟩ := own_evs hown2
  have HR2 := Lib.hid hr2
  have HB2 := Lib.hid (show Below (w.heap.size + 2) (((w.alloc (.cells #[.int .i64 5, .int .i64 4, .int .i64 0, .string ⟨#[]⟩, .slice none 0 0] 24)).alloc (.cells #[.int .i64 4, .int .i64 0, .int .i64 0, .string ⟨#[98]⟩, .slice none 0 0, .int .i64 8, .int .i64 0, .int .i64 0, .string ⟨#[]⟩, .slice (some ⟨w.heap.size, 0, none⟩) 1 1] 24)).alloc (.cells #[.int .i64 6, .int .i64 0, .int .i64 0, .string ⟨#[]⟩, .slice (some ⟨w.heap.size + 1, 0, none⟩) 2 2] 24)) w2 from HB1.out.trans (hb2.mono (by simp)))
  clear hown2 hr2 HB1 HR3
  have HK3 := Lib.hid (show Kept w w2 [(w.heap.size + 2, 24, #[.int .i64 6, .int .i64 0, .int .i64 0, .string ⟨#[]⟩, .slice (some ⟨w.heap.size + 1, 0, none⟩) 2 2]), (w.heap.size + 1, 24, #[.int .i64 4, .int .i64 0, .int .i64 0, .string ⟨#[98]⟩, .slice none 0 0, .int .i64 8, .int .i64 0, .int .i64 0, .string ⟨#[]⟩, .slice (some ⟨w.heap.size, 0, none⟩) 1 1]), (w.heap.size, 24, #[.int .i64 5, .int .i64 4, .int .i64 0, .string ⟨#[]⟩, .slice none 0 0])] from (HK2.out.next hb2).sub (List.Sublist.cons _ (List.Sublist.cons_cons _ (List.Sublist.cons_cons _ (List.Sublist.cons_cons _ List.Sublist.slnil)))))
  clear HK2
  clear hb2
  have hz2 := HK3.out.lt 0 rfl
  have c_f_0 : w2.cell? ⟨w.heap.size + 2, 0, none⟩ = some (.int .i64 6) := HK3.out.cell 0 rfl 0
  have c_f_1 : w2.cell? ⟨w.heap.size + 2, 1, none⟩ = some (.int .i64 0) := HK3.out.cell 0 rfl 1
  have c_f_2 : w2.cell? ⟨w.heap.size + 2, 2, none⟩ = some (.int .i64 0) := HK3.out.cell 0 rfl 2
  have c_f_3 : w2.cell? ⟨w.heap.size + 2, 3, none⟩ = some (.string ⟨#[]⟩) := HK3.out.cell 0 rfl 3
  have c_f_4 : w2.cell? ⟨w.heap.size + 2, 4, none⟩ = some (.slice (some ⟨w.heap.size + 1, 0, none⟩) 2 2) := HK3.out.cell 0 rfl 4
  go_wp2_with fail
  with_reducible refine (Right_c HT.out _ HB2.out (by omega)).mono ?_
  rw [aw_right]
  rintro e w3 ⟨rfl, hb3⟩
  have HB3 := Lib.hid (HB2.out.trans (hb3.mono (by omega)))
  have HR4 := Lib.hid ((HR2.out.below hb3))
  clear HB2 HR2
  clear c_f_0 c_f_1 c_f_2 c_f_3 c_f_4
  have HK4 := Lib.hid (show Kept w w3 [(w.heap.size + 2, 24, #[.int .i64 6, .int .i64 0, .int .i64 0, .string ⟨#[]⟩, .slice (some ⟨w.heap.size + 1, 0, none⟩) 2 2]), (w.heap.size + 1, 24, #[.int .i64 4, .int .i64 0, .int .i64 0, .string ⟨#[98]⟩, .slice none 0 0, .int .i64 8, .int .i64 0, .int .i64 0, .string ⟨#[]⟩, .slice (some ⟨w.heap.size, 0, none⟩) 1 1]), (w.heap.size, 24, #[.int .i64 5, .int .i64 4, .int .i64 0, .string ⟨#[]⟩, .slice none 0 0])] from HK3.out.next hb3)
  clear HK3
  clear hb3
  obtain ⟨ad, e, rfl, hb, he, d0, d1, d2, d3, d4, d5, d6⟩ := ev_in HR4.out (i := 0) (by decide)
  simp at he
  subst he
  simp only at d0 d1 d2 d3 d4 d5 d6
  have ha0 : ad.add (0 * 7) = ad := by simp [Addr.add]
  rw [ha0] at d0 d1 d2 d3 d4 d5 d6
  have hz3 := HK4.out.lt 0 rfl
  have c_f_0 : w3.cell? ⟨w.heap.size + 2, 0, none⟩ = some (.int .i64 6) := HK4.out.cell 0 rfl 0
  have c_f_1 : w3.cell? ⟨w.heap.size + 2, 1, none⟩ = some (.int .i64 0) := HK4.out.cell 0 rfl 1
  have c_f_2 : w3.cell? ⟨w.heap.size + 2, 2, none⟩ = some (.int .i64 0) := HK4.out.cell 0 rfl 2
  have c_f_3 : w3.cell? ⟨w.heap.size + 2, 3, none⟩ = some (.string ⟨#[]⟩) := HK4.out.cell 0 rfl 3
  have c_f_4 : w3.cell? ⟨w.heap.size + 2, 4, none⟩ = some (.slice (some ⟨w.heap.size + 1, 0, none⟩) 2 2) := HK4.out.cell 0 rfl 4
  go_wp2_with fail
  with_reducible refine (Match_c HT.out (⟨0, 0, 4, ⟨#[98]⟩, 0, 0, 0⟩ : Evt) _ HB3.out (by omega)).mono ?_
  rw [aw_right, aw_means]
  rintro e w4 ⟨rfl, hb4⟩
  have HB4 := Lib.hid (HB3.out.trans (hb4.mono (by omega)))
  clear HB3 d0 d1 d2 d3 d4 d5 d6
  clear c_f_0 c_f_1 c_f_2 c_f_3 c_f_4
  have HK5 := Lib.hid (show Kept w w4 [(w.heap.size + 2, 24, #[.int .i64 6, .int .i64 0, .int .i64 0, .string ⟨#[]⟩, .slice (some ⟨w.heap.size + 1, 0, none⟩) 2 2]), (w.heap.size + 1, 24, #[.int .i64 4, .int .i64 0, .int .i64 0, .string ⟨#[98]⟩, .slice none 0 0, .int .i64 8, .int .i64 0, .int .i64 0, .string ⟨#[]⟩, .slice (some ⟨w.heap.size, 0, none⟩) 1 1]), (w.heap.size, 24, #[.int .i64 5, .int .i64 4, .int .i64 0, .string ⟨#[]⟩, .slice none 0 0])] from HK4.out.next hb4)
  clear HK4
  clear hb4
  have hz4 := HK5.out.lt 0 rfl
  go_wp2_with fail
  with_reducible refine (Bytes_c HL.out _ HK5.out.bel HK5.out.size).mono ?_
  unfold BytesOk
  rw [aw_bytes]
  rintro e w5 ⟨v5, rfl, hown5, hb5⟩
  rw [show ([3, 1, 172, 2, 0, 0] : List UInt8).length = 6 from rfl] at hown5
  obtain ⟨A5, c5, rfl, _, _, _, hr5⟩ := own_reads hown5
  have HR5 := Lib.hid hr5
  have cv := conv_reads HR5.out c5
  clear hown5 hr5
  have HB5 := Lib.hid (HB4.out.trans (hb5.mono (by omega)))
  clear HB4
  have HK6 := Lib.hid (show Kept w w5 [(w.heap.size + 2, 24, #[.int .i64 6, .int .i64 0, .int .i64 0, .string ⟨#[]⟩, .slice (some ⟨w.heap.size + 1, 0, none⟩) 2 2]), (w.heap.size + 1, 24, #[.int .i64 4, .int .i64 0, .int .i64 0, .string ⟨#[98]⟩, .slice none 0 0, .int .i64 8, .int .i64 0, .int .i64 0, .string ⟨#[]⟩, .slice (some ⟨w.heap.size, 0, none⟩) 1 1]), (w.heap.size, 24, #[.int .i64 5, .int .i64 4, .int .i64 0, .string ⟨#[]⟩, .slice none 0 0])] from HK5.out.next hb5)
  clear HK5
  clear hb5
  have hz5 := HK6.out.lt 0 rfl
  have c_f_0 : w5.cell? ⟨w.heap.size + 2, 0, none⟩ = some (.int .i64 6) := HK6.out.cell 0 rfl 0
  have c_f_1 : w5.cell? ⟨w.heap.size + 2, 1, none⟩ = some (.int .i64 0) := HK6.out.cell 0 rfl 1
  have c_f_2 : w5.cell? ⟨w.heap.size + 2, 2, none⟩ = some (.int .i64 0) := HK6.out.cell 0 rfl 2
  have c_f_3 : w5.cell? ⟨w.heap.size + 2, 3, none⟩ = some (.string ⟨#[]⟩) := HK6.out.cell 0 rfl 3
  have c_f_4 : w5.cell? ⟨w.heap.size + 2, 4, none⟩ = some (.slice (some ⟨w.heap.size + 1, 0, none⟩) 2 2) := HK6.out.cell 0 rfl 4
  go_wp2_with fail
  with_reducible refine (fSame_c HT.out HT.out _ HB5.out (by omega)).mono ?_
  rw [aw_right, (sameF_iff (FT.mk 6 0 0 ⟨#[]⟩ [.mk 4 0 0 ⟨#[98]⟩ [], .mk 8 0 0 ⟨#[]⟩ [.mk 5 4 0 ⟨#[]⟩ []]]) (FT.mk 6 0 0 ⟨#[]⟩ [.mk 4 0 0 ⟨#[98]⟩ [], .mk 8 0 0 ⟨#[]⟩ [.mk 5 4 0 ⟨#[]⟩ []]])).2 rfl]
  rintro e w6 ⟨rfl, hb6⟩
  clear c_f_0 c_f_1 c_f_2 c_f_3 c_f_4
  have HK7 := Lib.hid (show Kept w w6 [(w.heap.size + 2, 24, #[.int .i64 6, .int .i64 0, .int .i64 0, .string ⟨#[]⟩, .slice (some ⟨w.heap.size + 1, 0, none⟩) 2 2]), (w.heap.size + 1, 24, #[.int .i64 4, .int .i64 0, .int .i64 0, .string ⟨#[98]⟩, .slice none 0 0, .int .i64 8, .int .i64 0, .int .i64 0, .string ⟨#[]⟩, .slice (some ⟨w.heap.size, 0, none⟩) 1 1]), (w.heap.size, 24, #[.int .i64 5, .int .i64 4, .int .i64 0, .string ⟨#[]⟩, .slice none 0 0])] from HK6.out.next hb6)
  clear HK6
  clear hb6
  go_wp2
  go_ret
  exact ⟨rfl, HK7.out.bel⟩
end Go.Proofs.Ytjkaklfhcefkcaa
