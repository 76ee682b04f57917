/- awake of the laws of tokens. -/
import Derived.Test.YtadidldkphimfaaTok6
import Derived.Test.YtadidldkphimfaaTreeMk
namespace Go.Proofs.Ytadidldkphimfaa
set_option linter.unusedVariables false
open Go.RowKit Go.ChangeShapes

theorem aw_uenc : uencB 300 = [172, 2] := by rw [uencB_big (by omega), uencB_small (by omega)]; rfl
theorem aw_tok (X : List UInt8) : ∃ a b c d e1 f1 g1 h1 : UInt8, tokB X 300 = [97, 99, 48, 50, a, b, c, d, e1, f1, g1, h1] := by
  unfold tokB tokP
  rw [aw_uenc, hexB_append]
  generalize plainN _ = p
  have h : ∃ x y z u, le4B p = [x, y, z, u] := ⟨_, _, _, _, rfl⟩
  obtain ⟨x, y, z, u, h⟩ := h
  rw [h, hexB_cons, hexB_cons, hexB_cons, hexB_cons, hexB_cons, hexB_cons]
  exact ⟨_, _, _, _, _, _, _, _, rfl⟩
theorem aw_rightT : rightT (FT.mk 1 0 0 ⟨#[]⟩ []) = true := by kernel_rfl
theorem aw_make : makeR (FT.mk 1 0 0 ⟨#[]⟩ []) 300 = (⟨(tokB (bytesT (FT.mk 1 0 0 ⟨#[]⟩ [])) 300).toArray⟩, 0) := by unfold makeR makeB; rw [aw_rightT]; rfl
theorem aw_read : readV (FT.mk 1 0 0 ⟨#[]⟩ []) (tokB (bytesT (FT.mk 1 0 0 ⟨#[]⟩ [])) 300) = (300, 0) := by
  unfold readV
  rw [aw_rightT, if_pos rfl, (readF_iff _ _ 300).2 ⟨by omega, rfl⟩]
  rfl
theorem read_short {X l : List UInt8} (h : l.length < 10) : readF X l = none := by
  cases h1 : readF X l with
  | none => rfl
  | some m =>
    have h2 := ((readF_iff ..).1 h1).2
    have h3 := congrArg List.length h2
    rw [tokB_length] at h3
    have := uencB_pos m
    omega
theorem aw_cut : readV (FT.mk 1 0 0 ⟨#[]⟩ []) [97, 99, 48, 50] = (0, 17) := by
  unfold readV
  rw [aw_rightT, if_pos rfl, read_short (by decide)]

set_option maxHeartbeats 4000000 in
set_option maxRecDepth 100000 in
theorem awake_c (w : World) : Calls Try.prog 5 #[] w fun e w' => e = .returned (.bool true) ∧ Below w.heap.size w w' := by
  have HL := Lib.hid (FTr.leaf w w.heap.size 1 0 0 (by decide) (by decide) (by decide))
  obtain ⟨a, b, c, d, e1, f1, g1, h1, htok⟩ := aw_tok (bytesT (FT.mk 1 0 0 ⟨#[]⟩ []))
  have hmk := aw_make
  have hrd := aw_read
  rw [htok] at hmk hrd
  clear htok
  have HK1 := Lib.hid (show Kept w (w.alloc (.cells #[.int .i64 1, .int .i64 0, .int .i64 0, .string ⟨#[]⟩, .slice none 0 0] 24)) [(w.heap.size, 24, #[.int .i64 1, .int .i64 0, .int .i64 0, .string ⟨#[]⟩, .slice none 0 0])] from ((Kept.start w).alloc_at 24 #[.int .i64 1, .int .i64 0, .int .i64 0, .string ⟨#[]⟩, .slice none 0 0] (w.heap.size) (by simp)))
  go_enter Try.func5, Try.ntmps5
  go_wp2_with fail
  with_reducible refine (Make_c HL.out 300 _ HK1.out.bel HK1.out.size).mono ?_
  rw [hmk]
  clear hmk
  rintro e w1 ⟨rfl, hb1⟩
  have HK2 := Lib.hid (show Kept w w1 [(w.heap.size, 24, #[.int .i64 1, .int .i64 0, .int .i64 0, .string ⟨#[]⟩, .slice none 0 0])] from HK1.out.next hb1)
  clear HK1
  clear hb1
  have c_f_0 : w1.cell? ⟨w.heap.size, 0, none⟩ = some (.int .i64 1) := HK2.out.cell 0 rfl 0
  have c_f_1 : w1.cell? ⟨w.heap.size, 1, none⟩ = some (.int .i64 0) := HK2.out.cell 0 rfl 1
  have c_f_2 : w1.cell? ⟨w.heap.size, 2, none⟩ = some (.int .i64 0) := HK2.out.cell 0 rfl 2
  have c_f_3 : w1.cell? ⟨w.heap.size, 3, none⟩ = some (.string ⟨#[]⟩) := HK2.out.cell 0 rfl 3
  have c_f_4 : w1.cell? ⟨w.heap.size, 4, none⟩ = some (.slice none 0 0) := HK2.out.cell 0 rfl 4
  go_wp2_with fail
  with_reducible refine (Read_c HL.out _ (by simp [ByteArray.size]) _ HK2.out.bel HK2.out.size).mono ?_
  simp only []
  rw [hrd]
  clear hrd
  rintro e w2 ⟨rfl, hb2⟩
  clear c_f_0 c_f_1 c_f_2 c_f_3 c_f_4
  have HK3 := Lib.hid (show Kept w w2 [(w.heap.size, 24, #[.int .i64 1, .int .i64 0, .int .i64 0, .string ⟨#[]⟩, .slice none 0 0])] from HK2.out.next hb2)
  clear HK2
  clear hb2
  have c_f_0 : w2.cell? ⟨w.heap.size, 0, none⟩ = some (.int .i64 1) := HK3.out.cell 0 rfl 0
  have c_f_1 : w2.cell? ⟨w.heap.size, 1, none⟩ = some (.int .i64 0) := HK3.out.cell 0 rfl 1
  have c_f_2 : w2.cell? ⟨w.heap.size, 2, none⟩ = some (.int .i64 0) := HK3.out.cell 0 rfl 2
  have c_f_3 : w2.cell? ⟨w.heap.size, 3, none⟩ = some (.string ⟨#[]⟩) := HK3.out.cell 0 rfl 3
  have c_f_4 : w2.cell? ⟨w.heap.size, 4, none⟩ = some (.slice none 0 0) := HK3.out.cell 0 rfl 4
  go_wp2_with fail
  with_reducible refine (Read_c HL.out _ (by simp [ByteArray.size]) _ HK3.out.bel HK3.out.size).mono ?_
  simp only []
  rw [aw_cut]
  rintro e w3 ⟨rfl, hb3⟩
  clear c_f_0 c_f_1 c_f_2 c_f_3 c_f_4
  have HK4 := Lib.hid (show Kept w w3 [(w.heap.size, 24, #[.int .i64 1, .int .i64 0, .int .i64 0, .string ⟨#[]⟩, .slice none 0 0])] from HK3.out.next hb3)
  clear HK3
  clear hb3
  have hx : (((⟨#[97, 99, 48, 50, a, b, c, d, e1, f1, g1, h1]⟩ : ByteArray).extract 0 4).toList == [97, 99, 48, 50]) = true := by rw [ba_toList]; rfl
  go_wp2
  go_ret
  exact ⟨rfl, HK4.out.bel⟩
end Go.Proofs.Ytadidldkphimfaa
