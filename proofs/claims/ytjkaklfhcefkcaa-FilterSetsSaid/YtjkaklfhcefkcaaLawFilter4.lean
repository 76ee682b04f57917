/- The walk of FilterSets. -/
import Derived.Test.YtjkaklfhcefkcaaLawFilter
import Derived.Test.YtjkaklfhcefkcaaSetsP
namespace Go.Proofs.Ytjkaklfhcefkcaa
set_option linter.unusedVariables false
open Go.RowKit Go.ChangeShapes

set_option maxHeartbeats 16000000 in
set_option maxRecDepth 100000 in
theorem FilterSets_walk (cs : List Value) (t : FT) (cs2 : List Value) (u : FT) (Al : Option Addr) (nl cl : Nat) (evs : List Evt) (w : World) (h : FTr w w.heap.size cs t) (h2 : FTr w w.heap.size cs2 u) (hl : EvArg w Al nl cl evs) :
    Calls Try.prog 4 #[.agg cs.toArray, .agg cs2.toArray, .slice Al nl cl] w fun e w' => e = .returned (.bool true) ∧ Below w.heap.size w w' := by
  obtain ⟨hr, hnc, hcm, _, _⟩ := hl
  have HR := Lib.hid hr
  have HL := Lib.hid hr.ev_len
  unfold maxLen at hcm
  clear hr
  have HT := Lib.hid h
  have HU := Lib.hid h2
  cases h with
  | mk op a b name A n c vs ks hop ha hb hnm hn hv hnc hcm hr hk =>
    clear hop ha hb hn hv hr hk hnm hnc hcm
    cases h2 with
    | mk op2 a2 b2 name2 A2 n2 c2 vs2 ks2 hop ha hb hnm hn hv hnc hcm hr hk =>
      clear hop ha hb hn hv hr hk hnm hnc hcm
      generalize FT.mk op a b name ks = t at HT
      generalize FT.mk op2 a2 b2 name2 ks2 = u at HU
      have HK1 := Lib.hid (show Kept w ((w.alloc (.cells #[.int .i64 op, .int .i64 a, .int .i64 b, .string name, .slice A n c] 24)).alloc (.cells #[.int .i64 op2, .int .i64 a2, .int .i64 b2, .string name2, .slice A2 n2 c2] 24)) [(w.heap.size + 1, 24, #[.int .i64 op2, .int .i64 a2, .int .i64 b2, .string name2, .slice A2 n2 c2]), (w.heap.size, 24, #[.int .i64 op, .int .i64 a, .int .i64 b, .string name, .slice A n c])] from (((Kept.start w).alloc_at 24 #[.int .i64 op, .int .i64 a, .int .i64 b, .string name, .slice A n c] (w.heap.size) (by simp)).alloc_at 24 #[.int .i64 op2, .int .i64 a2, .int .i64 b2, .string name2, .slice A2 n2 c2] (w.heap.size + 1) (by simp)))
      go_enter Try.func4, Try.ntmps4
      go_wp2_with fail
      with_reducible refine (awake_c _).mono ?_
      rintro e w1 ⟨rfl, hb1⟩
      have HK2 := Lib.hid (show Kept w w1 [(w.heap.size + 1, 24, #[.int .i64 op2, .int .i64 a2, .int .i64 b2, .string name2, .slice A2 n2 c2]), (w.heap.size, 24, #[.int .i64 op, .int .i64 a, .int .i64 b, .string name, .slice A n c])] from HK1.out.next hb1)
      clear HK1
      clear hb1
      have c_f_0 : w1.cell? ⟨w.heap.size, 0, none⟩ = some (.int .i64 op) := HK2.out.cell 1 rfl 0
      have c_f_1 : w1.cell? ⟨w.heap.size, 1, none⟩ = some (.int .i64 a) := HK2.out.cell 1 rfl 1
      have c_f_2 : w1.cell? ⟨w.heap.size, 2, none⟩ = some (.int .i64 b) := HK2.out.cell 1 rfl 2
      have c_f_3 : w1.cell? ⟨w.heap.size, 3, none⟩ = some (.string name) := HK2.out.cell 1 rfl 3
      have c_f_4 : w1.cell? ⟨w.heap.size, 4, none⟩ = some (.slice A n c) := HK2.out.cell 1 rfl 4
      go_wp2_with fail
      with_reducible refine (Short_c HT.out _ HK2.out.bel HK2.out.size).mono ?_
      rintro e w2 ⟨rfl, hb2⟩
      clear c_f_0 c_f_1 c_f_2 c_f_3 c_f_4
      have HK3 := Lib.hid (show Kept w w2 [(w.heap.size + 1, 24, #[.int .i64 op2, .int .i64 a2, .int .i64 b2, .string name2, .slice A2 n2 c2]), (w.heap.size, 24, #[.int .i64 op, .int .i64 a, .int .i64 b, .string name, .slice A n c])] from HK2.out.next hb2)
      clear HK2
      clear hb2
      cases hsh : shortF t
      · go_wp2
        go_ret
        exact ⟨rfl, HK3.out.bel⟩
      clear hsh
      have c_f_0 : w2.cell? ⟨w.heap.size, 0, none⟩ = some (.int .i64 op) := HK3.out.cell 1 rfl 0
      have c_f_1 : w2.cell? ⟨w.heap.size, 1, none⟩ = some (.int .i64 a) := HK3.out.cell 1 rfl 1
      have c_f_2 : w2.cell? ⟨w.heap.size, 2, none⟩ = some (.int .i64 b) := HK3.out.cell 1 rfl 2
      have c_f_3 : w2.cell? ⟨w.heap.size, 3, none⟩ = some (.string name) := HK3.out.cell 1 rfl 3
      have c_f_4 : w2.cell? ⟨w.heap.size, 4, none⟩ = some (.slice A n c) := HK3.out.cell 1 rfl 4
      have c_g_0 : w2.cell? ⟨w.heap.size + 1, 0, none⟩ = some (.int .i64 op2) := HK3.out.cell 0 rfl 0
      have c_g_1 : w2.cell? ⟨w.heap.size + 1, 1, none⟩ = some (.int .i64 a2) := HK3.out.cell 0 rfl 1
      have c_g_2 : w2.cell? ⟨w.heap.size + 1, 2, none⟩ = some (.int .i64 b2) := HK3.out.cell 0 rfl 2
      have c_g_3 : w2.cell? ⟨w.heap.size + 1, 3, none⟩ = some (.string name2) := HK3.out.cell 0 rfl 3
      have c_g_4 : w2.cell? ⟨w.heap.size + 1, 4, none⟩ = some (.slice A2 n2 c2) := HK3.out.cell 0 rfl 4
      go_wp2_with fail
      with_reducible refine (Short_c HU.out _ HK3.out.bel HK3.out.size).mono ?_
      rintro e w3 ⟨rfl, hb3⟩
      clear c_f_0 c_f_1 c_f_2 c_f_3 c_f_4 c_g_0 c_g_1 c_g_2 c_g_3 c_g_4
      have HK4 := Lib.hid (show Kept w w3 [(w.heap.size + 1, 24, #[.int .i64 op2, .int .i64 a2, .int .i64 b2, .string name2, .slice A2 n2 c2]), (w.heap.size, 24, #[.int .i64 op, .int .i64 a, .int .i64 b, .string name, .slice A n c])] from HK3.out.next hb3)
      clear HK3
      clear hb3
      cases hsh : shortF u
      · go_wp2
        go_ret
        exact ⟨rfl, HK4.out.bel⟩
      clear hsh
      by_cases hlen : 60 < nl
      · have d0 : decide ((60 : Int) < (nl : Int)) = true := by simp; omega
        go_wp2
        go_ret
        exact ⟨rfl, HK4.out.bel⟩
      have d0 : decide ((60 : Int) < (nl : Int)) = false := by simp; omega
      go_wp2_with fail
      with_reducible refine (Names_c Al nl cl w.heap.size evs _ (HR.out.below HK4.out.bel) HK4.out.size (by omega)).mono ?_
      rintro e w4 ⟨rfl, hb4⟩
      clear d0
      have HK5 := Lib.hid (show Kept w w4 [(w.heap.size + 1, 24, #[.int .i64 op2, .int .i64 a2, .int .i64 b2, .string name2, .slice A2 n2 c2]), (w.heap.size, 24, #[.int .i64 op, .int .i64 a, .int .i64 b, .string name, .slice A n c])] from HK4.out.next hb4)
      clear HK4
      clear hb4
      cases hsh : namesE evs
      · go_wp2
        go_ret
        exact ⟨rfl, HK5.out.bel⟩
      clear hsh
      have c_f_0 : w4.cell? ⟨w.heap.size, 0, none⟩ = some (.int .i64 op) := HK5.out.cell 1 rfl 0
      have c_f_1 : w4.cell? ⟨w.heap.size, 1, none⟩ = some (.int .i64 a) := HK5.out.cell 1 rfl 1
      have c_f_2 : w4.cell? ⟨w.heap.size, 2, none⟩ = some (.int .i64 b) := HK5.out.cell 1 rfl 2
      have c_f_3 : w4.cell? ⟨w.heap.size, 3, none⟩ = some (.string name) := HK5.out.cell 1 rfl 3
      have c_f_4 : w4.cell? ⟨w.heap.size, 4, none⟩ = some (.slice A n c) := HK5.out.cell 1 rfl 4
      have c_g_0 : w4.cell? ⟨w.heap.size + 1, 0, none⟩ = some (.int .i64 op2) := HK5.out.cell 0 rfl 0
      have c_g_1 : w4.cell? ⟨w.heap.size + 1, 1, none⟩ = some (.int .i64 a2) := HK5.out.cell 0 rfl 1
      have c_g_2 : w4.cell? ⟨w.heap.size + 1, 2, none⟩ = some (.int .i64 b2) := HK5.out.cell 0 rfl 2
      have c_g_3 : w4.cell? ⟨w.heap.size + 1, 3, none⟩ = some (.string name2) := HK5.out.cell 0 rfl 3
      have c_g_4 : w4.cell? ⟨w.heap.size + 1, 4, none⟩ = some (.slice A2 n2 c2) := HK5.out.cell 0 rfl 4
      have HK6 := Lib.hid (show Kept w (w4.alloc (.cells #[.int .i64 op, .int .i64 a, .int .i64 b, .string name, .slice A n c, .int .i64 op2, .int .i64 a2, .int .i64 b2, .string name2, .slice A2 n2 c2] 24)) [(w4.heap.size, 24, #[.int .i64 op, .int .i64 a, .int .i64 b, .string name, .slice A n c, .int .i64 op2, .int .i64 a2, .int .i64 b2, .string name2, .slice A2 n2 c2]), (w.heap.size + 1, 24, #[.int .i64 op2, .int .i64 a2, .int .i64 b2, .string name2, .slice A2 n2 c2]), (w.heap.size, 24, #[.int .i64 op, .int .i64 a, .int .i64 b, .string name, .slice A n c])] from HK5.out.alloc_at 24 #[.int .i64 op, .int .i64 a, .int .i64 b, .string name, .slice A n c, .int .i64 op2, .int .i64 a2, .int .i64 b2, .string name2, .slice A2 n2 c2] (w4.heap.size) (by simp))
      clear HK5
      have HK7 := Lib.hid (show Kept w ((w4.alloc (.cells #[.int .i64 op, .int .i64 a, .int .i64 b, .string name, .slice A n c, .int .i64 op2, .int .i64 a2, .int .i64 b2, .string name2, .slice A2 n2 c2] 24)).alloc (.cells #[.int .i64 6, .int .i64 0, .int .i64 0, .string ⟨#[]⟩, .slice (some ⟨w4.heap.size, 0, none⟩) 2 2] 24)) [(w4.heap.size + 1, 24, #[.int .i64 6, .int .i64 0, .int .i64 0, .string ⟨#[]⟩, .slice (some ⟨w4.heap.size, 0, none⟩) 2 2]), (w4.heap.size, 24, #[.int .i64 op, .int .i64 a, .int .i64 b, .string name, .slice A n c, .int .i64 op2, .int .i64 a2, .int .i64 b2, .string name2, .slice A2 n2 c2]), (w.heap.size + 1, 24, #[.int .i64 op2, .int .i64 a2, .int .i64 b2, .string name2, .slice A2 n2 c2]), (w.heap.size, 24, #[.int .i64 op, .int .i64 a, .int .i64 b, .string name, .slice A n c])] from HK6.out.alloc_at 24 #[.int .i64 6, .int .i64 0, .int .i64 0, .string ⟨#[]⟩, .slice (some ⟨w4.heap.size, 0, none⟩) 2 2] (w4.heap.size + 1) (by simp))
      clear HK6
      have x1_f_0 : ((w4.alloc (.cells #[.int .i64 op, .int .i64 a, .int .i64 b, .string name, .slice A n c, .int .i64 op2, .int .i64 a2, .int .i64 b2, .string name2, .slice A2 n2 c2] 24)).alloc (.cells #[.int .i64 6, .int .i64 0, .int .i64 0, .string ⟨#[]⟩, .slice (some ⟨w4.heap.size, 0, none⟩) 2 2] 24)).cell? ⟨w.heap.size, 0, none⟩ = some (.int .i64 op) := HK7.out.cell 3 rfl 0
      have x1_f_1 : ((w4.alloc (.cells #[.int .i64 op, .int .i64 a, .int .i64 b, .string name, .slice A n c, .int .i64 op2, .int .i64 a2, .int .i64 b2, .string name2, .slice A2 n2 c2] 24)).alloc (.cells #[.int .i64 6, .int .i64 0, .int .i64 0, .string ⟨#[]⟩, .slice (some ⟨w4.heap.size, 0, none⟩) 2 2] 24)).cell? ⟨w.heap.size, 1, none⟩ = some (.int .i64 a) := HK7.out.cell 3 rfl 1
      have x1_f_2 : ((w4.alloc (.cells #[.int .i64 op, .int .i64 a, .int .i64 b, .string name, .slice A n c, .int .i64 op2, .int .i64 a2, .int .i64 b2, .string name2, .slice A2 n2 c2] 24)).alloc (.cells #[.int .i64 6, .int .i64 0, .int .i64 0, .string ⟨#[]⟩, .slice (some ⟨w4.heap.size, 0, none⟩) 2 2] 24)).cell? ⟨w.heap.size, 2, none⟩ = some (.int .i64 b) := HK7.out.cell 3 rfl 2
      have x1_f_3 : ((w4.alloc (.cells #[.int .i64 op, .int .i64 a, .int .i64 b, .string name, .slice A n c, .int .i64 op2, .int .i64 a2, .int .i64 b2, .string name2, .slice A2 n2 c2] 24)).alloc (.cells #[.int .i64 6, .int .i64 0, .int .i64 0, .string ⟨#[]⟩, .slice (some ⟨w4.heap.size, 0, none⟩) 2 2] 24)).cell? ⟨w.heap.size, 3, none⟩ = some (.string name) := HK7.out.cell 3 rfl 3
      have x1_f_4 : ((w4.alloc (.cells #[.int .i64 op, .int .i64 a, .int .i64 b, .string name, .slice A n c, .int .i64 op2, .int .i64 a2, .int .i64 b2, .string name2, .slice A2 n2 c2] 24)).alloc (.cells #[.int .i64 6, .int .i64 0, .int .i64 0, .string ⟨#[]⟩, .slice (some ⟨w4.heap.size, 0, none⟩) 2 2] 24)).cell? ⟨w.heap.size, 4, none⟩ = some (.slice A n c) := HK7.out.cell 3 rfl 4
      have x1_g_0 : ((w4.alloc (.cells #[.int .i64 op, .int .i64 a, .int .i64 b, .string name, .slice A n c, .int .i64 op2, .int .i64 a2, .int .i64 b2, .string name2, .slice A2 n2 c2] 24)).alloc (.cells #[.int .i64 6, .int .i64 0, .int .i64 0, .string ⟨#[]⟩, .slice (some ⟨w4.heap.size, 0, none⟩) 2 2] 24)).cell? ⟨w.heap.size + 1, 0, none⟩ = some (.int .i64 op2) := HK7.out.cell 2 rfl 0
      have x1_g_1 : ((w4.alloc (.cells #[.int .i64 op, .int .i64 a, .int .i64 b, .string name, .slice A n c, .int .i64 op2, .int .i64 a2, .int .i64 b2, .string name2, .slice A2 n2 c2] 24)).alloc (.cells #[.int .i64 6, .int .i64 0, .int .i64 0, .string ⟨#[]⟩, .slice (some ⟨w4.heap.size, 0, none⟩) 2 2] 24)).cell? ⟨w.heap.size + 1, 1, none⟩ = some (.int .i64 a2) := HK7.out.cell 2 rfl 1
      have x1_g_2 : ((w4.alloc (.cells #[.int .i64 op, .int .i64 a, .int .i64 b, .string name, .slice A n c, .int .i64 op2, .int .i64 a2, .int .i64 b2, .string name2, .slice A2 n2 c2] 24)).alloc (.cells #[.int .i64 6, .int .i64 0, .int .i64 0, .string ⟨#[]⟩, .slice (some ⟨w4.heap.size, 0, none⟩) 2 2] 24)).cell? ⟨w.heap.size + 1, 2, none⟩ = some (.int .i64 b2) := HK7.out.cell 2 rfl 2
      have x1_g_3 : ((w4.alloc (.cells #[.int .i64 op, .int .i64 a, .int .i64 b, .string name, .slice A n c, .int .i64 op2, .int .i64 a2, .int .i64 b2, .string name2, .slice A2 n2 c2] 24)).alloc (.cells #[.int .i64 6, .int .i64 0, .int .i64 0, .string ⟨#[]⟩, .slice (some ⟨w4.heap.size, 0, none⟩) 2 2] 24)).cell? ⟨w.heap.size + 1, 3, none⟩ = some (.string name2) := HK7.out.cell 2 rfl 3
      have x1_g_4 : ((w4.alloc (.cells #[.int .i64 op, .int .i64 a, .int .i64 b, .string name, .slice A n c, .int .i64 op2, .int .i64 a2, .int .i64 b2, .string name2, .slice A2 n2 c2] 24)).alloc (.cells #[.int .i64 6, .int .i64 0, .int .i64 0, .string ⟨#[]⟩, .slice (some ⟨w4.heap.size, 0, none⟩) 2 2] 24)).cell? ⟨w.heap.size + 1, 4, none⟩ = some (.slice A2 n2 c2) := HK7.out.cell 2 rfl 4
      have HK8 := Lib.hid (show Kept w (((w4.alloc (.cells #[.int .i64 op, .int .i64 a, .int .i64 b, .string name, .slice A n c, .int .i64 op2, .int .i64 a2, .int .i64 b2, .string name2, .slice A2 n2 c2] 24)).alloc (.cells #[.int .i64 6, .int .i64 0, .int .i64 0, .string ⟨#[]⟩, .slice (some ⟨w4.heap.size, 0, none⟩) 2 2] 24)).alloc (.cells #[.int .i64 op2, .int .i64 a2, .int .i64 b2, .string name2, .slice A2 n2 c2, .int .i64 op, .int .i64 a, .int .i64 b, .string name, .slice A n c] 24)) [(w4.heap.size + 2, 24, #[.int .i64 op2, .int .i64 a2, .int .i64 b2, .string name2, .slice A2 n2 c2, .int .i64 op, .int .i64 a, .int .i64 b, .string name, .slice A n c]), (w4.heap.size + 1, 24, #[.int .i64 6, .int .i64 0, .int .i64 0, .string ⟨#[]⟩, .slice (some ⟨w4.heap.size, 0, none⟩) 2 2]), (w4.heap.size, 24, #[.int .i64 op, .int .i64 a, .int .i64 b, .string name, .slice A n c, .int .i64 op2, .int .i64 a2, .int .i64 b2, .string name2, .slice A2 n2 c2]), (w.heap.size + 1, 24, #[.int .i64 op2, .int .i64 a2, .int .i64 b2, .string name2, .slice A2 n2 c2]), (w.heap.size, 24, #[.int .i64 op, .int .i64 a, .int .i64 b, .string name, .slice A n c])] from HK7.out.alloc_at 24 #[.int .i64 op2, .int .i64 a2, .int .i64 b2, .string name2, .slice A2 n2 c2, .int .i64 op, .int .i64 a, .int .i64 b, .string name, .slice A n c] (w4.heap.size + 2) (by simp))
      clear HK7
      have HK9 := Lib.hid (show Kept w ((((w4.alloc (.cells #[.int .i64 op, .int .i64 a, .int .i64 b, .string name, .slice A n c, .int .i64 op2, .int .i64 a2, .int .i64 b2, .string name2, .slice A2 n2 c2] 24)).alloc (.cells #[.int .i64 6, .int .i64 0, .int .i64 0, .string ⟨#[]⟩, .slice (some ⟨w4.heap.size, 0, none⟩) 2 2] 24)).alloc (.cells #[.int .i64 op2, .int .i64 a2, .int .i64 b2, .string name2, .slice A2 n2 c2, .int .i64 op, .int .i64 a, .int .i64 b, .string name, .slice A n c] 24)).alloc (.cells #[.int .i64 6, .int .i64 0, .int .i64 0, .string ⟨#[]⟩, .slice (some ⟨w4.heap.size + 2, 0, none⟩) 2 2] 24)) [(w4.heap.size + 3, 24, #[.int .i64 6, .int .i64 0, .int .i64 0, .string ⟨#[]⟩, .slice (some ⟨w4.heap.size + 2, 0, none⟩) 2 2]), (w4.heap.size + 2, 24, #[.int .i64 op2, .int .i64 a2, .int .i64 b2, .string name2, .slice A2 n2 c2, .int .i64 op, .int .i64 a, .int .i64 b, .string name, .slice A n c]), (w4.heap.size + 1, 24, #[.int .i64 6, .int .i64 0, .int .i64 0, .string ⟨#[]⟩, .slice (some ⟨w4.heap.size, 0, none⟩) 2 2]), (w4.heap.size, 24, #[.int .i64 op, .int .i64 a, .int .i64 b, .string name, .slice A n c, .int .i64 op2, .int .i64 a2, .int .i64 b2, .string name2, .slice A2 n2 c2]), (w.heap.size + 1, 24, #[.int .i64 op2, .int .i64 a2, .int .i64 b2, .string name2, .slice A2 n2 c2]), (w.heap.size, 24, #[.int .i64 op, .int .i64 a, .int .i64 b, .string name, .slice A n c])] from HK8.out.alloc_at 24 #[.int .i64 6, .int .i64 0, .int .i64 0, .string ⟨#[]⟩, .slice (some ⟨w4.heap.size + 2, 0, none⟩) 2 2] (w4.heap.size + 3) (by simp))
      clear HK8
      have x3_f_0 : ((((w4.alloc (.cells #[.int .i64 op, .int .i64 a, .int .i64 b, .string name, .slice A n c, .int .i64 op2, .int .i64 a2, .int .i64 b2, .string name2, .slice A2 n2 c2] 24)).alloc (.cells #[.int .i64 6, .int .i64 0, .int .i64 0, .string ⟨#[]⟩, .slice (some ⟨w4.heap.size, 0, none⟩) 2 2] 24)).alloc (.cells #[.int .i64 op2, .int .i64 a2, .int .i64 b2, .string name2, .slice A2 n2 c2, .int .i64 op, .int .i64 a, .int .i64 b, .string name, .slice A n c] 24)).alloc (.cells #[.int .i64 6, .int .i64 0, .int .i64 0, .string ⟨#[]⟩, .slice (some ⟨w4.heap.size + 2, 0, none⟩) 2 2] 24)).cell? ⟨w.heap.size, 0, none⟩ = some (.int .i64 op) := HK9.out.cell 5 rfl 0
      have x3_f_1 : ((((w4.alloc (.cells #[.int .i64 op, .int .i64 a, .int .i64 b, .string name, .slice A n c, .int .i64 op2, .int .i64 a2, .int .i64 b2, .string name2, .slice A2 n2 c2] 24)).alloc (.cells #[.int .i64 6, .int .i64 0, .int .i64 0, .string ⟨#[]⟩, .slice (some ⟨w4.heap.size, 0, none⟩) 2 2] 24)).alloc (.cells #[.int .i64 op2, .int .i64 a2, .int .i64 b2, .string name2, .slice A2 n2 c2, .int .i64 op, .int .i64 a, .int .i64 b, .string name, .slice A n c] 24)).alloc (.cells #[.int .i64 6, .int .i64 0, .int .i64 0, .string ⟨#[]⟩, .slice (some ⟨w4.heap.size + 2, 0, none⟩) 2 2] 24)).cell? ⟨w.heap.size, 1, none⟩ = some (.int .i64 a) := HK9.out.cell 5 rfl 1
      have x3_f_2 : ((((w4.alloc (.cells #[.int .i64 op, .int .i64 a, .int .i64 b, .string name, .slice A n c, .int .i64 op2, .int .i64 a2, .int .i64 b2, .string name2, .slice A2 n2 c2] 24)).alloc (.cells #[.int .i64 6, .int .i64 0, .int .i64 0, .string ⟨#[]⟩, .slice (some ⟨w4.heap.size, 0, none⟩) 2 2] 24)).alloc (.cells #[.int .i64 op2, .int .i64 a2, .int .i64 b2, .string name2, .slice A2 n2 c2, .int .i64 op, .int .i64 a, .int .i64 b, .string name, .slice A n c] 24)).alloc (.cells #[.int .i64 6, .int .i64 0, .int .i64 0, .string ⟨#[]⟩, .slice (some ⟨w4.heap.size + 2, 0, none⟩) 2 2] 24)).cell? ⟨w.heap.size, 2, none⟩ = some (.int .i64 b) := HK9.out.cell 5 rfl 2
      have x3_f_3 : ((((w4.alloc (.cells #[.int .i64 op, .int .i64 a, .int .i64 b, .string name, .slice A n c, .int .i64 op2, .int .i64 a2, .int .i64 b2, .string name2, .slice A2 n2 c2] 24)).alloc (.cells #[.int .i64 6, .int .i64 0, .int .i64 0, .string ⟨#[]⟩, .slice (some ⟨w4.heap.size, 0, none⟩) 2 2] 24)).alloc (.cells #[.int .i64 op2, .int .i64 a2, .int .i64 b2, .string name2, .slice A2 n2 c2, .int .i64 op, .int .i64 a, .int .i64 b, .string name, .slice A n c] 24)).alloc (.cells #[.int .i64 6, .int .i64 0, .int .i64 0, .string ⟨#[]⟩, .slice (some ⟨w4.heap.size + 2, 0, none⟩) 2 2] 24)).cell? ⟨w.heap.size, 3, none⟩ = some (.string name) := HK9.out.cell 5 rfl 3
      have x3_f_4 : ((((w4.alloc (.cells #[.int .i64 op, .int .i64 a, .int .i64 b, .string name, .slice A n c, .int .i64 op2, .int .i64 a2, .int .i64 b2, .string name2, .slice A2 n2 c2] 24)).alloc (.cells #[.int .i64 6, .int .i64 0, .int .i64 0, .string ⟨#[]⟩, .slice (some ⟨w4.heap.size, 0, none⟩) 2 2] 24)).alloc (.cells #[.int .i64 op2, .int .i64 a2, .int .i64 b2, .string name2, .slice A2 n2 c2, .int .i64 op, .int .i64 a, .int .i64 b, .string name, .slice A n c] 24)).alloc (.cells #[.int .i64 6, .int .i64 0, .int .i64 0, .string ⟨#[]⟩, .slice (some ⟨w4.heap.size + 2, 0, none⟩) 2 2] 24)).cell? ⟨w.heap.size, 4, none⟩ = some (.slice A n c) := HK9.out.cell 5 rfl 4
      have x3_g_0 : ((((w4.alloc (.cells #[.int .i64 op, .int .i64 a, .int .i64 b, .string name, .slice A n c, .int .i64 op2, .int .i64 a2, .int .i64 b2, .string name2, .slice A2 n2 c2] 24)).alloc (.cells #[.int .i64 6, .int .i64 0, .int .i64 0, .string ⟨#[]⟩, .slice (some ⟨w4.heap.size, 0, none⟩) 2 2] 24)).alloc (.cells #[.int .i64 op2, .int .i64 a2, .int .i64 b2, .string name2, .slice A2 n2 c2, .int .i64 op, .int .i64 a, .int .i64 b, .string name, .slice A n c] 24)).alloc (.cells #[.int .i64 6, .int .i64 0, .int .i64 0, .string ⟨#[]⟩, .slice (some ⟨w4.heap.size + 2, 0, none⟩) 2 2] 24)).cell? ⟨w.heap.size + 1, 0, none⟩ = some (.int .i64 op2) := HK9.out.cell 4 rfl 0
      have x3_g_1 : ((((w4.alloc (.cells #[.int .i64 op, .int .i64 a, .int .i64 b, .string name, .slice A n c, .int .i64 op2, .int .i64 a2, .int .i64 b2, .string name2, .slice A2 n2 c2] 24)).alloc (.cells #[.int .i64 6, .int .i64 0, .int .i64 0, .string ⟨#[]⟩, .slice (some ⟨w4.heap.size, 0, none⟩) 2 2] 24)).alloc (.cells #[.int .i64 op2, .int .i64 a2, .int .i64 b2, .string name2, .slice A2 n2 c2, .int .i64 op, .int .i64 a, .int .i64 b, .string name, .slice A n c] 24)).alloc (.cells #[.int .i64 6, .int .i64 0, .int .i64 0, .string ⟨#[]⟩, .slice (some ⟨w4.heap.size + 2, 0, none⟩) 2 2] 24)).cell? ⟨w.heap.size + 1, 1, none⟩ = some (.int .i64 a2) := HK9.out.cell 4 rfl 1
      have x3_g_2 : ((((w4.alloc (.cells #[.int .i64 op, .int .i64 a, .int .i64 b, .string name, .slice A n c, .int .i64 op2, .int .i64 a2, .int .i64 b2, .string name2, .slice A2 n2 c2] 24)).alloc (.cells #[.int .i64 6, .int .i64 0, .int .i64 0, .string ⟨#[]⟩, .slice (some ⟨w4.heap.size, 0, none⟩) 2 2] 24)).alloc (.cells #[.int .i64 op2, .int .i64 a2, .int .i64 b2, .string name2, .slice A2 n2 c2, .int .i64 op, .int .i64 a, .int .i64 b, .string name, .slice A n c] 24)).alloc (.cells #[.int .i64 6, .int .i64 0, .int .i64 0, .string ⟨#[]⟩, .slice (some ⟨w4.heap.size + 2, 0, none⟩) 2 2] 24)).cell? ⟨w.heap.size + 1, 2, none⟩ = some (.int .i64 b2) := HK9.out.cell 4 rfl 2
      have x3_g_3 : ((((w4.alloc (.cells #[.int .i64 op, .int .i64 a, .int .i64 b, .string name, .slice A n c, .int .i64 op2, .int .i64 a2, .int .i64 b2, .string name2, .slice A2 n2 c2] 24)).alloc (.cells #[.int .i64 6, .int .i64 0, .int .i64 0, .string ⟨#[]⟩, .slice (some ⟨w4.heap.size, 0, none⟩) 2 2] 24)).alloc (.cells #[.int .i64 op2, .int .i64 a2, .int .i64 b2, .string name2, .slice A2 n2 c2, .int .i64 op, .int .i64 a, .int .i64 b, .string name, .slice A n c] 24)).alloc (.cells #[.int .i64 6, .int .i64 0, .int .i64 0, .string ⟨#[]⟩, .slice (some ⟨w4.heap.size + 2, 0, none⟩) 2 2] 24)).cell? ⟨w.heap.size + 1, 3, none⟩ = some (.string name2) := HK9.out.cell 4 rfl 3
      have x3_g_4 : ((((w4.alloc (.cells #[.int .i64 op, .int .i64 a, .int .i64 b, .string name, .slice A n c, .int .i64 op2, .int .i64 a2, .int .i64 b2, .string name2, .slice A2 n2 c2] 24)).alloc (.cells #[.int .i64 6, .int .i64 0, .int .i64 0, .string ⟨#[]⟩, .slice (some ⟨w4.heap.size, 0, none⟩) 2 2] 24)).alloc (.cells #[.int .i64 op2, .int .i64 a2, .int .i64 b2, .string name2, .slice A2 n2 c2, .int .i64 op, .int .i64 a, .int .i64 b, .string name, .slice A n c] 24)).alloc (.cells #[.int .i64 6, .int .i64 0, .int .i64 0, .string ⟨#[]⟩, .slice (some ⟨w4.heap.size + 2, 0, none⟩) 2 2] 24)).cell? ⟨w.heap.size + 1, 4, none⟩ = some (.slice A2 n2 c2) := HK9.out.cell 4 rfl 4
      have HK10 := Lib.hid (show Kept w (((((w4.alloc (.cells #[.int .i64 op, .int .i64 a, .int .i64 b, .string name, .slice A n c, .int .i64 op2, .int .i64 a2, .int .i64 b2, .string name2, .slice A2 n2 c2] 24)).alloc (.cells #[.int .i64 6, .int .i64 0, .int .i64 0, .string ⟨#[]⟩, .slice (some ⟨w4.heap.size, 0, none⟩) 2 2] 24)).alloc (.cells #[.int .i64 op2, .int .i64 a2, .int .i64 b2, .string name2, .slice A2 n2 c2, .int .i64 op, .int .i64 a, .int .i64 b, .string name, .slice A n c] 24)).alloc (.cells #[.int .i64 6, .int .i64 0, .int .i64 0, .string ⟨#[]⟩, .slice (some ⟨w4.heap.size + 2, 0, none⟩) 2 2] 24)).alloc (.cells #[.int .i64 op, .int .i64 a, .int .i64 b, .string name, .slice A n c, .int .i64 op2, .int .i64 a2, .int .i64 b2, .string name2, .slice A2 n2 c2] 24)) [(w4.heap.size + 4, 24, #[.int .i64 op, .int .i64 a, .int .i64 b, .string name, .slice A n c, .int .i64 op2, .int .i64 a2, .int .i64 b2, .string name2, .slice A2 n2 c2]), (w4.heap.size + 3, 24, #[.int .i64 6, .int .i64 0, .int .i64 0, .string ⟨#[]⟩, .slice (some ⟨w4.heap.size + 2, 0, none⟩) 2 2]), (w4.heap.size + 2, 24, #[.int .i64 op2, .int .i64 a2, .int .i64 b2, .string name2, .slice A2 n2 c2, .int .i64 op, .int .i64 a, .int .i64 b, .string name, .slice A n c]), (w4.heap.size + 1, 24, #[.int .i64 6, .int .i64 0, .int .i64 0, .string ⟨#[]⟩, .slice (some ⟨w4.heap.size, 0, none⟩) 2 2]), (w4.heap.size, 24, #[.int .i64 op, .int .i64 a, .int .i64 b, .string name, .slice A n c, .int .i64 op2, .int .i64 a2, .int .i64 b2, .string name2, .slice A2 n2 c2]), (w.heap.size + 1, 24, #[.int .i64 op2, .int .i64 a2, .int .i64 b2, .string name2, .slice A2 n2 c2]), (w.heap.size, 24, #[.int .i64 op, .int .i64 a, .int .i64 b, .string name, .slice A n c])] from HK9.out.alloc_at 24 #[.int .i64 op, .int .i64 a, .int .i64 b, .string name, .slice A n c, .int .i64 op2, .int .i64 a2, .int .i64 b2, .string name2, .slice A2 n2 c2] (w4.heap.size + 4) (by simp))
      clear HK9
      have HK11 := Lib.hid (show Kept w ((((((w4.alloc (.cells #[.int .i64 op, .int .i64 a, .int .i64 b, .string name, .slice A n c, .int .i64 op2, .int .i64 a2, .int .i64 b2, .string name2, .slice A2 n2 c2] 24)).alloc (.cells #[.int .i64 6, .int .i64 0, .int .i64 0, .string ⟨#[]⟩, .slice (some ⟨w4.heap.size, 0, none⟩) 2 2] 24)).alloc (.cells #[.int .i64 op2, .int .i64 a2, .int .i64 b2, .string name2, .slice A2 n2 c2, .int .i64 op, .int .i64 a, .int .i64 b, .string name, .slice A n c] 24)).alloc (.cells #[.int .i64 6, .int .i64 0, .int .i64 0, .string ⟨#[]⟩, .slice (some ⟨w4.heap.size + 2, 0, none⟩) 2 2] 24)).alloc (.cells #[.int .i64 op, .int .i64 a, .int .i64 b, .string name, .slice A n c, .int .i64 op2, .int .i64 a2, .int .i64 b2, .string name2, .slice A2 n2 c2] 24)).alloc (.cells #[.int .i64 7, .int .i64 0, .int .i64 0, .string ⟨#[]⟩, .slice (some ⟨w4.heap.size + 4, 0, none⟩) 2 2] 24)) [(w4.heap.size + 5, 24, #[.int .i64 7, .int .i64 0, .int .i64 0, .string ⟨#[]⟩, .slice (some ⟨w4.heap.size + 4, 0, none⟩) 2 2]), (w4.heap.size + 4, 24, #[.int .i64 op, .int .i64 a, .int .i64 b, .string name, .slice A n c, .int .i64 op2, .int .i64 a2, .int .i64 b2, .string name2, .slice A2 n2 c2]), (w4.heap.size + 3, 24, #[.int .i64 6, .int .i64 0, .int .i64 0, .string ⟨#[]⟩, .slice (some ⟨w4.heap.size + 2, 0, none⟩) 2 2]), (w4.heap.size + 2, 24, #[.int .i64 op2, .int .i64 a2, .int .i64 b2, .string name2, .slice A2 n2 c2, .int .i64 op, .int .i64 a, .int .i64 b, .string name, .slice A n c]), (w4.heap.size + 1, 24, #[.int .i64 6, .int .i64 0, .int .i64 0, .string ⟨#[]⟩, .slice (some ⟨w4.heap.size, 0, none⟩) 2 2]), (w4.heap.size, 24, #[.int .i64 op, .int .i64 a, .int .i64 b, .string name, .slice A n c, .int .i64 op2, .int .i64 a2, .int .i64 b2, .string name2, .slice A2 n2 c2]), (w.heap.size + 1, 24, #[.int .i64 op2, .int .i64 a2, .int .i64 b2, .string name2, .slice A2 n2 c2]), (w.heap.size, 24, #[.int .i64 op, .int .i64 a, .int .i64 b, .string name, .slice A n c])] from HK10.out.alloc_at 24 #[.int .i64 7, .int .i64 0, .int .i64 0, .string ⟨#[]⟩, .slice (some ⟨w4.heap.size + 4, 0, none⟩) 2 2] (w4.heap.size + 5) (by simp))
      clear HK10
      have x5_f_0 : ((((((w4.alloc (.cells #[.int .i64 op, .int .i64 a, .int .i64 b, .string name, .slice A n c, .int .i64 op2, .int .i64 a2, .int .i64 b2, .string name2, .slice A2 n2 c2] 24)).alloc (.cells #[.int .i64 6, .int .i64 0, .int .i64 0, .string ⟨#[]⟩, .slice (some ⟨w4.heap.size, 0, none⟩) 2 2] 24)).alloc (.cells #[.int .i64 op2, .int .i64 a2, .int .i64 b2, .string name2, .slice A2 n2 c2, .int .i64 op, .int .i64 a, .int .i64 b, .string name, .slice A n c] 24)).alloc (.cells #[.int .i64 6, .int .i64 0, .int .i64 0, .string ⟨#[]⟩, .slice (some ⟨w4.heap.size + 2, 0, none⟩) 2 2] 24)).alloc (.cells #[.int .i64 op, .int .i64 a, .int .i64 b, .string name, .slice A n c, .int .i64 op2, .int .i64 a2, .int .i64 b2, .string name2, .slice A2 n2 c2] 24)).alloc (.cells #[.int .i64 7, .int .i64 0, .int .i64 0, .string ⟨#[]⟩, .slice (some ⟨w4.heap.size + 4, 0, none⟩) 2 2] 24)).cell? ⟨w.heap.size, 0, none⟩ = some (.int .i64 op) := HK11.out.cell 7 rfl 0
      have x5_f_1 : ((((((w4.alloc (.cells #[.int .i64 op, .int .i64 a, .int .i64 b, .string name, .slice A n c, .int .i64 op2, .int .i64 a2, .int .i64 b2, .string name2, .slice A2 n2 c2] 24)).alloc (.cells #[.int .i64 6, .int .i64 0, .int .i64 0, .string ⟨#[]⟩, .slice (some ⟨w4.heap.size, 0, none⟩) 2 2] 24)).alloc (.cells #[.int .i64 op2, .int .i64 a2, .int .i64 b2, .string name2, .slice A2 n2 c2, .int .i64 op, .int .i64 a, .int .i64 b, .string name, .slice A n c] 24)).alloc (.cells #[.int .i64 6, .int .i64 0, .int .i64 0, .string ⟨#[]⟩, .slice (some ⟨w4.heap.size + 2, 0, none⟩) 2 2] 24)).alloc (.cells #[.int .i64 op, .int .i64 a, .int .i64 b, .string name, .slice A n c, .int .i64 op2, .int .i64 a2, .int .i64 b2, .string name2, .slice A2 n2 c2] 24)).alloc (.cells #[.int .i64 7, .int .i64 0, .int .i64 0, .string ⟨#[]⟩, .slice (some ⟨w4.heap.size + 4, 0, none⟩) 2 2] 24)).cell? ⟨w.heap.size, 1, none⟩ = some (.int .i64 a) := HK11.out.cell 7 rfl 1
      have x5_f_2 : ((((((w4.alloc (.cells #[.int .i64 op, .int .i64 a, .int .i64 b, .string name, .slice A n c, .int .i64 op2, .int .i64 a2, .int .i64 b2, .string name2, .slice A2 n2 c2] 24)).alloc (.cells #[.int .i64 6, .int .i64 0, .int .i64 0, .string ⟨#[]⟩, .slice (some ⟨w4.heap.size, 0, none⟩) 2 2] 24)).alloc (.cells #[.int .i64 op2, .int .i64 a2, .int .i64 b2, .string name2, .slice A2 n2 c2, .int .i64 op, .int .i64 a, .int .i64 b, .string name, .slice A n c] 24)).alloc (.cells #[.int .i64 6, .int .i64 0, .int .i64 0, .string ⟨#[]⟩, .slice (some ⟨w4.heap.size + 2, 0, none⟩) 2 2] 24)).alloc (.cells #[.int .i64 op, .int .i64 a, .int .i64 b, .string name, .slice A n c, .int .i64 op2, .int .i64 a2, .int .i64 b2, .string name2, .slice A2 n2 c2] 24)).alloc (.cells #[.int .i64 7, .int .i64 0, .int .i64 0, .string ⟨#[]⟩, .slice (some ⟨w4.heap.size + 4, 0, none⟩) 2 2] 24)).cell? ⟨w.heap.size, 2, none⟩ = some (.int .i64 b) := HK11.out.cell 7 rfl 2
      have x5_f_3 : ((((((w4.alloc (.cells #[.int .i64 op, .int .i64 a, .int .i64 b, .string name, .slice A n c, .int .i64 op2, .int .i64 a2, .int .i64 b2, .string name2, .slice A2 n2 c2] 24)).alloc (.cells #[.int .i64 6, .int .i64 0, .int .i64 0, .string ⟨#[]⟩, .slice (some ⟨w4.heap.size, 0, none⟩) 2 2] 24)).alloc (.cells #[.int .i64 op2, .int .i64 a2, .int .i64 b2, .string name2, .slice A2 n2 c2, .int .i64 op, .int .i64 a, .int .i64 b, .string name, .slice A n c] 24)).alloc (.cells #[.int .i64 6, .int .i64 0, .int .i64 0, .string ⟨#[]⟩, .slice (some ⟨w4.heap.size + 2, 0, none⟩) 2 2] 24)).alloc (.cells #[.int .i64 op, .int .i64 a, .int .i64 b, .string name, .slice A n c, .int .i64 op2, .int .i64 a2, .int .i64 b2, .string name2, .slice A2 n2 c2] 24)).alloc (.cells #[.int .i64 7, .int .i64 0, .int .i64 0, .string ⟨#[]⟩, .slice (some ⟨w4.heap.size + 4, 0, none⟩) 2 2] 24)).cell? ⟨w.heap.size, 3, none⟩ = some (.string name) := HK11.out.cell 7 rfl 3
      have x5_f_4 : ((((((w4.alloc (.cells #[.int .i64 op, .int .i64 a, .int .i64 b, .string name, .slice A n c, .int .i64 op2, .int .i64 a2, .int .i64 b2, .string name2, .slice A2 n2 c2] 24)).alloc (.cells #[.int .i64 6, .int .i64 0, .int .i64 0, .string ⟨#[]⟩, .slice (some ⟨w4.heap.size, 0, none⟩) 2 2] 24)).alloc (.cells #[.int .i64 op2, .int .i64 a2, .int .i64 b2, .string name2, .slice A2 n2 c2, .int .i64 op, .int .i64 a, .int .i64 b, .string name, .slice A n c] 24)).alloc (.cells #[.int .i64 6, .int .i64 0, .int .i64 0, .string ⟨#[]⟩, .slice (some ⟨w4.heap.size + 2, 0, none⟩) 2 2] 24)).alloc (.cells #[.int .i64 op, .int .i64 a, .int .i64 b, .string name, .slice A n c, .int .i64 op2, .int .i64 a2, .int .i64 b2, .string name2, .slice A2 n2 c2] 24)).alloc (.cells #[.int .i64 7, .int .i64 0, .int .i64 0, .string ⟨#[]⟩, .slice (some ⟨w4.heap.size + 4, 0, none⟩) 2 2] 24)).cell? ⟨w.heap.size, 4, none⟩ = some (.slice A n c) := HK11.out.cell 7 rfl 4
      have x5_g_0 : ((((((w4.alloc (.cells #[.int .i64 op, .int .i64 a, .int .i64 b, .string name, .slice A n c, .int .i64 op2, .int .i64 a2, .int .i64 b2, .string name2, .slice A2 n2 c2] 24)).alloc (.cells #[.int .i64 6, .int .i64 0, .int .i64 0, .string ⟨#[]⟩, .slice (some ⟨w4.heap.size, 0, none⟩) 2 2] 24)).alloc (.cells #[.int .i64 op2, .int .i64 a2, .int .i64 b2, .string name2, .slice A2 n2 c2, .int .i64 op, .int .i64 a, .int .i64 b, .string name, .slice A n c] 24)).alloc (.cells #[.int .i64 6, .int .i64 0, .int .i64 0, .string ⟨#[]⟩, .slice (some ⟨w4.heap.size + 2, 0, none⟩) 2 2] 24)).alloc (.cells #[.int .i64 op, .int .i64 a, .int .i64 b, .string name, .slice A n c, .int .i64 op2, .int .i64 a2, .int .i64 b2, .string name2, .slice A2 n2 c2] 24)).alloc (.cells #[.int .i64 7, .int .i64 0, .int .i64 0, .string ⟨#[]⟩, .slice (some ⟨w4.heap.size + 4, 0, none⟩) 2 2] 24)).cell? ⟨w.heap.size + 1, 0, none⟩ = some (.int .i64 op2) := HK11.out.cell 6 rfl 0
      have x5_g_1 : ((((((w4.alloc (.cells #[.int .i64 op, .int .i64 a, .int .i64 b, .string name, .slice A n c, .int .i64 op2, .int .i64 a2, .int .i64 b2, .string name2, .slice A2 n2 c2] 24)).alloc (.cells #[.int .i64 6, .int .i64 0, .int .i64 0, .string ⟨#[]⟩, .slice (some ⟨w4.heap.size, 0, none⟩) 2 2] 24)).alloc (.cells #[.int .i64 op2, .int .i64 a2, .int .i64 b2, .string name2, .slice A2 n2 c2, .int .i64 op, .int .i64 a, .int .i64 b, .string name, .slice A n c] 24)).alloc (.cells #[.int .i64 6, .int .i64 0, .int .i64 0, .string ⟨#[]⟩, .slice (some ⟨w4.heap.size + 2, 0, none⟩) 2 2] 24)).alloc (.cells #[.int .i64 op, .int .i64 a, .int .i64 b, .string name, .slice A n c, .int .i64 op2, .int .i64 a2, .int .i64 b2, .string name2, .slice A2 n2 c2] 24)).alloc (.cells #[.int .i64 7, .int .i64 0, .int .i64 0, .string ⟨#[]⟩, .slice (some ⟨w4.heap.size + 4, 0, none⟩) 2 2] 24)).cell? ⟨w.heap.size + 1, 1, none⟩ = some (.int .i64 a2) := HK11.out.cell 6 rfl 1
      have x5_g_2 : ((((((w4.alloc (.cells #[.int .i64 op, .int .i64 a, .int .i64 b, .string name, .slice A n c, .int .i64 op2, .int .i64 a2, .int .i64 b2, .string name2, .slice A2 n2 c2] 24)).alloc (.cells #[.int .i64 6, .int .i64 0, .int .i64 0, .string ⟨#[]⟩, .slice (some ⟨w4.heap.size, 0, none⟩) 2 2] 24)).alloc (.cells #[.int .i64 op2, .int .i64 a2, .int .i64 b2, .string name2, .slice A2 n2 c2, .int .i64 op, .int .i64 a, .int .i64 b, .string name, .slice A n c] 24)).alloc (.cells #[.int .i64 6, .int .i64 0, .int .i64 0, .string ⟨#[]⟩, .slice (some ⟨w4.heap.size + 2, 0, none⟩) 2 2] 24)).alloc (.cells #[.int .i64 op, .int .i64 a, .int .i64 b, .string name, .slice A n c, .int .i64 op2, .int .i64 a2, .int .i64 b2, .string name2, .slice A2 n2 c2] 24)).alloc (.cells #[.int .i64 7, .int .i64 0, .int .i64 0, .string ⟨#[]⟩, .slice (some ⟨w4.heap.size + 4, 0, none⟩) 2 2] 24)).cell? ⟨w.heap.size + 1, 2, none⟩ = some (.int .i64 b2) := HK11.out.cell 6 rfl 2
      have x5_g_3 : ((((((w4.alloc (.cells #[.int .i64 op, .int .i64 a, .int .i64 b, .string name, .slice A n c, .int .i64 op2, .int .i64 a2, .int .i64 b2, .string name2, .slice A2 n2 c2] 24)).alloc (.cells #[.int .i64 6, .int .i64 0, .int .i64 0, .string ⟨#[]⟩, .slice (some ⟨w4.heap.size, 0, none⟩) 2 2] 24)).alloc (.cells #[.int .i64 op2, .int .i64 a2, .int .i64 b2, .string name2, .slice A2 n2 c2, .int .i64 op, .int .i64 a, .int .i64 b, .string name, .slice A n c] 24)).alloc (.cells #[.int .i64 6, .int .i64 0, .int .i64 0, .string ⟨#[]⟩, .slice (some ⟨w4.heap.size + 2, 0, none⟩) 2 2] 24)).alloc (.cells #[.int .i64 op, .int .i64 a, .int .i64 b, .string name, .slice A n c, .int .i64 op2, .int .i64 a2, .int .i64 b2, .string name2, .slice A2 n2 c2] 24)).alloc (.cells #[.int .i64 7, .int .i64 0, .int .i64 0, .string ⟨#[]⟩, .slice (some ⟨w4.heap.size + 4, 0, none⟩) 2 2] 24)).cell? ⟨w.heap.size + 1, 3, none⟩ = some (.string name2) := HK11.out.cell 6 rfl 3
      have x5_g_4 : ((((((w4.alloc (.cells #[.int .i64 op, .int .i64 a, .int .i64 b, .string name, .slice A n c, .int .i64 op2, .int .i64 a2, .int .i64 b2, .string name2, .slice A2 n2 c2] 24)).alloc (.cells #[.int .i64 6, .int .i64 0, .int .i64 0, .string ⟨#[]⟩, .slice (some ⟨w4.heap.size, 0, none⟩) 2 2] 24)).alloc (.cells #[.int .i64 op2, .int .i64 a2, .int .i64 b2, .string name2, .slice A2 n2 c2, .int .i64 op, .int .i64 a, .int .i64 b, .string name, .slice A n c] 24)).alloc (.cells #[.int .i64 6, .int .i64 0, .int .i64 0, .string ⟨#[]⟩, .slice (some ⟨w4.heap.size + 2, 0, none⟩) 2 2] 24)).alloc (.cells #[.int .i64 op, .int .i64 a, .int .i64 b, .string name, .slice A n c, .int .i64 op2, .int .i64 a2, .int .i64 b2, .string name2, .slice A2 n2 c2] 24)).alloc (.cells #[.int .i64 7, .int .i64 0, .int .i64 0, .string ⟨#[]⟩, .slice (some ⟨w4.heap.size + 4, 0, none⟩) 2 2] 24)).cell? ⟨w.heap.size + 1, 4, none⟩ = some (.slice A2 n2 c2) := HK11.out.cell 6 rfl 4
      have HK12 := Lib.hid (show Kept w (((((((w4.alloc (.cells #[.int .i64 op, .int .i64 a, .int .i64 b, .string name, .slice A n c, .int .i64 op2, .int .i64 a2, .int .i64 b2, .string name2, .slice A2 n2 c2] 24)).alloc (.cells #[.int .i64 6, .int .i64 0, .int .i64 0, .string ⟨#[]⟩, .slice (some ⟨w4.heap.size, 0, none⟩) 2 2] 24)).alloc (.cells #[.int .i64 op2, .int .i64 a2, .int .i64 b2, .string name2, .slice A2 n2 c2, .int .i64 op, .int .i64 a, .int .i64 b, .string name, .slice A n c] 24)).alloc (.cells #[.int .i64 6, .int .i64 0, .int .i64 0, .string ⟨#[]⟩, .slice (some ⟨w4.heap.size + 2, 0, none⟩) 2 2] 24)).alloc (.cells #[.int .i64 op, .int .i64 a, .int .i64 b, .string name, .slice A n c, .int .i64 op2, .int .i64 a2, .int .i64 b2, .string name2, .slice A2 n2 c2] 24)).alloc (.cells #[.int .i64 7, .int .i64 0, .int .i64 0, .string ⟨#[]⟩, .slice (some ⟨w4.heap.size + 4, 0, none⟩) 2 2] 24)).alloc (.cells #[.int .i64 op2, .int .i64 a2, .int .i64 b2, .string name2, .slice A2 n2 c2, .int .i64 op, .int .i64 a, .int .i64 b, .string name, .slice A n c] 24)) [(w4.heap.size + 6, 24, #[.int .i64 op2, .int .i64 a2, .int .i64 b2, .string name2, .slice A2 n2 c2, .int .i64 op, .int .i64 a, .int .i64 b, .string name, .slice A n c]), (w4.heap.size + 5, 24, #[.int .i64 7, .int .i64 0, .int .i64 0, .string ⟨#[]⟩, .slice (some ⟨w4.heap.size + 4, 0, none⟩) 2 2]), (w4.heap.size + 4, 24, #[.int .i64 op, .int .i64 a, .int .i64 b, .string name, .slice A n c, .int .i64 op2, .int .i64 a2, .int .i64 b2, .string name2, .slice A2 n2 c2]), (w4.heap.size + 3, 24, #[.int .i64 6, .int .i64 0, .int .i64 0, .string ⟨#[]⟩, .slice (some ⟨w4.heap.size + 2, 0, none⟩) 2 2]), (w4.heap.size + 2, 24, #[.int .i64 op2, .int .i64 a2, .int .i64 b2, .string name2, .slice A2 n2 c2, .int .i64 op, .int .i64 a, .int .i64 b, .string name, .slice A n c]), (w4.heap.size + 1, 24, #[.int .i64 6, .int .i64 0, .int .i64 0, .string ⟨#[]⟩, .slice (some ⟨w4.heap.size, 0, none⟩) 2 2]), (w4.heap.size, 24, #[.int .i64 op, .int .i64 a, .int .i64 b, .string name, .slice A n c, .int .i64 op2, .int .i64 a2, .int .i64 b2, .string name2, .slice A2 n2 c2]), (w.heap.size + 1, 24, #[.int .i64 op2, .int .i64 a2, .int .i64 b2, .string name2, .slice A2 n2 c2]), (w.heap.size, 24, #[.int .i64 op, .int .i64 a, .int .i64 b, .string name, .slice A n c])] from HK11.out.alloc_at 24 #[.int .i64 op2, .int .i64 a2, .int .i64 b2, .string name2, .slice A2 n2 c2, .int .i64 op, .int .i64 a, .int .i64 b, .string name, .slice A n c] (w4.heap.size + 6) (by simp))
      clear HK11
      have HK13 := Lib.hid (show Kept w ((((((((w4.alloc (.cells #[.int .i64 op, .int .i64 a, .int .i64 b, .string name, .slice A n c, .int .i64 op2, .int .i64 a2, .int .i64 b2, .string name2, .slice A2 n2 c2] 24)).alloc (.cells #[.int .i64 6, .int .i64 0, .int .i64 0, .string ⟨#[]⟩, .slice (some ⟨w4.heap.size, 0, none⟩) 2 2] 24)).alloc (.cells #[.int .i64 op2, .int .i64 a2, .int .i64 b2, .string name2, .slice A2 n2 c2, .int .i64 op, .int .i64 a, .int .i64 b, .string name, .slice A n c] 24)).alloc (.cells #[.int .i64 6, .int .i64 0, .int .i64 0, .string ⟨#[]⟩, .slice (some ⟨w4.heap.size + 2, 0, none⟩) 2 2] 24)).alloc (.cells #[.int .i64 op, .int .i64 a, .int .i64 b, .string name, .slice A n c, .int .i64 op2, .int .i64 a2, .int .i64 b2, .string name2, .slice A2 n2 c2] 24)).alloc (.cells #[.int .i64 7, .int .i64 0, .int .i64 0, .string ⟨#[]⟩, .slice (some ⟨w4.heap.size + 4, 0, none⟩) 2 2] 24)).alloc (.cells #[.int .i64 op2, .int .i64 a2, .int .i64 b2, .string name2, .slice A2 n2 c2, .int .i64 op, .int .i64 a, .int .i64 b, .string name, .slice A n c] 24)).alloc (.cells #[.int .i64 7, .int .i64 0, .int .i64 0, .string ⟨#[]⟩, .slice (some ⟨w4.heap.size + 6, 0, none⟩) 2 2] 24)) [(w4.heap.size + 7, 24, #[.int .i64 7, .int .i64 0, .int .i64 0, .string ⟨#[]⟩, .slice (some ⟨w4.heap.size + 6, 0, none⟩) 2 2]), (w4.heap.size + 6, 24, #[.int .i64 op2, .int .i64 a2, .int .i64 b2, .string name2, .slice A2 n2 c2, .int .i64 op, .int .i64 a, .int .i64 b, .string name, .slice A n c]), (w4.heap.size + 5, 24, #[.int .i64 7, .int .i64 0, .int .i64 0, .string ⟨#[]⟩, .slice (some ⟨w4.heap.size + 4, 0, none⟩) 2 2]), (w4.heap.size + 4, 24, #[.int .i64 op, .int .i64 a, .int .i64 b, .string name, .slice A n c, .int .i64 op2, .int .i64 a2, .int .i64 b2, .string name2, .slice A2 n2 c2]), (w4.heap.size + 3, 24, #[.int .i64 6, .int .i64 0, .int .i64 0, .string ⟨#[]⟩, .slice (some ⟨w4.heap.size + 2, 0, none⟩) 2 2]), (w4.heap.size + 2, 24, #[.int .i64 op2, .int .i64 a2, .int .i64 b2, .string name2, .slice A2 n2 c2, .int .i64 op, .int .i64 a, .int .i64 b, .string name, .slice A n c]), (w4.heap.size + 1, 24, #[.int .i64 6, .int .i64 0, .int .i64 0, .string ⟨#[]⟩, .slice (some ⟨w4.heap.size, 0, none⟩) 2 2]), (w4.heap.size, 24, #[.int .i64 op, .int .i64 a, .int .i64 b, .string name, .slice A n c, .int .i64 op2, .int .i64 a2, .int .i64 b2, .string name2, .slice A2 n2 c2]), (w.heap.size + 1, 24, #[.int .i64 op2, .int .i64 a2, .int .i64 b2, .string name2, .slice A2 n2 c2]), (w.heap.size, 24, #[.int .i64 op, .int .i64 a, .int .i64 b, .string name, .slice A n c])] from HK12.out.alloc_at 24 #[.int .i64 7, .int .i64 0, .int .i64 0, .string ⟨#[]⟩, .slice (some ⟨w4.heap.size + 6, 0, none⟩) 2 2] (w4.heap.size + 7) (by simp))
      clear HK12
      have HK14 := Lib.hid (show Kept w (((((((((w4.alloc (.cells #[.int .i64 op, .int .i64 a, .int .i64 b, .string name, .slice A n c, .int .i64 op2, .int .i64 a2, .int .i64 b2, .string name2, .slice A2 n2 c2] 24)).alloc (.cells #[.int .i64 6, .int .i64 0, .int .i64 0, .string ⟨#[]⟩, .slice (some ⟨w4.heap.size, 0, none⟩) 2 2] 24)).alloc (.cells #[.int .i64 op2, .int .i64 a2, .int .i64 b2, .string name2, .slice A2 n2 c2, .int .i64 op, .int .i64 a, .int .i64 b, .string name, .slice A n c] 24)).alloc (.cells #[.int .i64 6, .int .i64 0, .int .i64 0, .string ⟨#[]⟩, .slice (some ⟨w4.heap.size + 2, 0, none⟩) 2 2] 24)).alloc (.cells #[.int .i64 op, .int .i64 a, .int .i64 b, .string name, .slice A n c, .int .i64 op2, .int .i64 a2, .int .i64 b2, .string name2, .slice A2 n2 c2] 24)).alloc (.cells #[.int .i64 7, .int .i64 0, .int .i64 0, .string ⟨#[]⟩, .slice (some ⟨w4.heap.size + 4, 0, none⟩) 2 2] 24)).alloc (.cells #[.int .i64 op2, .int .i64 a2, .int .i64 b2, .string name2, .slice A2 n2 c2, .int .i64 op, .int .i64 a, .int .i64 b, .string name, .slice A n c] 24)).alloc (.cells #[.int .i64 7, .int .i64 0, .int .i64 0, .string ⟨#[]⟩, .slice (some ⟨w4.heap.size + 6, 0, none⟩) 2 2] 24)).alloc (.cells #[.int .i64 8, .int .i64 0, .int .i64 0, .string ⟨#[]⟩, .slice (some ⟨w4.heap.size + 7, 0, none⟩) 1 1] 24)) [(w4.heap.size + 8, 24, #[.int .i64 8, .int .i64 0, .int .i64 0, .string ⟨#[]⟩, .slice (some ⟨w4.heap.size + 7, 0, none⟩) 1 1]), (w4.heap.size + 7, 24, #[.int .i64 7, .int .i64 0, .int .i64 0, .string ⟨#[]⟩, .slice (some ⟨w4.heap.size + 6, 0, none⟩) 2 2]), (w4.heap.size + 6, 24, #[.int .i64 op2, .int .i64 a2, .int .i64 b2, .string name2, .slice A2 n2 c2, .int .i64 op, .int .i64 a, .int .i64 b, .string name, .slice A n c]), (w4.heap.size + 5, 24, #[.int .i64 7, .int .i64 0, .int .i64 0, .string ⟨#[]⟩, .slice (some ⟨w4.heap.size + 4, 0, none⟩) 2 2]), (w4.heap.size + 4, 24, #[.int .i64 op, .int .i64 a, .int .i64 b, .string name, .slice A n c, .int .i64 op2, .int .i64 a2, .int .i64 b2, .string name2, .slice A2 n2 c2]), (w4.heap.size + 3, 24, #[.int .i64 6, .int .i64 0, .int .i64 0, .string ⟨#[]⟩, .slice (some ⟨w4.heap.size + 2, 0, none⟩) 2 2]), (w4.heap.size + 2, 24, #[.int .i64 op2, .int .i64 a2, .int .i64 b2, .string name2, .slice A2 n2 c2, .int .i64 op, .int .i64 a, .int .i64 b, .string name, .slice A n c]), (w4.heap.size + 1, 24, #[.int .i64 6, .int .i64 0, .int .i64 0, .string ⟨#[]⟩, .slice (some ⟨w4.heap.size, 0, none⟩) 2 2]), (w4.heap.size, 24, #[.int .i64 op, .int .i64 a, .int .i64 b, .string name, .slice A n c, .int .i64 op2, .int .i64 a2, .int .i64 b2, .string name2, .slice A2 n2 c2]), (w.heap.size + 1, 24, #[.int .i64 op2, .int .i64 a2, .int .i64 b2, .string name2, .slice A2 n2 c2]), (w.heap.size, 24, #[.int .i64 op, .int .i64 a, .int .i64 b, .string name, .slice A n c])] from HK13.out.alloc_at 24 #[.int .i64 8, .int .i64 0, .int .i64 0, .string ⟨#[]⟩, .slice (some ⟨w4.heap.size + 7, 0, none⟩) 1 1] (w4.heap.size + 8) (by simp))
      clear HK13
      have x8_f_0 : (((((((((w4.alloc (.cells #[.int .i64 op, .int .i64 a, .int .i64 b, .string name, .slice A n c, .int .i64 op2, .int .i64 a2, .int .i64 b2, .string name2, .slice A2 n2 c2] 24)).alloc (.cells #[.int .i64 6, .int .i64 0, .int .i64 0, .string ⟨#[]⟩, .slice (some ⟨w4.heap.size, 0, none⟩) 2 2] 24)).alloc (.cells #[.int .i64 op2, .int .i64 a2, .int .i64 b2, .string name2, .slice A2 n2 c2, .int .i64 op, .int .i64 a, .int .i64 b, .string name, .slice A n c] 24)).alloc (.cells #[.int .i64 6, .int .i64 0, .int .i64 0, .string ⟨#[]⟩, .slice (some ⟨w4.heap.size + 2, 0, none⟩) 2 2] 24)).alloc (.cells #[.int .i64 op, .int .i64 a, .int .i64 b, .string name, .slice A n c, .int .i64 op2, .int .i64 a2, .int .i64 b2, .string name2, .slice A2 n2 c2] 24)).alloc (.cells #[.int .i64 7, .int .i64 0, .int .i64 0, .string ⟨#[]⟩, .slice (some ⟨w4.heap.size + 4, 0, none⟩) 2 2] 24)).alloc (.cells #[.int .i64 op2, .int .i64 a2, .int .i64 b2, .string name2, .slice A2 n2 c2, .int .i64 op, .int .i64 a, .int .i64 b, .string name, .slice A n c] 24)).alloc (.cells #[.int .i64 7, .int .i64 0, .int .i64 0, .string ⟨#[]⟩, .slice (some ⟨w4.heap.size + 6, 0, none⟩) 2 2] 24)).alloc (.cells #[.int .i64 8, .int .i64 0, .int .i64 0, .string ⟨#[]⟩, .slice (some ⟨w4.heap.size + 7, 0, none⟩) 1 1] 24)).cell? ⟨w.heap.size, 0, none⟩ = some (.int .i64 op) := HK14.out.cell 10 rfl 0
      have x8_f_1 : (((((((((w4.alloc (.cells #[.int .i64 op, .int .i64 a, .int .i64 b, .string name, .slice A n c, .int .i64 op2, .int .i64 a2, .int .i64 b2, .string name2, .slice A2 n2 c2] 24)).alloc (.cells #[.int .i64 6, .int .i64 0, .int .i64 0, .string ⟨#[]⟩, .slice (some ⟨w4.heap.size, 0, none⟩) 2 2] 24)).alloc (.cells #[.int .i64 op2, .int .i64 a2, .int .i64 b2, .string name2, .slice A2 n2 c2, .int .i64 op, .int .i64 a, .int .i64 b, .string name, .slice A n c] 24)).alloc (.cells #[.int .i64 6, .int .i64 0, .int .i64 0, .string ⟨#[]⟩, .slice (some ⟨w4.heap.size + 2, 0, none⟩) 2 2] 24)).alloc (.cells #[.int .i64 op, .int .i64 a, .int .i64 b, .string name, .slice A n c, .int .i64 op2, .int .i64 a2, .int .i64 b2, .string name2, .slice A2 n2 c2] 24)).alloc (.cells #[.int .i64 7, .int .i64 0, .int .i64 0, .string ⟨#[]⟩, .slice (some ⟨w4.heap.size + 4, 0, none⟩) 2 2] 24)).alloc (.cells #[.int .i64 op2, .int .i64 a2, .int .i64 b2, .string name2, .slice A2 n2 c2, .int .i64 op, .int .i64 a, .int .i64 b, .string name, .slice A n c] 24)).alloc (.cells #[.int .i64 7, .int .i64 0, .int .i64 0, .string ⟨#[]⟩, .slice (some ⟨w4.heap.size + 6, 0, none⟩) 2 2] 24)).alloc (.cells #[.int .i64 8, .int .i64 0, .int .i64 0, .string ⟨#[]⟩, .slice (some ⟨w4.heap.size + 7, 0, none⟩) 1 1] 24)).cell? ⟨w.heap.size, 1, none⟩ = some (.int .i64 a) := HK14.out.cell 10 rfl 1
      have x8_f_2 : (((((((((w4.alloc (.cells #[.int .i64 op, .int .i64 a, .int .i64 b, .string name, .slice A n c, .int .i64 op2, .int .i64 a2, .int .i64 b2, .string name2, .slice A2 n2 c2] 24)).alloc (.cells #[.int .i64 6, .int .i64 0, .int .i64 0, .string ⟨#[]⟩, .slice (some ⟨w4.heap.size, 0, none⟩) 2 2] 24)).alloc (.cells #[.int .i64 op2, .int .i64 a2, .int .i64 b2, .string name2, .slice A2 n2 c2, .int .i64 op, .int .i64 a, .int .i64 b, .string name, .slice A n c] 24)).alloc (.cells #[.int .i64 6, .int .i64 0, .int .i64 0, .string ⟨#[]⟩, .slice (some ⟨w4.heap.size + 2, 0, none⟩) 2 2] 24)).alloc (.cells #[.int .i64 op, .int .i64 a, .int .i64 b, .string name, .slice A n c, .int .i64 op2, .int .i64 a2, .int .i64 b2, .string name2, .slice A2 n2 c2] 24)).alloc (.cells #[.int .i64 7, .int .i64 0, .int .i64 0, .string ⟨#[]⟩, .slice (some ⟨w4.heap.size + 4, 0, none⟩) 2 2] 24)).alloc (.cells #[.int .i64 op2, .int .i64 a2, .int .i64 b2, .string name2, .slice A2 n2 c2, .int .i64 op, .int .i64 a, .int .i64 b, .string name, .slice A n c] 24)).alloc (.cells #[.int .i64 7, .int .i64 0, .int .i64 0, .string ⟨#[]⟩, .slice (some ⟨w4.heap.size + 6, 0, none⟩) 2 2] 24)).alloc (.cells #[.int .i64 8, .int .i64 0, .int .i64 0, .string ⟨#[]⟩, .slice (some ⟨w4.heap.size + 7, 0, none⟩) 1 1] 24)).cell? ⟨w.heap.size, 2, none⟩ = some (.int .i64 b) := HK14.out.cell 10 rfl 2
      have x8_f_3 : (((((((((w4.alloc (.cells #[.int .i64 op, .int .i64 a, .int .i64 b, .string name, .slice A n c, .int .i64 op2, .int .i64 a2, .int .i64 b2, .string name2, .slice A2 n2 c2] 24)).alloc (.cells #[.int .i64 6, .int .i64 0, .int .i64 0, .string ⟨#[]⟩, .slice (some ⟨w4.heap.size, 0, none⟩) 2 2] 24)).alloc (.cells #[.int .i64 op2, .int .i64 a2, .int .i64 b2, .string name2, .slice A2 n2 c2, .int .i64 op, .int .i64 a, .int .i64 b, .string name, .slice A n c] 24)).alloc (.cells #[.int .i64 6, .int .i64 0, .int .i64 0, .string ⟨#[]⟩, .slice (some ⟨w4.heap.size + 2, 0, none⟩) 2 2] 24)).alloc (.cells #[.int .i64 op, .int .i64 a, .int .i64 b, .string name, .slice A n c, .int .i64 op2, .int .i64 a2, .int .i64 b2, .string name2, .slice A2 n2 c2] 24)).alloc (.cells #[.int .i64 7, .int .i64 0, .int .i64 0, .string ⟨#[]⟩, .slice (some ⟨w4.heap.size + 4, 0, none⟩) 2 2] 24)).alloc (.cells #[.int .i64 op2, .int .i64 a2, .int .i64 b2, .string name2, .slice A2 n2 c2, .int .i64 op, .int .i64 a, .int .i64 b, .string name, .slice A n c] 24)).alloc (.cells #[.int .i64 7, .int .i64 0, .int .i64 0, .string ⟨#[]⟩, .slice (some ⟨w4.heap.size + 6, 0, none⟩) 2 2] 24)).alloc (.cells #[.int .i64 8, .int .i64 0, .int .i64 0, .string ⟨#[]⟩, .slice (some ⟨w4.heap.size + 7, 0, none⟩) 1 1] 24)).cell? ⟨w.heap.size, 3, none⟩ = some (.string name) := HK14.out.cell 10 rfl 3
      have x8_f_4 : (((((((((w4.alloc (.cells #[.int .i64 op, .int .i64 a, .int .i64 b, .string name, .slice A n c, .int .i64 op2, .int .i64 a2, .int .i64 b2, .string name2, .slice A2 n2 c2] 24)).alloc (.cells #[.int .i64 6, .int .i64 0, .int .i64 0, .string ⟨#[]⟩, .slice (some ⟨w4.heap.size, 0, none⟩) 2 2] 24)).alloc (.cells #[.int .i64 op2, .int .i64 a2, .int .i64 b2, .string name2, .slice A2 n2 c2, .int .i64 op, .int .i64 a, .int .i64 b, .string name, .slice A n c] 24)).alloc (.cells #[.int .i64 6, .int .i64 0, .int .i64 0, .string ⟨#[]⟩, .slice (some ⟨w4.heap.size + 2, 0, none⟩) 2 2] 24)).alloc (.cells #[.int .i64 op, .int .i64 a, .int .i64 b, .string name, .slice A n c, .int .i64 op2, .int .i64 a2, .int .i64 b2, .string name2, .slice A2 n2 c2] 24)).alloc (.cells #[.int .i64 7, .int .i64 0, .int .i64 0, .string ⟨#[]⟩, .slice (some ⟨w4.heap.size + 4, 0, none⟩) 2 2] 24)).alloc (.cells #[.int .i64 op2, .int .i64 a2, .int .i64 b2, .string name2, .slice A2 n2 c2, .int .i64 op, .int .i64 a, .int .i64 b, .string name, .slice A n c] 24)).alloc (.cells #[.int .i64 7, .int .i64 0, .int .i64 0, .string ⟨#[]⟩, .slice (some ⟨w4.heap.size + 6, 0, none⟩) 2 2] 24)).alloc (.cells #[.int .i64 8, .int .i64 0, .int .i64 0, .string ⟨#[]⟩, .slice (some ⟨w4.heap.size + 7, 0, none⟩) 1 1] 24)).cell? ⟨w.heap.size, 4, none⟩ = some (.slice A n c) := HK14.out.cell 10 rfl 4
      have x8_g_0 : (((((((((w4.alloc (.cells #[.int .i64 op, .int .i64 a, .int .i64 b, .string name, .slice A n c, .int .i64 op2, .int .i64 a2, .int .i64 b2, .string name2, .slice A2 n2 c2] 24)).alloc (.cells #[.int .i64 6, .int .i64 0, .int .i64 0, .string ⟨#[]⟩, .slice (some ⟨w4.heap.size, 0, none⟩) 2 2] 24)).alloc (.cells #[.int .i64 op2, .int .i64 a2, .int .i64 b2, .string name2, .slice A2 n2 c2, .int .i64 op, .int .i64 a, .int .i64 b, .string name, .slice A n c] 24)).alloc (.cells #[.int .i64 6, .int .i64 0, .int .i64 0, .string ⟨#[]⟩, .slice (some ⟨w4.heap.size + 2, 0, none⟩) 2 2] 24)).alloc (.cells #[.int .i64 op, .int .i64 a, .int .i64 b, .string name, .slice A n c, .int .i64 op2, .int .i64 a2, .int .i64 b2, .string name2, .slice A2 n2 c2] 24)).alloc (.cells #[.int .i64 7, .int .i64 0, .int .i64 0, .string ⟨#[]⟩, .slice (some ⟨w4.heap.size + 4, 0, none⟩) 2 2] 24)).alloc (.cells #[.int .i64 op2, .int .i64 a2, .int .i64 b2, .string name2, .slice A2 n2 c2, .int .i64 op, .int .i64 a, .int .i64 b, .string name, .slice A n c] 24)).alloc (.cells #[.int .i64 7, .int .i64 0, .int .i64 0, .string ⟨#[]⟩, .slice (some ⟨w4.heap.size + 6, 0, none⟩) 2 2] 24)).alloc (.cells #[.int .i64 8, .int .i64 0, .int .i64 0, .string ⟨#[]⟩, .slice (some ⟨w4.heap.size + 7, 0, none⟩) 1 1] 24)).cell? ⟨w.heap.size + 1, 0, none⟩ = some (.int .i64 op2) := HK14.out.cell 9 rfl 0
      have x8_g_1 : (((((((((w4.alloc (.cells #[.int .i64 op, .int .i64 a, .int .i64 b, .string name, .slice A n c, .int .i64 op2, .int .i64 a2, .int .i64 b2, .string name2, .slice A2 n2 c2] 24)).alloc (.cells #[.int .i64 6, .int .i64 0, .int .i64 0, .string ⟨#[]⟩, .slice (some ⟨w4.heap.size, 0, none⟩) 2 2] 24)).alloc (.cells #[.int .i64 op2, .int .i64 a2, .int .i64 b2, .string name2, .slice A2 n2 c2, .int .i64 op, .int .i64 a, .int .i64 b, .string name, .slice A n c] 24)).alloc (.cells #[.int .i64 6, .int .i64 0, .int .i64 0, .string ⟨#[]⟩, .slice (some ⟨w4.heap.size + 2, 0, none⟩) 2 2] 24)).alloc (.cells #[.int .i64 op, .int .i64 a, .int .i64 b, .string name, .slice A n c, .int .i64 op2, .int .i64 a2, .int .i64 b2, .string name2, .slice A2 n2 c2] 24)).alloc (.cells #[.int .i64 7, .int .i64 0, .int .i64 0, .string ⟨#[]⟩, .slice (some ⟨w4.heap.size + 4, 0, none⟩) 2 2] 24)).alloc (.cells #[.int .i64 op2, .int .i64 a2, .int .i64 b2, .string name2, .slice A2 n2 c2, .int .i64 op, .int .i64 a, .int .i64 b, .string name, .slice A n c] 24)).alloc (.cells #[.int .i64 7, .int .i64 0, .int .i64 0, .string ⟨#[]⟩, .slice (some ⟨w4.heap.size + 6, 0, none⟩) 2 2] 24)).alloc (.cells #[.int .i64 8, .int .i64 0, .int .i64 0, .string ⟨#[]⟩, .slice (some ⟨w4.heap.size + 7, 0, none⟩) 1 1] 24)).cell? ⟨w.heap.size + 1, 1, none⟩ = some (.int .i64 a2) := HK14.out.cell 9 rfl 1
      have x8_g_2 : (((((((((w4.alloc (.cells #[.int .i64 op, .int .i64 a, .int .i64 b, .string name, .slice A n c, .int .i64 op2, .int .i64 a2, .int .i64 b2, .string name2, .slice A2 n2 c2] 24)).alloc (.cells #[.int .i64 6, .int .i64 0, .int .i64 0, .string ⟨#[]⟩, .slice (some ⟨w4.heap.size, 0, none⟩) 2 2] 24)).alloc (.cells #[.int .i64 op2, .int .i64 a2, .int .i64 b2, .string name2, .slice A2 n2 c2, .int .i64 op, .int .i64 a, .int .i64 b, .string name, .slice A n c] 24)).alloc (.cells #[.int .i64 6, .int .i64 0, .int .i64 0, .string ⟨#[]⟩, .slice (some ⟨w4.heap.size + 2, 0, none⟩) 2 2] 24)).alloc (.cells #[.int .i64 op, .int .i64 a, .int .i64 b, .string name, .slice A n c, .int .i64 op2, .int .i64 a2, .int .i64 b2, .string name2, .slice A2 n2 c2] 24)).alloc (.cells #[.int .i64 7, .int .i64 0, .int .i64 0, .string ⟨#[]⟩, .slice (some ⟨w4.heap.size + 4, 0, none⟩) 2 2] 24)).alloc (.cells #[.int .i64 op2, .int .i64 a2, .int .i64 b2, .string name2, .slice A2 n2 c2, .int .i64 op, .int .i64 a, .int .i64 b, .string name, .slice A n c] 24)).alloc (.cells #[.int .i64 7, .int .i64 0, .int .i64 0, .string ⟨#[]⟩, .slice (some ⟨w4.heap.size + 6, 0, none⟩) 2 2] 24)).alloc (.cells #[.int .i64 8, .int .i64 0, .int .i64 0, .string ⟨#[]⟩, .slice (some ⟨w4.heap.size + 7, 0, none⟩) 1 1] 24)).cell? ⟨w.heap.size + 1, 2, none⟩ = some (.int .i64 b2) := HK14.out.cell 9 rfl 2
      have x8_g_3 : (((((((((w4.alloc (.cells #[.int .i64 op, .int .i64 a, .int .i64 b, .string name, .slice A n c, .int .i64 op2, .int .i64 a2, .int .i64 b2, .string name2, .slice A2 n2 c2] 24)).alloc (.cells #[.int .i64 6, .int .i64 0, .int .i64 0, .string ⟨#[]⟩, .slice (some ⟨w4.heap.size, 0, none⟩) 2 2] 24)).alloc (.cells #[.int .i64 op2, .int .i64 a2, .int .i64 b2, .string name2, .slice A2 n2 c2, .int .i64 op, .int .i64 a, .int .i64 b, .string name, .slice A n c] 24)).alloc (.cells #[.int .i64 6, .int .i64 0, .int .i64 0, .string ⟨#[]⟩, .slice (some ⟨w4.heap.size + 2, 0, none⟩) 2 2] 24)).alloc (.cells #[.int .i64 op, .int .i64 a, .int .i64 b, .string name, .slice A n c, .int .i64 op2, .int .i64 a2, .int .i64 b2, .string name2, .slice A2 n2 c2] 24)).alloc (.cells #[.int .i64 7, .int .i64 0, .int .i64 0, .string ⟨#[]⟩, .slice (some ⟨w4.heap.size + 4, 0, none⟩) 2 2] 24)).alloc (.cells #[.int .i64 op2, .int .i64 a2, .int .i64 b2, .string name2, .slice A2 n2 c2, .int .i64 op, .int .i64 a, .int .i64 b, .string name, .slice A n c] 24)).alloc (.cells #[.int .i64 7, .int .i64 0, .int .i64 0, .string ⟨#[]⟩, .slice (some ⟨w4.heap.size + 6, 0, none⟩) 2 2] 24)).alloc (.cells #[.int .i64 8, .int .i64 0, .int .i64 0, .string ⟨#[]⟩, .slice (some ⟨w4.heap.size + 7, 0, none⟩) 1 1] 24)).cell? ⟨w.heap.size + 1, 3, none⟩ = some (.string name2) := HK14.out.cell 9 rfl 3
      have x8_g_4 : (((((((((w4.alloc (.cells #[.int .i64 op, .int .i64 a, .int .i64 b, .string name, .slice A n c, .int .i64 op2, .int .i64 a2, .int .i64 b2, .string name2, .slice A2 n2 c2] 24)).alloc (.cells #[.int .i64 6, .int .i64 0, .int .i64 0, .string ⟨#[]⟩, .slice (some ⟨w4.heap.size, 0, none⟩) 2 2] 24)).alloc (.cells #[.int .i64 op2, .int .i64 a2, .int .i64 b2, .string name2, .slice A2 n2 c2, .int .i64 op, .int .i64 a, .int .i64 b, .string name, .slice A n c] 24)).alloc (.cells #[.int .i64 6, .int .i64 0, .int .i64 0, .string ⟨#[]⟩, .slice (some ⟨w4.heap.size + 2, 0, none⟩) 2 2] 24)).alloc (.cells #[.int .i64 op, .int .i64 a, .int .i64 b, .string name, .slice A n c, .int .i64 op2, .int .i64 a2, .int .i64 b2, .string name2, .slice A2 n2 c2] 24)).alloc (.cells #[.int .i64 7, .int .i64 0, .int .i64 0, .string ⟨#[]⟩, .slice (some ⟨w4.heap.size + 4, 0, none⟩) 2 2] 24)).alloc (.cells #[.int .i64 op2, .int .i64 a2, .int .i64 b2, .string name2, .slice A2 n2 c2, .int .i64 op, .int .i64 a, .int .i64 b, .string name, .slice A n c] 24)).alloc (.cells #[.int .i64 7, .int .i64 0, .int .i64 0, .string ⟨#[]⟩, .slice (some ⟨w4.heap.size + 6, 0, none⟩) 2 2] 24)).alloc (.cells #[.int .i64 8, .int .i64 0, .int .i64 0, .string ⟨#[]⟩, .slice (some ⟨w4.heap.size + 7, 0, none⟩) 1 1] 24)).cell? ⟨w.heap.size + 1, 4, none⟩ = some (.slice A2 n2 c2) := HK14.out.cell 9 rfl 4
      have HK15 := Lib.hid (show Kept w ((((((((((w4.alloc (.cells #[.int .i64 op, .int .i64 a, .int .i64 b, .string name, .slice A n c, .int .i64 op2, .int .i64 a2, .int .i64 b2, .string name2, .slice A2 n2 c2] 24)).alloc (.cells #[.int .i64 6, .int .i64 0, .int .i64 0, .string ⟨#[]⟩, .slice (some ⟨w4.heap.size, 0, none⟩) 2 2] 24)).alloc (.cells #[.int .i64 op2, .int .i64 a2, .int .i64 b2, .string name2, .slice A2 n2 c2, .int .i64 op, .int .i64 a, .int .i64 b, .string name, .slice A n c] 24)).alloc (.cells #[.int .i64 6, .int .i64 0, .int .i64 0, .string ⟨#[]⟩, .slice (some ⟨w4.heap.size + 2, 0, none⟩) 2 2] 24)).alloc (.cells #[.int .i64 op, .int .i64 a, .int .i64 b, .string name, .slice A n c, .int .i64 op2, .int .i64 a2, .int .i64 b2, .string name2, .slice A2 n2 c2] 24)).alloc (.cells #[.int .i64 7, .int .i64 0, .int .i64 0, .string ⟨#[]⟩, .slice (some ⟨w4.heap.size + 4, 0, none⟩) 2 2] 24)).alloc (.cells #[.int .i64 op2, .int .i64 a2, .int .i64 b2, .string name2, .slice A2 n2 c2, .int .i64 op, .int .i64 a, .int .i64 b, .string name, .slice A n c] 24)).alloc (.cells #[.int .i64 7, .int .i64 0, .int .i64 0, .string ⟨#[]⟩, .slice (some ⟨w4.heap.size + 6, 0, none⟩) 2 2] 24)).alloc (.cells #[.int .i64 8, .int .i64 0, .int .i64 0, .string ⟨#[]⟩, .slice (some ⟨w4.heap.size + 7, 0, none⟩) 1 1] 24)).alloc (.cells #[.int .i64 op, .int .i64 a, .int .i64 b, .string name, .slice A n c] 24)) [(w4.heap.size + 9, 24, #[.int .i64 op, .int .i64 a, .int .i64 b, .string name, .slice A n c]), (w4.heap.size + 8, 24, #[.int .i64 8, .int .i64 0, .int .i64 0, .string ⟨#[]⟩, .slice (some ⟨w4.heap.size + 7, 0, none⟩) 1 1]), (w4.heap.size + 7, 24, #[.int .i64 7, .int .i64 0, .int .i64 0, .string ⟨#[]⟩, .slice (some ⟨w4.heap.size + 6, 0, none⟩) 2 2]), (w4.heap.size + 6, 24, #[.int .i64 op2, .int .i64 a2, .int .i64 b2, .string name2, .slice A2 n2 c2, .int .i64 op, .int .i64 a, .int .i64 b, .string name, .slice A n c]), (w4.heap.size + 5, 24, #[.int .i64 7, .int .i64 0, .int .i64 0, .string ⟨#[]⟩, .slice (some ⟨w4.heap.size + 4, 0, none⟩) 2 2]), (w4.heap.size + 4, 24, #[.int .i64 op, .int .i64 a, .int .i64 b, .string name, .slice A n c, .int .i64 op2, .int .i64 a2, .int .i64 b2, .string name2, .slice A2 n2 c2]), (w4.heap.size + 3, 24, #[.int .i64 6, .int .i64 0, .int .i64 0, .string ⟨#[]⟩, .slice (some ⟨w4.heap.size + 2, 0, none⟩) 2 2]), (w4.heap.size + 2, 24, #[.int .i64 op2, .int .i64 a2, .int .i64 b2, .string name2, .slice A2 n2 c2, .int .i64 op, .int .i64 a, .int .i64 b, .string name, .slice A n c]), (w4.heap.size + 1, 24, #[.int .i64 6, .int .i64 0, .int .i64 0, .string ⟨#[]⟩, .slice (some ⟨w4.heap.size, 0, none⟩) 2 2]), (w4.heap.size, 24, #[.int .i64 op, .int .i64 a, .int .i64 b, .string name, .slice A n c, .int .i64 op2, .int .i64 a2, .int .i64 b2, .string name2, .slice A2 n2 c2]), (w.heap.size + 1, 24, #[.int .i64 op2, .int .i64 a2, .int .i64 b2, .string name2, .slice A2 n2 c2]), (w.heap.size, 24, #[.int .i64 op, .int .i64 a, .int .i64 b, .string name, .slice A n c])] from HK14.out.alloc_at 24 #[.int .i64 op, .int .i64 a, .int .i64 b, .string name, .slice A n c] (w4.heap.size + 9) (by simp))
      clear HK14
      have HK16 := Lib.hid (show Kept w (((((((((((w4.alloc (.cells #[.int .i64 op, .int .i64 a, .int .i64 b, .string name, .slice A n c, .int .i64 op2, .int .i64 a2, .int .i64 b2, .string name2, .slice A2 n2 c2] 24)).alloc (.cells #[.int .i64 6, .int .i64 0, .int .i64 0, .string ⟨#[]⟩, .slice (some ⟨w4.heap.size, 0, none⟩) 2 2] 24)).alloc (.cells #[.int .i64 op2, .int .i64 a2, .int .i64 b2, .string name2, .slice A2 n2 c2, .int .i64 op, .int .i64 a, .int .i64 b, .string name, .slice A n c] 24)).alloc (.cells #[.int .i64 6, .int .i64 0, .int .i64 0, .string ⟨#[]⟩, .slice (some ⟨w4.heap.size + 2, 0, none⟩) 2 2] 24)).alloc (.cells #[.int .i64 op, .int .i64 a, .int .i64 b, .string name, .slice A n c, .int .i64 op2, .int .i64 a2, .int .i64 b2, .string name2, .slice A2 n2 c2] 24)).alloc (.cells #[.int .i64 7, .int .i64 0, .int .i64 0, .string ⟨#[]⟩, .slice (some ⟨w4.heap.size + 4, 0, none⟩) 2 2] 24)).alloc (.cells #[.int .i64 op2, .int .i64 a2, .int .i64 b2, .string name2, .slice A2 n2 c2, .int .i64 op, .int .i64 a, .int .i64 b, .string name, .slice A n c] 24)).alloc (.cells #[.int .i64 7, .int .i64 0, .int .i64 0, .string ⟨#[]⟩, .slice (some ⟨w4.heap.size + 6, 0, none⟩) 2 2] 24)).alloc (.cells #[.int .i64 8, .int .i64 0, .int .i64 0, .string ⟨#[]⟩, .slice (some ⟨w4.heap.size + 7, 0, none⟩) 1 1] 24)).alloc (.cells #[.int .i64 op, .int .i64 a, .int .i64 b, .string name, .slice A n c] 24)).alloc (.cells #[.int .i64 6, .int .i64 0, .int .i64 0, .string ⟨#[]⟩, .slice (some ⟨w4.heap.size + 9, 0, none⟩) 1 1] 24)) [(w4.heap.size + 10, 24, #[.int .i64 6, .int .i64 0, .int .i64 0, .string ⟨#[]⟩, .slice (some ⟨w4.heap.size + 9, 0, none⟩) 1 1]), (w4.heap.size + 9, 24, #[.int .i64 op, .int .i64 a, .int .i64 b, .string name, .slice A n c]), (w4.heap.size + 8, 24, #[.int .i64 8, .int .i64 0, .int .i64 0, .string ⟨#[]⟩, .slice (some ⟨w4.heap.size + 7, 0, none⟩) 1 1]), (w4.heap.size + 7, 24, #[.int .i64 7, .int .i64 0, .int .i64 0, .string ⟨#[]⟩, .slice (some ⟨w4.heap.size + 6, 0, none⟩) 2 2]), (w4.heap.size + 6, 24, #[.int .i64 op2, .int .i64 a2, .int .i64 b2, .string name2, .slice A2 n2 c2, .int .i64 op, .int .i64 a, .int .i64 b, .string name, .slice A n c]), (w4.heap.size + 5, 24, #[.int .i64 7, .int .i64 0, .int .i64 0, .string ⟨#[]⟩, .slice (some ⟨w4.heap.size + 4, 0, none⟩) 2 2]), (w4.heap.size + 4, 24, #[.int .i64 op, .int .i64 a, .int .i64 b, .string name, .slice A n c, .int .i64 op2, .int .i64 a2, .int .i64 b2, .string name2, .slice A2 n2 c2]), (w4.heap.size + 3, 24, #[.int .i64 6, .int .i64 0, .int .i64 0, .string ⟨#[]⟩, .slice (some ⟨w4.heap.size + 2, 0, none⟩) 2 2]), (w4.heap.size + 2, 24, #[.int .i64 op2, .int .i64 a2, .int .i64 b2, .string name2, .slice A2 n2 c2, .int .i64 op, .int .i64 a, .int .i64 b, .string name, .slice A n c]), (w4.heap.size + 1, 24, #[.int .i64 6, .int .i64 0, .int .i64 0, .string ⟨#[]⟩, .slice (some ⟨w4.heap.size, 0, none⟩) 2 2]), (w4.heap.size, 24, #[.int .i64 op, .int .i64 a, .int .i64 b, .string name, .slice A n c, .int .i64 op2, .int .i64 a2, .int .i64 b2, .string name2, .slice A2 n2 c2]), (w.heap.size + 1, 24, #[.int .i64 op2, .int .i64 a2, .int .i64 b2, .string name2, .slice A2 n2 c2]), (w.heap.size, 24, #[.int .i64 op, .int .i64 a, .int .i64 b, .string name, .slice A n c])] from HK15.out.alloc_at 24 #[.int .i64 6, .int .i64 0, .int .i64 0, .string ⟨#[]⟩, .slice (some ⟨w4.heap.size + 9, 0, none⟩) 1 1] (w4.heap.size + 10) (by simp))
      clear HK15
      have HK17 := Lib.hid (show Kept w ((((((((((((w4.alloc (.cells #[.int .i64 op, .int .i64 a, .int .i64 b, .string name, .slice A n c, .int .i64 op2, .int .i64 a2, .int .i64 b2, .string name2, .slice A2 n2 c2] 24)).alloc (.cells #[.int .i64 6, .int .i64 0, .int .i64 0, .string ⟨#[]⟩, .slice (some ⟨w4.heap.size, 0, none⟩) 2 2] 24)).alloc (.cells #[.int .i64 op2, .int .i64 a2, .int .i64 b2, .string name2, .slice A2 n2 c2, .int .i64 op, .int .i64 a, .int .i64 b, .string name, .slice A n c] 24)).alloc (.cells #[.int .i64 6, .int .i64 0, .int .i64 0, .string ⟨#[]⟩, .slice (some ⟨w4.heap.size + 2, 0, none⟩) 2 2] 24)).alloc (.cells #[.int .i64 op, .int .i64 a, .int .i64 b, .string name, .slice A n c, .int .i64 op2, .int .i64 a2, .int .i64 b2, .string name2, .slice A2 n2 c2] 24)).alloc (.cells #[.int .i64 7, .int .i64 0, .int .i64 0, .string ⟨#[]⟩, .slice (some ⟨w4.heap.size + 4, 0, none⟩) 2 2] 24)).alloc (.cells #[.int .i64 op2, .int .i64 a2, .int .i64 b2, .string name2, .slice A2 n2 c2, .int .i64 op, .int .i64 a, .int .i64 b, .string name, .slice A n c] 24)).alloc (.cells #[.int .i64 7, .int .i64 0, .int .i64 0, .string ⟨#[]⟩, .slice (some ⟨w4.heap.size + 6, 0, none⟩) 2 2] 24)).alloc (.cells #[.int .i64 8, .int .i64 0, .int .i64 0, .string ⟨#[]⟩, .slice (some ⟨w4.heap.size + 7, 0, none⟩) 1 1] 24)).alloc (.cells #[.int .i64 op, .int .i64 a, .int .i64 b, .string name, .slice A n c] 24)).alloc (.cells #[.int .i64 6, .int .i64 0, .int .i64 0, .string ⟨#[]⟩, .slice (some ⟨w4.heap.size + 9, 0, none⟩) 1 1] 24)).alloc (.cells #[.int .i64 7, .int .i64 0, .int .i64 0, .string ⟨#[]⟩, .slice (some ⟨w4.heap.size + 10, 0, none⟩) 1 1] 24)) [(w4.heap.size + 11, 24, #[.int .i64 7, .int .i64 0, .int .i64 0, .string ⟨#[]⟩, .slice (some ⟨w4.heap.size + 10, 0, none⟩) 1 1]), (w4.heap.size + 10, 24, #[.int .i64 6, .int .i64 0, .int .i64 0, .string ⟨#[]⟩, .slice (some ⟨w4.heap.size + 9, 0, none⟩) 1 1]), (w4.heap.size + 9, 24, #[.int .i64 op, .int .i64 a, .int .i64 b, .string name, .slice A n c]), (w4.heap.size + 8, 24, #[.int .i64 8, .int .i64 0, .int .i64 0, .string ⟨#[]⟩, .slice (some ⟨w4.heap.size + 7, 0, none⟩) 1 1]), (w4.heap.size + 7, 24, #[.int .i64 7, .int .i64 0, .int .i64 0, .string ⟨#[]⟩, .slice (some ⟨w4.heap.size + 6, 0, none⟩) 2 2]), (w4.heap.size + 6, 24, #[.int .i64 op2, .int .i64 a2, .int .i64 b2, .string name2, .slice A2 n2 c2, .int .i64 op, .int .i64 a, .int .i64 b, .string name, .slice A n c]), (w4.heap.size + 5, 24, #[.int .i64 7, .int .i64 0, .int .i64 0, .string ⟨#[]⟩, .slice (some ⟨w4.heap.size + 4, 0, none⟩) 2 2]), (w4.heap.size + 4, 24, #[.int .i64 op, .int .i64 a, .int .i64 b, .string name, .slice A n c, .int .i64 op2, .int .i64 a2, .int .i64 b2, .string name2, .slice A2 n2 c2]), (w4.heap.size + 3, 24, #[.int .i64 6, .int .i64 0, .int .i64 0, .string ⟨#[]⟩, .slice (some ⟨w4.heap.size + 2, 0, none⟩) 2 2]), (w4.heap.size + 2, 24, #[.int .i64 op2, .int .i64 a2, .int .i64 b2, .string name2, .slice A2 n2 c2, .int .i64 op, .int .i64 a, .int .i64 b, .string name, .slice A n c]), (w4.heap.size + 1, 24, #[.int .i64 6, .int .i64 0, .int .i64 0, .string ⟨#[]⟩, .slice (some ⟨w4.heap.size, 0, none⟩) 2 2]), (w4.heap.size, 24, #[.int .i64 op, .int .i64 a, .int .i64 b, .string name, .slice A n c, .int .i64 op2, .int .i64 a2, .int .i64 b2, .string name2, .slice A2 n2 c2]), (w.heap.size + 1, 24, #[.int .i64 op2, .int .i64 a2, .int .i64 b2, .string name2, .slice A2 n2 c2]), (w.heap.size, 24, #[.int .i64 op, .int .i64 a, .int .i64 b, .string name, .slice A n c])] from HK16.out.alloc_at 24 #[.int .i64 7, .int .i64 0, .int .i64 0, .string ⟨#[]⟩, .slice (some ⟨w4.heap.size + 10, 0, none⟩) 1 1] (w4.heap.size + 11) (by simp))
      clear HK16
      go_wp2_with fail
      clear c_f_0 c_f_1 c_f_2 c_f_3 c_f_4 c_g_0 c_g_1 c_g_2 c_g_3 c_g_4 x1_f_0 x1_f_1 x1_f_2 x1_f_3 x1_f_4 x1_g_0 x1_g_1 x1_g_2 x1_g_3 x1_g_4 x3_f_0 x3_f_1 x3_f_2 x3_f_3 x3_f_4 x3_g_0 x3_g_1 x3_g_2 x3_g_3 x3_g_4 x5_f_0 x5_f_1 x5_f_2 x5_f_3 x5_f_4 x5_g_0 x5_g_1 x5_g_2 x5_g_3 x5_g_4 x8_f_0 x8_f_1 x8_f_2 x8_f_3 x8_f_4 x8_g_0 x8_g_1 x8_g_2 x8_g_3 x8_g_4
      have hzx : ((((((((((((w4.alloc (.cells #[.int .i64 op, .int .i64 a, .int .i64 b, .string name, .slice A n c, .int .i64 op2, .int .i64 a2, .int .i64 b2, .string name2, .slice A2 n2 c2] 24)).alloc (.cells #[.int .i64 6, .int .i64 0, .int .i64 0, .string ⟨#[]⟩, .slice (some ⟨w4.heap.size, 0, none⟩) 2 2] 24)).alloc (.cells #[.int .i64 op2, .int .i64 a2, .int .i64 b2, .string name2, .slice A2 n2 c2, .int .i64 op, .int .i64 a, .int .i64 b, .string name, .slice A n c] 24)).alloc (.cells #[.int .i64 6, .int .i64 0, .int .i64 0, .string ⟨#[]⟩, .slice (some ⟨w4.heap.size + 2, 0, none⟩) 2 2] 24)).alloc (.cells #[.int .i64 op, .int .i64 a, .int .i64 b, .string name, .slice A n c, .int .i64 op2, .int .i64 a2, .int .i64 b2, .string name2, .slice A2 n2 c2] 24)).alloc (.cells #[.int .i64 7, .int .i64 0, .int .i64 0, .string ⟨#[]⟩, .slice (some ⟨w4.heap.size + 4, 0, none⟩) 2 2] 24)).alloc (.cells #[.int .i64 op2, .int .i64 a2, .int .i64 b2, .string name2, .slice A2 n2 c2, .int .i64 op, .int .i64 a, .int .i64 b, .string name, .slice A n c] 24)).alloc (.cells #[.int .i64 7, .int .i64 0, .int .i64 0, .string ⟨#[]⟩, .slice (some ⟨w4.heap.size + 6, 0, none⟩) 2 2] 24)).alloc (.cells #[.int .i64 8, .int .i64 0, .int .i64 0, .string ⟨#[]⟩, .slice (some ⟨w4.heap.size + 7, 0, none⟩) 1 1] 24)).alloc (.cells #[.int .i64 op, .int .i64 a, .int .i64 b, .string name, .slice A n c] 24)).alloc (.cells #[.int .i64 6, .int .i64 0, .int .i64 0, .string ⟨#[]⟩, .slice (some ⟨w4.heap.size + 9, 0, none⟩) 1 1] 24)).alloc (.cells #[.int .i64 7, .int .i64 0, .int .i64 0, .string ⟨#[]⟩, .slice (some ⟨w4.heap.size + 10, 0, none⟩) 1 1] 24)).heap.size = w4.heap.size + 12 := by simp
      have HZX := Lib.hid hzx
      have HTt := Lib.hid (HT.out.move HK17.out.bel HK17.out.size)
      have HTu := Lib.hid (HU.out.move HK17.out.bel HK17.out.size)
      generalize (((((((((((w4.alloc (.cells #[.int .i64 op, .int .i64 a, .int .i64 b, .string name, .slice A n c, .int .i64 op2, .int .i64 a2, .int .i64 b2, .string name2, .slice A2 n2 c2] 24)).alloc (.cells #[.int .i64 6, .int .i64 0, .int .i64 0, .string ⟨#[]⟩, .slice (some ⟨w4.heap.size, 0, none⟩) 2 2] 24)).alloc (.cells #[.int .i64 op2, .int .i64 a2, .int .i64 b2, .string name2, .slice A2 n2 c2, .int .i64 op, .int .i64 a, .int .i64 b, .string name, .slice A n c] 24)).alloc (.cells #[.int .i64 6, .int .i64 0, .int .i64 0, .string ⟨#[]⟩, .slice (some ⟨w4.heap.size + 2, 0, none⟩) 2 2] 24)).alloc (.cells #[.int .i64 op, .int .i64 a, .int .i64 b, .string name, .slice A n c, .int .i64 op2, .int .i64 a2, .int .i64 b2, .string name2, .slice A2 n2 c2] 24)).alloc (.cells #[.int .i64 7, .int .i64 0, .int .i64 0, .string ⟨#[]⟩, .slice (some ⟨w4.heap.size + 4, 0, none⟩) 2 2] 24)).alloc (.cells #[.int .i64 op2, .int .i64 a2, .int .i64 b2, .string name2, .slice A2 n2 c2, .int .i64 op, .int .i64 a, .int .i64 b, .string name, .slice A n c] 24)).alloc (.cells #[.int .i64 7, .int .i64 0, .int .i64 0, .string ⟨#[]⟩, .slice (some ⟨w4.heap.size + 6, 0, none⟩) 2 2] 24)).alloc (.cells #[.int .i64 8, .int .i64 0, .int .i64 0, .string ⟨#[]⟩, .slice (some ⟨w4.heap.size + 7, 0, none⟩) 1 1] 24)).alloc (.cells #[.int .i64 op, .int .i64 a, .int .i64 b, .string name, .slice A n c] 24)).alloc (.cells #[.int .i64 6, .int .i64 0, .int .i64 0, .string ⟨#[]⟩, .slice (some ⟨w4.heap.size + 9, 0, none⟩) 1 1] 24)).alloc (.cells #[.int .i64 7, .int .i64 0, .int .i64 0, .string ⟨#[]⟩, .slice (some ⟨w4.heap.size + 10, 0, none⟩) 1 1] 24) = wx at HZX HK17 HTt HTu ⊢
      clear hzx
      have HTb := Lib.hid (FTr.two HTt.out HTu.out (HK17.out.blk 11 rfl) (HK17.out.lt 11 rfl) 6 (by decide))
      have HTd := Lib.hid (FTr.two HTu.out HTt.out (HK17.out.blk 9 rfl) (HK17.out.lt 9 rfl) 6 (by decide))
      have HTs := Lib.hid (FTr.two HTt.out HTu.out (HK17.out.blk 7 rfl) (HK17.out.lt 7 rfl) 7 (by decide))
      have HTn0 := Lib.hid (FTr.two HTu.out HTt.out (HK17.out.blk 5 rfl) (HK17.out.lt 5 rfl) 7 (by decide))
      have HTn := Lib.hid (FTr.one HTn0.out (HK17.out.blk 4 rfl) (HK17.out.lt 4 rfl) 8 (by decide))
      have HTo0 := Lib.hid (FTr.one HTt.out (HK17.out.blk 2 rfl) (HK17.out.lt 2 rfl) 6 (by decide))
      have HTo := Lib.hid (FTr.one HTo0.out (HK17.out.blk 1 rfl) (HK17.out.lt 1 rfl) 7 (by decide))
      clear HTn0 HTo0
      have HK18 := Lib.hid (show Kept w wx [(w4.heap.size + 11, 24, #[.int .i64 7, .int .i64 0, .int .i64 0, .string ⟨#[]⟩, .slice (some ⟨w4.heap.size + 10, 0, none⟩) 1 1]), (w4.heap.size + 8, 24, #[.int .i64 8, .int .i64 0, .int .i64 0, .string ⟨#[]⟩, .slice (some ⟨w4.heap.size + 7, 0, none⟩) 1 1]), (w4.heap.size + 5, 24, #[.int .i64 7, .int .i64 0, .int .i64 0, .string ⟨#[]⟩, .slice (some ⟨w4.heap.size + 4, 0, none⟩) 2 2]), (w4.heap.size + 3, 24, #[.int .i64 6, .int .i64 0, .int .i64 0, .string ⟨#[]⟩, .slice (some ⟨w4.heap.size + 2, 0, none⟩) 2 2]), (w4.heap.size + 1, 24, #[.int .i64 6, .int .i64 0, .int .i64 0, .string ⟨#[]⟩, .slice (some ⟨w4.heap.size, 0, none⟩) 2 2]), (w.heap.size + 1, 24, #[.int .i64 op2, .int .i64 a2, .int .i64 b2, .string name2, .slice A2 n2 c2]), (w.heap.size, 24, #[.int .i64 op, .int .i64 a, .int .i64 b, .string name, .slice A n c])] from HK17.out.sub (List.Sublist.cons_cons _ (List.Sublist.cons _ (List.Sublist.cons _ (List.Sublist.cons_cons _ (List.Sublist.cons _ (List.Sublist.cons _ (List.Sublist.cons_cons _ (List.Sublist.cons _ (List.Sublist.cons_cons _ (List.Sublist.cons _ (List.Sublist.cons_cons _ (List.Sublist.cons _ (List.Sublist.cons_cons _ (List.Sublist.cons_cons _ List.Sublist.slnil)))))))))))))))
      clear HK17
      have HKX := HK18
      have HBx := Lib.hid (Below.refl wx.heap.size wx)
      have hzw := HKX.out.size
      with_reducible refine (Right_c HTn.out _ HBx.out HBx.out.size).mono ?_
      rintro e w5 ⟨rfl, hb5⟩
      have HBy := Lib.hid (HBx.out.trans (hb5.mono HBx.out.size))
      clear HBx
      have HBx := HBy
      clear HBy
      have HK19 := Lib.hid (show Kept w w5 [(w4.heap.size + 11, 24, #[.int .i64 7, .int .i64 0, .int .i64 0, .string ⟨#[]⟩, .slice (some ⟨w4.heap.size + 10, 0, none⟩) 1 1]), (w4.heap.size + 8, 24, #[.int .i64 8, .int .i64 0, .int .i64 0, .string ⟨#[]⟩, .slice (some ⟨w4.heap.size + 7, 0, none⟩) 1 1]), (w4.heap.size + 5, 24, #[.int .i64 7, .int .i64 0, .int .i64 0, .string ⟨#[]⟩, .slice (some ⟨w4.heap.size + 4, 0, none⟩) 2 2]), (w4.heap.size + 3, 24, #[.int .i64 6, .int .i64 0, .int .i64 0, .string ⟨#[]⟩, .slice (some ⟨w4.heap.size + 2, 0, none⟩) 2 2]), (w4.heap.size + 1, 24, #[.int .i64 6, .int .i64 0, .int .i64 0, .string ⟨#[]⟩, .slice (some ⟨w4.heap.size, 0, none⟩) 2 2]), (w.heap.size + 1, 24, #[.int .i64 op2, .int .i64 a2, .int .i64 b2, .string name2, .slice A2 n2 c2]), (w.heap.size, 24, #[.int .i64 op, .int .i64 a, .int .i64 b, .string name, .slice A n c])] from HK18.out.next hb5)
      clear HK18
      clear hb5
      cases hr0 : rightT (FT.mk 8 0 0 nE [.mk 7 0 0 nE [u, t]])
      · go_wp2
        go_ret
        exact ⟨rfl, HK19.out.bel⟩
      have c_one_0 : w5.cell? ⟨w4.heap.size + 11, 0, none⟩ = some (.int .i64 7) := HK19.out.cell 0 rfl 0
      have c_one_1 : w5.cell? ⟨w4.heap.size + 11, 1, none⟩ = some (.int .i64 0) := HK19.out.cell 0 rfl 1
      have c_one_2 : w5.cell? ⟨w4.heap.size + 11, 2, none⟩ = some (.int .i64 0) := HK19.out.cell 0 rfl 2
      have c_one_3 : w5.cell? ⟨w4.heap.size + 11, 3, none⟩ = some (.string ⟨#[]⟩) := HK19.out.cell 0 rfl 3
      have c_one_4 : w5.cell? ⟨w4.heap.size + 11, 4, none⟩ = some (.slice (some ⟨w4.heap.size + 10, 0, none⟩) 1 1) := HK19.out.cell 0 rfl 4
      go_wp2_with fail
      with_reducible refine (Right_c HTo.out _ HBx.out HBx.out.size).mono ?_
      rintro e w6 ⟨rfl, hb6⟩
      have HBy := Lib.hid (HBx.out.trans (hb6.mono HBx.out.size))
      clear HBx
      have HBx := HBy
      clear HBy
      clear c_one_0 c_one_1 c_one_2 c_one_3 c_one_4
      have HK20 := Lib.hid (show Kept w w6 [(w4.heap.size + 11, 24, #[.int .i64 7, .int .i64 0, .int .i64 0, .string ⟨#[]⟩, .slice (some ⟨w4.heap.size + 10, 0, none⟩) 1 1]), (w4.heap.size + 8, 24, #[.int .i64 8, .int .i64 0, .int .i64 0, .string ⟨#[]⟩, .slice (some ⟨w4.heap.size + 7, 0, none⟩) 1 1]), (w4.heap.size + 5, 24, #[.int .i64 7, .int .i64 0, .int .i64 0, .string ⟨#[]⟩, .slice (some ⟨w4.heap.size + 4, 0, none⟩) 2 2]), (w4.heap.size + 3, 24, #[.int .i64 6, .int .i64 0, .int .i64 0, .string ⟨#[]⟩, .slice (some ⟨w4.heap.size + 2, 0, none⟩) 2 2]), (w4.heap.size + 1, 24, #[.int .i64 6, .int .i64 0, .int .i64 0, .string ⟨#[]⟩, .slice (some ⟨w4.heap.size, 0, none⟩) 2 2]), (w.heap.size + 1, 24, #[.int .i64 op2, .int .i64 a2, .int .i64 b2, .string name2, .slice A2 n2 c2]), (w.heap.size, 24, #[.int .i64 op, .int .i64 a, .int .i64 b, .string name, .slice A n c])] from HK19.out.next hb6)
      clear HK19
      clear hb6
      cases hr1 : rightT (FT.mk 7 0 0 nE [.mk 6 0 0 nE [t]])
      · go_wp2
        go_ret
        exact ⟨rfl, HK20.out.bel⟩
      have c_both_0 : w6.cell? ⟨w4.heap.size + 1, 0, none⟩ = some (.int .i64 6) := HK20.out.cell 4 rfl 0
      have c_both_1 : w6.cell? ⟨w4.heap.size + 1, 1, none⟩ = some (.int .i64 0) := HK20.out.cell 4 rfl 1
      have c_both_2 : w6.cell? ⟨w4.heap.size + 1, 2, none⟩ = some (.int .i64 0) := HK20.out.cell 4 rfl 2
      have c_both_3 : w6.cell? ⟨w4.heap.size + 1, 3, none⟩ = some (.string ⟨#[]⟩) := HK20.out.cell 4 rfl 3
      have c_both_4 : w6.cell? ⟨w4.heap.size + 1, 4, none⟩ = some (.slice (some ⟨w4.heap.size, 0, none⟩) 2 2) := HK20.out.cell 4 rfl 4
      go_wp2_with fail
      with_reducible refine (Right_c HTb.out _ HBx.out HBx.out.size).mono ?_
      rintro e w7 ⟨rfl, hb7⟩
      have HBy := Lib.hid (HBx.out.trans (hb7.mono HBx.out.size))
      clear HBx
      have HBx := HBy
      clear HBy
      clear c_both_0 c_both_1 c_both_2 c_both_3 c_both_4
      have HK21 := Lib.hid (show Kept w w7 [(w4.heap.size + 11, 24, #[.int .i64 7, .int .i64 0, .int .i64 0, .string ⟨#[]⟩, .slice (some ⟨w4.heap.size + 10, 0, none⟩) 1 1]), (w4.heap.size + 8, 24, #[.int .i64 8, .int .i64 0, .int .i64 0, .string ⟨#[]⟩, .slice (some ⟨w4.heap.size + 7, 0, none⟩) 1 1]), (w4.heap.size + 5, 24, #[.int .i64 7, .int .i64 0, .int .i64 0, .string ⟨#[]⟩, .slice (some ⟨w4.heap.size + 4, 0, none⟩) 2 2]), (w4.heap.size + 3, 24, #[.int .i64 6, .int .i64 0, .int .i64 0, .string ⟨#[]⟩, .slice (some ⟨w4.heap.size + 2, 0, none⟩) 2 2]), (w4.heap.size + 1, 24, #[.int .i64 6, .int .i64 0, .int .i64 0, .string ⟨#[]⟩, .slice (some ⟨w4.heap.size, 0, none⟩) 2 2]), (w.heap.size + 1, 24, #[.int .i64 op2, .int .i64 a2, .int .i64 b2, .string name2, .slice A2 n2 c2]), (w.heap.size, 24, #[.int .i64 op, .int .i64 a, .int .i64 b, .string name, .slice A n c])] from HK20.out.next hb7)
      clear HK20
      clear hb7
      cases hr2 : rightT (FT.mk 6 0 0 nE [t, u])
      · go_wp2
        go_ret
        exact ⟨rfl, HK21.out.bel⟩
      obtain ⟨hrt, hru, hrd, hrs⟩ := both_right hr2
      have HRt := Lib.hid hrt
      have HRu := Lib.hid hru
      have HRd := Lib.hid hrd
      have HRs := Lib.hid hrs
      have HRn := Lib.hid hr0
      have HRo := Lib.hid hr1
      have HRb := Lib.hid hr2
      clear hrt hru hrd hrs hr0 hr1 hr2
      go_wp2
      go_loopw [12] (fun i wr => ∃ (k : Nat), k ≤ nl ∧ i = .int .i64 k ∧ Hid (Below wx.heap.size wx wr)) (fun i _ => nl - (intOf i).toNat)
      case atStart => exact ⟨0, Nat.zero_le _, rfl, HBx⟩
      case round =>
        clear HBx
        obtain ⟨k, hk, rfl, HBw⟩ := hrel
        by_cases hlt : k < nl
        · obtain ⟨ad, e, rfl, hb, he, d0, d1, d2, d3, d4, d5, d6⟩ := ev_in HR.out hlt
          have bl : (ad.add (k * 7)).block < w.heap.size := by rw [block_of_add]; exact hb
          clear he
          have i1 : (0 : Int) ≤ (k : Int) := by omega
          have i2 : (k : Int) < (nl : Int) := by omega
          go_wp2_with fail
          refine wp_region_noPanic ?_
          refine wp_region_held_drew (S := fun W' => Below wx.heap.size wx W') (by kernel_rfl) HBw.out.drew (fun hHeld => ?_)
          refine takeH 0 (v := ?v0u16) rfl (by kernel_rfl) (by kernel_rfl) (by kernel_rfl) rfl (fun _ _ _ h => h) (Or.inl ⟨by rfl, ?y0u16⟩) hHeld ?r0u16
          case y0u16 => (intro W hSW; (try dsimp only at hSW); have q0 := (HKX.out.next hSW).cell 6 rfl 0; have q1 := (HKX.out.next hSW).cell 6 rfl 1; have q2 := (HKX.out.next hSW).cell 6 rfl 2; have q3 := (HKX.out.next hSW).cell 6 rfl 3; have q4 := (HKX.out.next hSW).cell 6 rfl 4; simp only [List.getElem?_toArray, List.getElem?_cons_zero, List.getElem?_cons_succ] at q0 q1 q2 q3 q4; go_simp; try with_reducible rfl)
          simp only [Act.put, List.setIfInBounds_toArray, List.set_cons_zero, List.set_cons_succ]
          refine takeH 1 (v := ?v1u17) rfl (by kernel_rfl) (by kernel_rfl) (by kernel_rfl) rfl (fun _ _ _ h => h) (Or.inl ⟨by rfl, ?y1u17⟩) hHeld ?r1u17
          case y1u17 => (intro W hSW; (try dsimp only at hSW); go_simp; try with_reducible rfl)
          simp only [Act.put, List.setIfInBounds_toArray, List.set_cons_zero, List.set_cons_succ]
          refine takeH 2 (v := ?v2u18) rfl (by kernel_rfl) (by kernel_rfl) (by kernel_rfl) rfl (fun _ _ _ h => h) (Or.inl ⟨by rfl, ?y2u18⟩) hHeld ?r2u18
          case y2u18 => (intro W hSW; (try dsimp only at hSW); go_simp; try with_reducible rfl)
          simp only [Act.put, List.setIfInBounds_toArray, List.set_cons_zero, List.set_cons_succ]
          refine takeH 3 (v := ?v3u19) rfl (by kernel_rfl) (by kernel_rfl) (by kernel_rfl) rfl (fun _ _ _ h => h) (Or.inl ⟨by rfl, ?y3u19⟩) hHeld ?r3u19
          case y3u19 => (intro W hSW; (try dsimp only at hSW); go_simp; try with_reducible rfl)
          simp only [Act.put, List.setIfInBounds_toArray, List.set_cons_zero, List.set_cons_succ]
          refine takeH 4 (v := ?v4u20) rfl (by kernel_rfl) (by kernel_rfl) (by kernel_rfl) rfl (fun _ _ _ h => h) (Or.inl ⟨by rfl, ?y4u20⟩) hHeld ?r4u20
          case y4u20 => (intro W hSW; (try dsimp only at hSW); have q0 := ((HKX.out.next hSW).bel.cell (p := (ad.add (k * 7))) bl).trans d0; have q1 := ((HKX.out.next hSW).bel.cell (p := ⟨(ad.add (k * 7)).block, (ad.add (k * 7)).off + 1, none⟩) bl).trans d1; have q2 := ((HKX.out.next hSW).bel.cell (p := ⟨(ad.add (k * 7)).block, (ad.add (k * 7)).off + 2, none⟩) bl).trans d2; have q3 := ((HKX.out.next hSW).bel.cell (p := ⟨(ad.add (k * 7)).block, (ad.add (k * 7)).off + 3, none⟩) bl).trans d3; have q4 := ((HKX.out.next hSW).bel.cell (p := ⟨(ad.add (k * 7)).block, (ad.add (k * 7)).off + 4, none⟩) bl).trans d4; have q5 := ((HKX.out.next hSW).bel.cell (p := ⟨(ad.add (k * 7)).block, (ad.add (k * 7)).off + 5, none⟩) bl).trans d5; have q6 := ((HKX.out.next hSW).bel.cell (p := ⟨(ad.add (k * 7)).block, (ad.add (k * 7)).off + 6, none⟩) bl).trans d6; go_simp; try with_reducible rfl)
          simp only [Act.put, List.setIfInBounds_toArray, List.set_cons_zero, List.set_cons_succ]
          refine takeH 6 (v := ?v6u21) rfl (by kernel_rfl) (by kernel_rfl) (by kernel_rfl) rfl (fun _ _ _ h => h) (Or.inl ⟨by rfl, ?y6u21⟩) hHeld ?r6u21
          case y6u21 => (intro W hSW; (try dsimp only at hSW); have q0 := (HKX.out.next hSW).cell 5 rfl 0; have q1 := (HKX.out.next hSW).cell 5 rfl 1; have q2 := (HKX.out.next hSW).cell 5 rfl 2; have q3 := (HKX.out.next hSW).cell 5 rfl 3; have q4 := (HKX.out.next hSW).cell 5 rfl 4; simp only [List.getElem?_toArray, List.getElem?_cons_zero, List.getElem?_cons_succ] at q0 q1 q2 q3 q4; go_simp; try with_reducible rfl)
          simp only [Act.put, List.setIfInBounds_toArray, List.set_cons_zero, List.set_cons_succ]
          refine takeH 7 (v := ?v7u22) rfl (by kernel_rfl) (by kernel_rfl) (by kernel_rfl) rfl (fun _ _ _ h => h) (Or.inl ⟨by rfl, ?y7u22⟩) hHeld ?r7u22
          case y7u22 => (intro W hSW; (try dsimp only at hSW); go_simp; try with_reducible rfl)
          simp only [Act.put, List.setIfInBounds_toArray, List.set_cons_zero, List.set_cons_succ]
          refine takeH 8 (v := ?v8u23) rfl (by kernel_rfl) (by kernel_rfl) (by kernel_rfl) rfl (fun _ _ _ h => h) (Or.inl ⟨by rfl, ?y8u23⟩) hHeld ?r8u23
          case y8u23 => (intro W hSW; (try dsimp only at hSW); go_simp; try with_reducible rfl)
          simp only [Act.put, List.setIfInBounds_toArray, List.set_cons_zero, List.set_cons_succ]
          refine takeH 9 (v := ?v9u24) rfl (by kernel_rfl) (by kernel_rfl) (by kernel_rfl) rfl (fun _ _ _ h => h) (Or.inl ⟨by rfl, ?y9u24⟩) hHeld ?r9u24
          case y9u24 => (intro W hSW; (try dsimp only at hSW); go_simp; try with_reducible rfl)
          simp only [Act.put, List.setIfInBounds_toArray, List.set_cons_zero, List.set_cons_succ]
          refine takeH 10 (v := ?v10u25) rfl (by kernel_rfl) (by kernel_rfl) (by kernel_rfl) rfl (fun _ _ _ h => h) (Or.inl ⟨by rfl, ?y10u25⟩) hHeld ?r10u25
          case y10u25 => (intro W hSW; (try dsimp only at hSW); have q0 := ((HKX.out.next hSW).bel.cell (p := (ad.add (k * 7))) bl).trans d0; have q1 := ((HKX.out.next hSW).bel.cell (p := ⟨(ad.add (k * 7)).block, (ad.add (k * 7)).off + 1, none⟩) bl).trans d1; have q2 := ((HKX.out.next hSW).bel.cell (p := ⟨(ad.add (k * 7)).block, (ad.add (k * 7)).off + 2, none⟩) bl).trans d2; have q3 := ((HKX.out.next hSW).bel.cell (p := ⟨(ad.add (k * 7)).block, (ad.add (k * 7)).off + 3, none⟩) bl).trans d3; have q4 := ((HKX.out.next hSW).bel.cell (p := ⟨(ad.add (k * 7)).block, (ad.add (k * 7)).off + 4, none⟩) bl).trans d4; have q5 := ((HKX.out.next hSW).bel.cell (p := ⟨(ad.add (k * 7)).block, (ad.add (k * 7)).off + 5, none⟩) bl).trans d5; have q6 := ((HKX.out.next hSW).bel.cell (p := ⟨(ad.add (k * 7)).block, (ad.add (k * 7)).off + 6, none⟩) bl).trans d6; go_simp; try with_reducible rfl)
          simp only [Act.put, List.setIfInBounds_toArray, List.set_cons_zero, List.set_cons_succ]
          have HTf := HTt
          have HTg := HTu
          refine wpAnyH_ready (rs := [5]) (by kernel_rfl) (by simp) ?_
          refine AllReadyH.cons rfl (fun K hK => ?_) AllReadyH.nil
          go_simp
          with_reducible refine (Match_c HTt.out e _ hHeld hHeld.size).mono ?_
          rw [HRt.out, Bool.true_and]
          rintro e' wn ⟨rfl, hbn⟩
          have hkn := hHeld.trans (hbn.mono hHeld.size)
          clear hbn
          refine hK.out _ _ hkn (fun hHeld => ?_)
          clear hK K
          try simp only [Act.put, List.setIfInBounds_toArray, List.set_cons_zero, List.set_cons_succ]
          refine wpAnyH_ready (rs := [11]) (by kernel_rfl) (by simp) ?_
          refine AllReadyH.cons rfl (fun K hK => ?_) AllReadyH.nil
          go_simp
          with_reducible refine (Match_c HTu.out e _ hHeld hHeld.size).mono ?_
          rw [HRu.out, Bool.true_and]
          rintro e' wn ⟨rfl, hbn⟩
          have hkn := hHeld.trans (hbn.mono hHeld.size)
          clear hbn
          refine hK.out _ _ hkn (fun hHeld => ?_)
          clear hK K
          try simp only [Act.put, List.setIfInBounds_toArray, List.set_cons_zero, List.set_cons_succ]
          refine takeH 12 (v := ?v12u26) rfl (by kernel_rfl) (by kernel_rfl) (by kernel_rfl) rfl (fun _ _ _ h => h) (Or.inl ⟨by rfl, ?y12u26⟩) hHeld ?r12u26
          case y12u26 => (intro W hSW; (try dsimp only at hSW); go_simp; try with_reducible rfl)
          simp only [Act.put, List.setIfInBounds_toArray, List.set_cons_zero, List.set_cons_succ]
          refine takeH 13 (v := ?v13u27) rfl (by kernel_rfl) (by kernel_rfl) (by kernel_rfl) rfl (fun _ _ _ h => h) (Or.inl ⟨by rfl, ?y13u27⟩) hHeld ?r13u27
          case y13u27 => (intro W hSW; (try dsimp only at hSW); go_simp; try with_reducible rfl)
          simp only [Act.put, List.setIfInBounds_toArray, List.set_cons_zero, List.set_cons_succ]
          refine wpAnyH_done (by kernel_rfl) ?_ _
          refine NoPanic.normal ?_
          have HBn := Lib.hid hHeld
          clear hHeld HBw HTf HTg
          cases hma : meansF t e <;> cases hmu : meansF u e
          · have M1 := Lib.hid (show meansF (FT.mk 6 0 0 nE [t, u]) e = false from by rw [m_and, hma, hmu]; rfl)
            have M2 := Lib.hid (show meansF (FT.mk 6 0 0 nE [u, t]) e = false from by rw [m_and, hma, hmu]; rfl)
            have M3 := Lib.hid (show meansF (FT.mk 7 0 0 nE [t, u]) e = false from by rw [m_or, hma, hmu]; rfl)
            have M4 := Lib.hid (show meansF (FT.mk 8 0 0 nE [.mk 7 0 0 nE [u, t]]) e = true from by rw [m_none, hma, hmu]; rfl)
            have M5 := Lib.hid (show meansF (FT.mk 7 0 0 nE [.mk 6 0 0 nE [t]]) e = false from by rw [m_one, hma])
            clear hma hmu
            go_wp2_with fail
            refine wp_region_noPanic ?_
            refine wp_region_held_drew (S := fun W' => Below wx.heap.size wx W') (by kernel_rfl) HBn.out.drew (fun hHeld => ?_)
            refine takeH 0 (v := ?v0u28) rfl (by kernel_rfl) (by kernel_rfl) (by kernel_rfl) rfl (fun _ _ _ h => h) (Or.inl ⟨by rfl, ?y0u28⟩) hHeld ?r0u28
            case y0u28 => (intro W hSW; (try dsimp only at hSW); have q0 := (HKX.out.next hSW).cell 4 rfl 0; have q1 := (HKX.out.next hSW).cell 4 rfl 1; have q2 := (HKX.out.next hSW).cell 4 rfl 2; have q3 := (HKX.out.next hSW).cell 4 rfl 3; have q4 := (HKX.out.next hSW).cell 4 rfl 4; simp only [List.getElem?_toArray, List.getElem?_cons_zero, List.getElem?_cons_succ] at q0 q1 q2 q3 q4; go_simp; try with_reducible rfl)
            simp only [Act.put, List.setIfInBounds_toArray, List.set_cons_zero, List.set_cons_succ]
            refine takeH 1 (v := ?v1u29) rfl (by kernel_rfl) (by kernel_rfl) (by kernel_rfl) rfl (fun _ _ _ h => h) (Or.inl ⟨by rfl, ?y1u29⟩) hHeld ?r1u29
            case y1u29 => (intro W hSW; (try dsimp only at hSW); go_simp; try with_reducible rfl)
            simp only [Act.put, List.setIfInBounds_toArray, List.set_cons_zero, List.set_cons_succ]
            refine takeH 2 (v := ?v2u30) rfl (by kernel_rfl) (by kernel_rfl) (by kernel_rfl) rfl (fun _ _ _ h => h) (Or.inl ⟨by rfl, ?y2u30⟩) hHeld ?r2u30
            case y2u30 => (intro W hSW; (try dsimp only at hSW); go_simp; try with_reducible rfl)
            simp only [Act.put, List.setIfInBounds_toArray, List.set_cons_zero, List.set_cons_succ]
            refine takeH 3 (v := ?v3u31) rfl (by kernel_rfl) (by kernel_rfl) (by kernel_rfl) rfl (fun _ _ _ h => h) (Or.inl ⟨by rfl, ?y3u31⟩) hHeld ?r3u31
            case y3u31 => (intro W hSW; (try dsimp only at hSW); go_simp; try with_reducible rfl)
            simp only [Act.put, List.setIfInBounds_toArray, List.set_cons_zero, List.set_cons_succ]
            refine takeH 4 (v := ?v4u32) rfl (by kernel_rfl) (by kernel_rfl) (by kernel_rfl) rfl (fun _ _ _ h => h) (Or.inl ⟨by rfl, ?y4u32⟩) hHeld ?r4u32
            case y4u32 => (intro W hSW; (try dsimp only at hSW); have q0 := ((HKX.out.next hSW).bel.cell (p := (ad.add (k * 7))) bl).trans d0; have q1 := ((HKX.out.next hSW).bel.cell (p := ⟨(ad.add (k * 7)).block, (ad.add (k * 7)).off + 1, none⟩) bl).trans d1; have q2 := ((HKX.out.next hSW).bel.cell (p := ⟨(ad.add (k * 7)).block, (ad.add (k * 7)).off + 2, none⟩) bl).trans d2; have q3 := ((HKX.out.next hSW).bel.cell (p := ⟨(ad.add (k * 7)).block, (ad.add (k * 7)).off + 3, none⟩) bl).trans d3; have q4 := ((HKX.out.next hSW).bel.cell (p := ⟨(ad.add (k * 7)).block, (ad.add (k * 7)).off + 4, none⟩) bl).trans d4; have q5 := ((HKX.out.next hSW).bel.cell (p := ⟨(ad.add (k * 7)).block, (ad.add (k * 7)).off + 5, none⟩) bl).trans d5; have q6 := ((HKX.out.next hSW).bel.cell (p := ⟨(ad.add (k * 7)).block, (ad.add (k * 7)).off + 6, none⟩) bl).trans d6; go_simp; try with_reducible rfl)
            simp only [Act.put, List.setIfInBounds_toArray, List.set_cons_zero, List.set_cons_succ]
            refine takeH 6 (v := ?v6u33) rfl (by kernel_rfl) (by kernel_rfl) (by kernel_rfl) rfl (fun _ _ _ h => h) (Or.inl ⟨by rfl, ?y6u33⟩) hHeld ?r6u33
            case y6u33 => (intro W hSW; (try dsimp only at hSW); go_simp; try with_reducible rfl)
            simp only [Act.put, List.setIfInBounds_toArray, List.set_cons_zero, List.set_cons_succ]
            refine wpAnyH_ready (rs := [5]) (by kernel_rfl) (by simp) ?_
            refine AllReadyH.cons rfl (fun K hK => ?_) AllReadyH.nil
            go_simp
            with_reducible refine (Match_c HTb.out e _ hHeld hHeld.size).mono ?_
            rw [HRb.out, M1.out, Bool.true_and]
            rintro e' wn ⟨rfl, hbn⟩
            have hkn := hHeld.trans (hbn.mono hHeld.size)
            clear hbn
            refine hK.out _ _ hkn (fun hHeld => ?_)
            clear hK K
            try simp only [Act.put, List.setIfInBounds_toArray, List.set_cons_zero, List.set_cons_succ]
            refine takeH 7 (v := ?v7u34) rfl (by kernel_rfl) (by kernel_rfl) (by kernel_rfl) rfl (fun _ _ _ h => h) (Or.inl ⟨by rfl, ?y7u34⟩) hHeld ?r7u34
            case y7u34 => (intro W hSW; (try dsimp only at hSW); go_simp; try with_reducible rfl)
            simp only [Act.put, List.setIfInBounds_toArray, List.set_cons_zero, List.set_cons_succ]
            refine takeH 8 (v := undef) rfl (by kernel_rfl) (by kernel_rfl) (by kernel_rfl) rfl (fun _ _ _ h => h) (Or.inr ⟨by rfl, rfl⟩) hHeld ?_
            simp only [Act.put, List.setIfInBounds_toArray, List.set_cons_zero, List.set_cons_succ]
            refine takeH 9 (v := ?v9u35) rfl (by kernel_rfl) (by kernel_rfl) (by kernel_rfl) rfl (fun _ _ _ h => h) (Or.inl ⟨by rfl, ?y9u35⟩) hHeld ?r9u35
            case y9u35 => (intro W hSW; (try dsimp only at hSW); go_simp; try with_reducible rfl)
            simp only [Act.put, List.setIfInBounds_toArray, List.set_cons_zero, List.set_cons_succ]
            refine takeH 10 (v := ?v10u36) rfl (by kernel_rfl) (by kernel_rfl) (by kernel_rfl) rfl (fun _ _ _ h => h) (Or.inl ⟨by rfl, ?y10u36⟩) hHeld ?r10u36
            case y10u36 => (intro W hSW; (try dsimp only at hSW); go_simp; try with_reducible rfl)
            simp only [Act.put, List.setIfInBounds_toArray, List.set_cons_zero, List.set_cons_succ]
            refine takeH 11 (v := ?v11u37) rfl (by kernel_rfl) (by kernel_rfl) (by kernel_rfl) rfl (fun _ _ _ h => h) (Or.inl ⟨by rfl, ?y11u37⟩) hHeld ?r11u37
            case y11u37 => (intro W hSW; (try dsimp only at hSW); go_simp; try with_reducible rfl)
            simp only [Act.put, List.setIfInBounds_toArray, List.set_cons_zero, List.set_cons_succ]
            refine takeH 12 (v := ?v12u38) rfl (by kernel_rfl) (by kernel_rfl) (by kernel_rfl) rfl (fun _ _ _ h => h) (Or.inl ⟨by rfl, ?y12u38⟩) hHeld ?r12u38
            case y12u38 => (intro W hSW; (try dsimp only at hSW); have q0 := (HKX.out.next hSW).cell 3 rfl 0; have q1 := (HKX.out.next hSW).cell 3 rfl 1; have q2 := (HKX.out.next hSW).cell 3 rfl 2; have q3 := (HKX.out.next hSW).cell 3 rfl 3; have q4 := (HKX.out.next hSW).cell 3 rfl 4; simp only [List.getElem?_toArray, List.getElem?_cons_zero, List.getElem?_cons_succ] at q0 q1 q2 q3 q4; go_simp; try with_reducible rfl)
            simp only [Act.put, List.setIfInBounds_toArray, List.set_cons_zero, List.set_cons_succ]
            refine takeH 13 (v := ?v13u39) rfl (by kernel_rfl) (by kernel_rfl) (by kernel_rfl) rfl (fun _ _ _ h => h) (Or.inl ⟨by rfl, ?y13u39⟩) hHeld ?r13u39
            case y13u39 => (intro W hSW; (try dsimp only at hSW); go_simp; try with_reducible rfl)
            simp only [Act.put, List.setIfInBounds_toArray, List.set_cons_zero, List.set_cons_succ]
            refine takeH 14 (v := ?v14u40) rfl (by kernel_rfl) (by kernel_rfl) (by kernel_rfl) rfl (fun _ _ _ h => h) (Or.inl ⟨by rfl, ?y14u40⟩) hHeld ?r14u40
            case y14u40 => (intro W hSW; (try dsimp only at hSW); go_simp; try with_reducible rfl)
            simp only [Act.put, List.setIfInBounds_toArray, List.set_cons_zero, List.set_cons_succ]
            refine takeH 15 (v := ?v15u41) rfl (by kernel_rfl) (by kernel_rfl) (by kernel_rfl) rfl (fun _ _ _ h => h) (Or.inl ⟨by rfl, ?y15u41⟩) hHeld ?r15u41
            case y15u41 => (intro W hSW; (try dsimp only at hSW); go_simp; try with_reducible rfl)
            simp only [Act.put, List.setIfInBounds_toArray, List.set_cons_zero, List.set_cons_succ]
            refine takeH 16 (v := ?v16u42) rfl (by kernel_rfl) (by kernel_rfl) (by kernel_rfl) rfl (fun _ _ _ h => h) (Or.inl ⟨by rfl, ?y16u42⟩) hHeld ?r16u42
            case y16u42 => (intro W hSW; (try dsimp only at hSW); have q0 := ((HKX.out.next hSW).bel.cell (p := (ad.add (k * 7))) bl).trans d0; have q1 := ((HKX.out.next hSW).bel.cell (p := ⟨(ad.add (k * 7)).block, (ad.add (k * 7)).off + 1, none⟩) bl).trans d1; have q2 := ((HKX.out.next hSW).bel.cell (p := ⟨(ad.add (k * 7)).block, (ad.add (k * 7)).off + 2, none⟩) bl).trans d2; have q3 := ((HKX.out.next hSW).bel.cell (p := ⟨(ad.add (k * 7)).block, (ad.add (k * 7)).off + 3, none⟩) bl).trans d3; have q4 := ((HKX.out.next hSW).bel.cell (p := ⟨(ad.add (k * 7)).block, (ad.add (k * 7)).off + 4, none⟩) bl).trans d4; have q5 := ((HKX.out.next hSW).bel.cell (p := ⟨(ad.add (k * 7)).block, (ad.add (k * 7)).off + 5, none⟩) bl).trans d5; have q6 := ((HKX.out.next hSW).bel.cell (p := ⟨(ad.add (k * 7)).block, (ad.add (k * 7)).off + 6, none⟩) bl).trans d6; go_simp; try with_reducible rfl)
            simp only [Act.put, List.setIfInBounds_toArray, List.set_cons_zero, List.set_cons_succ]
            refine takeH 18 (v := ?v18u43) rfl (by kernel_rfl) (by kernel_rfl) (by kernel_rfl) rfl (fun _ _ _ h => h) (Or.inl ⟨by rfl, ?y18u43⟩) hHeld ?r18u43
            case y18u43 => (intro W hSW; (try dsimp only at hSW); go_simp; try with_reducible rfl)
            simp only [Act.put, List.setIfInBounds_toArray, List.set_cons_zero, List.set_cons_succ]
            refine wpAnyH_ready (rs := [17]) (by kernel_rfl) (by simp) ?_
            refine AllReadyH.cons rfl (fun K hK => ?_) AllReadyH.nil
            go_simp
            with_reducible refine (Match_c HTd.out e _ hHeld hHeld.size).mono ?_
            rw [HRd.out, M2.out, Bool.true_and]
            rintro e' wn ⟨rfl, hbn⟩
            have hkn := hHeld.trans (hbn.mono hHeld.size)
            clear hbn
            refine hK.out _ _ hkn (fun hHeld => ?_)
            clear hK K
            try simp only [Act.put, List.setIfInBounds_toArray, List.set_cons_zero, List.set_cons_succ]
            refine takeH 19 (v := ?v19u44) rfl (by kernel_rfl) (by kernel_rfl) (by kernel_rfl) rfl (fun _ _ _ h => h) (Or.inl ⟨by rfl, ?y19u44⟩) hHeld ?r19u44
            case y19u44 => (intro W hSW; (try dsimp only at hSW); go_simp; try with_reducible rfl)
            simp only [Act.put, List.setIfInBounds_toArray, List.set_cons_zero, List.set_cons_succ]
            refine takeH 20 (v := undef) rfl (by kernel_rfl) (by kernel_rfl) (by kernel_rfl) rfl (fun _ _ _ h => h) (Or.inr ⟨by rfl, rfl⟩) hHeld ?_
            simp only [Act.put, List.setIfInBounds_toArray, List.set_cons_zero, List.set_cons_succ]
            refine takeH 21 (v := ?v21u45) rfl (by kernel_rfl) (by kernel_rfl) (by kernel_rfl) rfl (fun _ _ _ h => h) (Or.inl ⟨by rfl, ?y21u45⟩) hHeld ?r21u45
            case y21u45 => (intro W hSW; (try dsimp only at hSW); go_simp; try with_reducible rfl)
            simp only [Act.put, List.setIfInBounds_toArray, List.set_cons_zero, List.set_cons_succ]
            refine takeH 22 (v := ?v22u46) rfl (by kernel_rfl) (by kernel_rfl) (by kernel_rfl) rfl (fun _ _ _ h => h) (Or.inl ⟨by rfl, ?y22u46⟩) hHeld ?r22u46
            case y22u46 => (intro W hSW; (try dsimp only at hSW); go_simp; try with_reducible rfl)
            simp only [Act.put, List.setIfInBounds_toArray, List.set_cons_zero, List.set_cons_succ]
            refine takeH 23 (v := ?v23u47) rfl (by kernel_rfl) (by kernel_rfl) (by kernel_rfl) rfl (fun _ _ _ h => h) (Or.inl ⟨by rfl, ?y23u47⟩) hHeld ?r23u47
            case y23u47 => (intro W hSW; (try dsimp only at hSW); go_simp; try with_reducible rfl)
            simp only [Act.put, List.setIfInBounds_toArray, List.set_cons_zero, List.set_cons_succ]
            refine takeH 24 (v := ?v24u48) rfl (by kernel_rfl) (by kernel_rfl) (by kernel_rfl) rfl (fun _ _ _ h => h) (Or.inl ⟨by rfl, ?y24u48⟩) hHeld ?r24u48
            case y24u48 => (intro W hSW; (try dsimp only at hSW); go_simp; try with_reducible rfl)
            simp only [Act.put, List.setIfInBounds_toArray, List.set_cons_zero, List.set_cons_succ]
            refine takeH 25 (v := ?v25u49) rfl (by kernel_rfl) (by kernel_rfl) (by kernel_rfl) rfl (fun _ _ _ h => h) (Or.inl ⟨by rfl, ?y25u49⟩) hHeld ?r25u49
            case y25u49 => (intro W hSW; (try dsimp only at hSW); have q0 := (HKX.out.next hSW).cell 2 rfl 0; have q1 := (HKX.out.next hSW).cell 2 rfl 1; have q2 := (HKX.out.next hSW).cell 2 rfl 2; have q3 := (HKX.out.next hSW).cell 2 rfl 3; have q4 := (HKX.out.next hSW).cell 2 rfl 4; simp only [List.getElem?_toArray, List.getElem?_cons_zero, List.getElem?_cons_succ] at q0 q1 q2 q3 q4; go_simp; try with_reducible rfl)
            simp only [Act.put, List.setIfInBounds_toArray, List.set_cons_zero, List.set_cons_succ]
            refine takeH 26 (v := ?v26u50) rfl (by kernel_rfl) (by kernel_rfl) (by kernel_rfl) rfl (fun _ _ _ h => h) (Or.inl ⟨by rfl, ?y26u50⟩) hHeld ?r26u50
            case y26u50 => (intro W hSW; (try dsimp only at hSW); go_simp; try with_reducible rfl)
            simp only [Act.put, List.setIfInBounds_toArray, List.set_cons_zero, List.set_cons_succ]
            refine takeH 27 (v := ?v27u51) rfl (by kernel_rfl) (by kernel_rfl) (by kernel_rfl) rfl (fun _ _ _ h => h) (Or.inl ⟨by rfl, ?y27u51⟩) hHeld ?r27u51
            case y27u51 => (intro W hSW; (try dsimp only at hSW); go_simp; try with_reducible rfl)
            simp only [Act.put, List.setIfInBounds_toArray, List.set_cons_zero, List.set_cons_succ]
            refine takeH 28 (v := ?v28u52) rfl (by kernel_rfl) (by kernel_rfl) (by kernel_rfl) rfl (fun _ _ _ h => h) (Or.inl ⟨by rfl, ?y28u52⟩) hHeld ?r28u52
            case y28u52 => (intro W hSW; (try dsimp only at hSW); go_simp; try with_reducible rfl)
            simp only [Act.put, List.setIfInBounds_toArray, List.set_cons_zero, List.set_cons_succ]
            refine takeH 29 (v := ?v29u53) rfl (by kernel_rfl) (by kernel_rfl) (by kernel_rfl) rfl (fun _ _ _ h => h) (Or.inl ⟨by rfl, ?y29u53⟩) hHeld ?r29u53
            case y29u53 => (intro W hSW; (try dsimp only at hSW); have q0 := ((HKX.out.next hSW).bel.cell (p := (ad.add (k * 7))) bl).trans d0; have q1 := ((HKX.out.next hSW).bel.cell (p := ⟨(ad.add (k * 7)).block, (ad.add (k * 7)).off + 1, none⟩) bl).trans d1; have q2 := ((HKX.out.next hSW).bel.cell (p := ⟨(ad.add (k * 7)).block, (ad.add (k * 7)).off + 2, none⟩) bl).trans d2; have q3 := ((HKX.out.next hSW).bel.cell (p := ⟨(ad.add (k * 7)).block, (ad.add (k * 7)).off + 3, none⟩) bl).trans d3; have q4 := ((HKX.out.next hSW).bel.cell (p := ⟨(ad.add (k * 7)).block, (ad.add (k * 7)).off + 4, none⟩) bl).trans d4; have q5 := ((HKX.out.next hSW).bel.cell (p := ⟨(ad.add (k * 7)).block, (ad.add (k * 7)).off + 5, none⟩) bl).trans d5; have q6 := ((HKX.out.next hSW).bel.cell (p := ⟨(ad.add (k * 7)).block, (ad.add (k * 7)).off + 6, none⟩) bl).trans d6; go_simp; try with_reducible rfl)
            simp only [Act.put, List.setIfInBounds_toArray, List.set_cons_zero, List.set_cons_succ]
            refine takeH 31 (v := ?v31u54) rfl (by kernel_rfl) (by kernel_rfl) (by kernel_rfl) rfl (fun _ _ _ h => h) (Or.inl ⟨by rfl, ?y31u54⟩) hHeld ?r31u54
            case y31u54 => (intro W hSW; (try dsimp only at hSW); go_simp; try with_reducible rfl)
            simp only [Act.put, List.setIfInBounds_toArray, List.set_cons_zero, List.set_cons_succ]
            refine wpAnyH_ready (rs := [30]) (by kernel_rfl) (by simp) ?_
            refine AllReadyH.cons rfl (fun K hK => ?_) AllReadyH.nil
            go_simp
            with_reducible refine (Match_c HTs.out e _ hHeld hHeld.size).mono ?_
            rw [HRs.out, M3.out, Bool.true_and]
            rintro e' wn ⟨rfl, hbn⟩
            have hkn := hHeld.trans (hbn.mono hHeld.size)
            clear hbn
            refine hK.out _ _ hkn (fun hHeld => ?_)
            clear hK K
            try simp only [Act.put, List.setIfInBounds_toArray, List.set_cons_zero, List.set_cons_succ]
            refine takeH 32 (v := ?v32u55) rfl (by kernel_rfl) (by kernel_rfl) (by kernel_rfl) rfl (fun _ _ _ h => h) (Or.inl ⟨by rfl, ?y32u55⟩) hHeld ?r32u55
            case y32u55 => (intro W hSW; (try dsimp only at hSW); go_simp; try with_reducible rfl)
            simp only [Act.put, List.setIfInBounds_toArray, List.set_cons_zero, List.set_cons_succ]
            refine takeH 33 (v := ?v33u56) rfl (by kernel_rfl) (by kernel_rfl) (by kernel_rfl) rfl (fun _ _ _ h => h) (Or.inl ⟨by rfl, ?y33u56⟩) hHeld ?r33u56
            case y33u56 => (intro W hSW; (try dsimp only at hSW); go_simp; try with_reducible rfl)
            simp only [Act.put, List.setIfInBounds_toArray, List.set_cons_zero, List.set_cons_succ]
            refine takeH 34 (v := ?v34u57) rfl (by kernel_rfl) (by kernel_rfl) (by kernel_rfl) rfl (fun _ _ _ h => h) (Or.inl ⟨by rfl, ?y34u57⟩) hHeld ?r34u57
            case y34u57 => (intro W hSW; (try dsimp only at hSW); go_simp; try with_reducible rfl)
            simp only [Act.put, List.setIfInBounds_toArray, List.set_cons_zero, List.set_cons_succ]
            refine takeH 35 (v := ?v35u58) rfl (by kernel_rfl) (by kernel_rfl) (by kernel_rfl) rfl (fun _ _ _ h => h) (Or.inl ⟨by rfl, ?y35u58⟩) hHeld ?r35u58
            case y35u58 => (intro W hSW; (try dsimp only at hSW); go_simp; try with_reducible rfl)
            simp only [Act.put, List.setIfInBounds_toArray, List.set_cons_zero, List.set_cons_succ]
            refine takeH 36 (v := ?v36u59) rfl (by kernel_rfl) (by kernel_rfl) (by kernel_rfl) rfl (fun _ _ _ h => h) (Or.inl ⟨by rfl, ?y36u59⟩) hHeld ?r36u59
            case y36u59 => (intro W hSW; (try dsimp only at hSW); go_simp; try with_reducible rfl)
            simp only [Act.put, List.setIfInBounds_toArray, List.set_cons_zero, List.set_cons_succ]
            refine takeH 37 (v := ?v37u60) rfl (by kernel_rfl) (by kernel_rfl) (by kernel_rfl) rfl (fun _ _ _ h => h) (Or.inl ⟨by rfl, ?y37u60⟩) hHeld ?r37u60
            case y37u60 => (intro W hSW; (try dsimp only at hSW); go_simp; try with_reducible rfl)
            simp only [Act.put, List.setIfInBounds_toArray, List.set_cons_zero, List.set_cons_succ]
            refine takeH 38 (v := ?v38u61) rfl (by kernel_rfl) (by kernel_rfl) (by kernel_rfl) rfl (fun _ _ _ h => h) (Or.inl ⟨by rfl, ?y38u61⟩) hHeld ?r38u61
            case y38u61 => (intro W hSW; (try dsimp only at hSW); have q0 := (HKX.out.next hSW).cell 1 rfl 0; have q1 := (HKX.out.next hSW).cell 1 rfl 1; have q2 := (HKX.out.next hSW).cell 1 rfl 2; have q3 := (HKX.out.next hSW).cell 1 rfl 3; have q4 := (HKX.out.next hSW).cell 1 rfl 4; simp only [List.getElem?_toArray, List.getElem?_cons_zero, List.getElem?_cons_succ] at q0 q1 q2 q3 q4; go_simp; try with_reducible rfl)
            simp only [Act.put, List.setIfInBounds_toArray, List.set_cons_zero, List.set_cons_succ]
            refine takeH 39 (v := ?v39u62) rfl (by kernel_rfl) (by kernel_rfl) (by kernel_rfl) rfl (fun _ _ _ h => h) (Or.inl ⟨by rfl, ?y39u62⟩) hHeld ?r39u62
            case y39u62 => (intro W hSW; (try dsimp only at hSW); go_simp; try with_reducible rfl)
            simp only [Act.put, List.setIfInBounds_toArray, List.set_cons_zero, List.set_cons_succ]
            refine takeH 40 (v := ?v40u63) rfl (by kernel_rfl) (by kernel_rfl) (by kernel_rfl) rfl (fun _ _ _ h => h) (Or.inl ⟨by rfl, ?y40u63⟩) hHeld ?r40u63
            case y40u63 => (intro W hSW; (try dsimp only at hSW); go_simp; try with_reducible rfl)
            simp only [Act.put, List.setIfInBounds_toArray, List.set_cons_zero, List.set_cons_succ]
            refine takeH 41 (v := ?v41u64) rfl (by kernel_rfl) (by kernel_rfl) (by kernel_rfl) rfl (fun _ _ _ h => h) (Or.inl ⟨by rfl, ?y41u64⟩) hHeld ?r41u64
            case y41u64 => (intro W hSW; (try dsimp only at hSW); go_simp; try with_reducible rfl)
            simp only [Act.put, List.setIfInBounds_toArray, List.set_cons_zero, List.set_cons_succ]
            refine takeH 42 (v := ?v42u65) rfl (by kernel_rfl) (by kernel_rfl) (by kernel_rfl) rfl (fun _ _ _ h => h) (Or.inl ⟨by rfl, ?y42u65⟩) hHeld ?r42u65
            case y42u65 => (intro W hSW; (try dsimp only at hSW); have q0 := ((HKX.out.next hSW).bel.cell (p := (ad.add (k * 7))) bl).trans d0; have q1 := ((HKX.out.next hSW).bel.cell (p := ⟨(ad.add (k * 7)).block, (ad.add (k * 7)).off + 1, none⟩) bl).trans d1; have q2 := ((HKX.out.next hSW).bel.cell (p := ⟨(ad.add (k * 7)).block, (ad.add (k * 7)).off + 2, none⟩) bl).trans d2; have q3 := ((HKX.out.next hSW).bel.cell (p := ⟨(ad.add (k * 7)).block, (ad.add (k * 7)).off + 3, none⟩) bl).trans d3; have q4 := ((HKX.out.next hSW).bel.cell (p := ⟨(ad.add (k * 7)).block, (ad.add (k * 7)).off + 4, none⟩) bl).trans d4; have q5 := ((HKX.out.next hSW).bel.cell (p := ⟨(ad.add (k * 7)).block, (ad.add (k * 7)).off + 5, none⟩) bl).trans d5; have q6 := ((HKX.out.next hSW).bel.cell (p := ⟨(ad.add (k * 7)).block, (ad.add (k * 7)).off + 6, none⟩) bl).trans d6; go_simp; try with_reducible rfl)
            simp only [Act.put, List.setIfInBounds_toArray, List.set_cons_zero, List.set_cons_succ]
            refine takeH 44 (v := ?v44u66) rfl (by kernel_rfl) (by kernel_rfl) (by kernel_rfl) rfl (fun _ _ _ h => h) (Or.inl ⟨by rfl, ?y44u66⟩) hHeld ?r44u66
            case y44u66 => (intro W hSW; (try dsimp only at hSW); go_simp; try with_reducible rfl)
            simp only [Act.put, List.setIfInBounds_toArray, List.set_cons_zero, List.set_cons_succ]
            refine takeH 45 (v := ?v45u67) rfl (by kernel_rfl) (by kernel_rfl) (by kernel_rfl) rfl (fun _ _ _ h => h) (Or.inl ⟨by rfl, ?y45u67⟩) hHeld ?r45u67
            case y45u67 => (intro W hSW; (try dsimp only at hSW); go_simp; try with_reducible rfl)
            simp only [Act.put, List.setIfInBounds_toArray, List.set_cons_zero, List.set_cons_succ]
            refine wpAnyH_ready (rs := [43]) (by kernel_rfl) (by simp) ?_
            refine AllReadyH.cons rfl (fun K hK => ?_) AllReadyH.nil
            go_simp
            with_reducible refine (Match_c HTn.out e _ hHeld hHeld.size).mono ?_
            rw [HRn.out, M4.out, Bool.true_and]
            rintro e' wn ⟨rfl, hbn⟩
            have hkn := hHeld.trans (hbn.mono hHeld.size)
            clear hbn
            refine hK.out _ _ hkn (fun hHeld => ?_)
            clear hK K
            try simp only [Act.put, List.setIfInBounds_toArray, List.set_cons_zero, List.set_cons_succ]
            refine takeH 46 (v := ?v46u68) rfl (by kernel_rfl) (by kernel_rfl) (by kernel_rfl) rfl (fun _ _ _ h => h) (Or.inl ⟨by rfl, ?y46u68⟩) hHeld ?r46u68
            case y46u68 => (intro W hSW; (try dsimp only at hSW); go_simp; try with_reducible rfl)
            simp only [Act.put, List.setIfInBounds_toArray, List.set_cons_zero, List.set_cons_succ]
            refine takeH 47 (v := ?v47u69) rfl (by kernel_rfl) (by kernel_rfl) (by kernel_rfl) rfl (fun _ _ _ h => h) (Or.inl ⟨by rfl, ?y47u69⟩) hHeld ?r47u69
            case y47u69 => (intro W hSW; (try dsimp only at hSW); go_simp; try with_reducible rfl)
            simp only [Act.put, List.setIfInBounds_toArray, List.set_cons_zero, List.set_cons_succ]
            refine takeH 48 (v := ?v48u70) rfl (by kernel_rfl) (by kernel_rfl) (by kernel_rfl) rfl (fun _ _ _ h => h) (Or.inl ⟨by rfl, ?y48u70⟩) hHeld ?r48u70
            case y48u70 => (intro W hSW; (try dsimp only at hSW); go_simp; try with_reducible rfl)
            simp only [Act.put, List.setIfInBounds_toArray, List.set_cons_zero, List.set_cons_succ]
            refine takeH 49 (v := ?v49u71) rfl (by kernel_rfl) (by kernel_rfl) (by kernel_rfl) rfl (fun _ _ _ h => h) (Or.inl ⟨by rfl, ?y49u71⟩) hHeld ?r49u71
            case y49u71 => (intro W hSW; (try dsimp only at hSW); go_simp; try with_reducible rfl)
            simp only [Act.put, List.setIfInBounds_toArray, List.set_cons_zero, List.set_cons_succ]
            refine takeH 50 (v := ?v50u72) rfl (by kernel_rfl) (by kernel_rfl) (by kernel_rfl) rfl (fun _ _ _ h => h) (Or.inl ⟨by rfl, ?y50u72⟩) hHeld ?r50u72
            case y50u72 => (intro W hSW; (try dsimp only at hSW); go_simp; try with_reducible rfl)
            simp only [Act.put, List.setIfInBounds_toArray, List.set_cons_zero, List.set_cons_succ]
            refine takeH 51 (v := ?v51u73) rfl (by kernel_rfl) (by kernel_rfl) (by kernel_rfl) rfl (fun _ _ _ h => h) (Or.inl ⟨by rfl, ?y51u73⟩) hHeld ?r51u73
            case y51u73 => (intro W hSW; (try dsimp only at hSW); go_simp; try with_reducible rfl)
            simp only [Act.put, List.setIfInBounds_toArray, List.set_cons_zero, List.set_cons_succ]
            refine takeH 52 (v := ?v52u74) rfl (by kernel_rfl) (by kernel_rfl) (by kernel_rfl) rfl (fun _ _ _ h => h) (Or.inl ⟨by rfl, ?y52u74⟩) hHeld ?r52u74
            case y52u74 => (intro W hSW; (try dsimp only at hSW); go_simp; try with_reducible rfl)
            simp only [Act.put, List.setIfInBounds_toArray, List.set_cons_zero, List.set_cons_succ]
            refine takeH 53 (v := ?v53u75) rfl (by kernel_rfl) (by kernel_rfl) (by kernel_rfl) rfl (fun _ _ _ h => h) (Or.inl ⟨by rfl, ?y53u75⟩) hHeld ?r53u75
            case y53u75 => (intro W hSW; (try dsimp only at hSW); have q0 := (HKX.out.next hSW).cell 0 rfl 0; have q1 := (HKX.out.next hSW).cell 0 rfl 1; have q2 := (HKX.out.next hSW).cell 0 rfl 2; have q3 := (HKX.out.next hSW).cell 0 rfl 3; have q4 := (HKX.out.next hSW).cell 0 rfl 4; simp only [List.getElem?_toArray, List.getElem?_cons_zero, List.getElem?_cons_succ] at q0 q1 q2 q3 q4; go_simp; try with_reducible rfl)
            simp only [Act.put, List.setIfInBounds_toArray, List.set_cons_zero, List.set_cons_succ]
            refine takeH 54 (v := ?v54u76) rfl (by kernel_rfl) (by kernel_rfl) (by kernel_rfl) rfl (fun _ _ _ h => h) (Or.inl ⟨by rfl, ?y54u76⟩) hHeld ?r54u76
            case y54u76 => (intro W hSW; (try dsimp only at hSW); go_simp; try with_reducible rfl)
            simp only [Act.put, List.setIfInBounds_toArray, List.set_cons_zero, List.set_cons_succ]
            refine takeH 55 (v := ?v55u77) rfl (by kernel_rfl) (by kernel_rfl) (by kernel_rfl) rfl (fun _ _ _ h => h) (Or.inl ⟨by rfl, ?y55u77⟩) hHeld ?r55u77
            case y55u77 => (intro W hSW; (try dsimp only at hSW); go_simp; try with_reducible rfl)
            simp only [Act.put, List.setIfInBounds_toArray, List.set_cons_zero, List.set_cons_succ]
            refine takeH 56 (v := ?v56u78) rfl (by kernel_rfl) (by kernel_rfl) (by kernel_rfl) rfl (fun _ _ _ h => h) (Or.inl ⟨by rfl, ?y56u78⟩) hHeld ?r56u78
            case y56u78 => (intro W hSW; (try dsimp only at hSW); go_simp; try with_reducible rfl)
            simp only [Act.put, List.setIfInBounds_toArray, List.set_cons_zero, List.set_cons_succ]
            refine takeH 57 (v := ?v57u79) rfl (by kernel_rfl) (by kernel_rfl) (by kernel_rfl) rfl (fun _ _ _ h => h) (Or.inl ⟨by rfl, ?y57u79⟩) hHeld ?r57u79
            case y57u79 => (intro W hSW; (try dsimp only at hSW); have q0 := ((HKX.out.next hSW).bel.cell (p := (ad.add (k * 7))) bl).trans d0; have q1 := ((HKX.out.next hSW).bel.cell (p := ⟨(ad.add (k * 7)).block, (ad.add (k * 7)).off + 1, none⟩) bl).trans d1; have q2 := ((HKX.out.next hSW).bel.cell (p := ⟨(ad.add (k * 7)).block, (ad.add (k * 7)).off + 2, none⟩) bl).trans d2; have q3 := ((HKX.out.next hSW).bel.cell (p := ⟨(ad.add (k * 7)).block, (ad.add (k * 7)).off + 3, none⟩) bl).trans d3; have q4 := ((HKX.out.next hSW).bel.cell (p := ⟨(ad.add (k * 7)).block, (ad.add (k * 7)).off + 4, none⟩) bl).trans d4; have q5 := ((HKX.out.next hSW).bel.cell (p := ⟨(ad.add (k * 7)).block, (ad.add (k * 7)).off + 5, none⟩) bl).trans d5; have q6 := ((HKX.out.next hSW).bel.cell (p := ⟨(ad.add (k * 7)).block, (ad.add (k * 7)).off + 6, none⟩) bl).trans d6; go_simp; try with_reducible rfl)
            simp only [Act.put, List.setIfInBounds_toArray, List.set_cons_zero, List.set_cons_succ]
            refine takeH 59 (v := ?v59u80) rfl (by kernel_rfl) (by kernel_rfl) (by kernel_rfl) rfl (fun _ _ _ h => h) (Or.inl ⟨by rfl, ?y59u80⟩) hHeld ?r59u80
            case y59u80 => (intro W hSW; (try dsimp only at hSW); go_simp; try with_reducible rfl)
            simp only [Act.put, List.setIfInBounds_toArray, List.set_cons_zero, List.set_cons_succ]
            refine wpAnyH_ready (rs := [58]) (by kernel_rfl) (by simp) ?_
            refine AllReadyH.cons rfl (fun K hK => ?_) AllReadyH.nil
            go_simp
            with_reducible refine (Match_c HTo.out e _ hHeld hHeld.size).mono ?_
            rw [HRo.out, M5.out, Bool.true_and]
            rintro e' wn ⟨rfl, hbn⟩
            have hkn := hHeld.trans (hbn.mono hHeld.size)
            clear hbn
            refine hK.out _ _ hkn (fun hHeld => ?_)
            clear hK K
            try simp only [Act.put, List.setIfInBounds_toArray, List.set_cons_zero, List.set_cons_succ]
            refine takeH 60 (v := ?v60u81) rfl (by kernel_rfl) (by kernel_rfl) (by kernel_rfl) rfl (fun _ _ _ h => h) (Or.inl ⟨by rfl, ?y60u81⟩) hHeld ?r60u81
            case y60u81 => (intro W hSW; (try dsimp only at hSW); go_simp; try with_reducible rfl)
            simp only [Act.put, List.setIfInBounds_toArray, List.set_cons_zero, List.set_cons_succ]
            refine takeH 61 (v := ?v61u82) rfl (by kernel_rfl) (by kernel_rfl) (by kernel_rfl) rfl (fun _ _ _ h => h) (Or.inl ⟨by rfl, ?y61u82⟩) hHeld ?r61u82
            case y61u82 => (intro W hSW; (try dsimp only at hSW); go_simp; try with_reducible rfl)
            simp only [Act.put, List.setIfInBounds_toArray, List.set_cons_zero, List.set_cons_succ]
            refine wpAnyH_done (by kernel_rfl) ?_ _
            refine NoPanic.normal ?_
            have HBo := Lib.hid hHeld
            clear hHeld HBn d0 d1 d2 d3 d4 d5 d6 M1 M2 M3 M4 M5
            go_wp2
            exact ⟨⟨k + 1, by omega, rfl, HBo⟩, by simp [intOf]; omega⟩
          · have M1 := Lib.hid (show meansF (FT.mk 6 0 0 nE [t, u]) e = false from by rw [m_and, hma, hmu]; rfl)
            have M2 := Lib.hid (show meansF (FT.mk 6 0 0 nE [u, t]) e = false from by rw [m_and, hma, hmu]; rfl)
            have M3 := Lib.hid (show meansF (FT.mk 7 0 0 nE [t, u]) e = true from by rw [m_or, hma, hmu]; rfl)
            have M4 := Lib.hid (show meansF (FT.mk 8 0 0 nE [.mk 7 0 0 nE [u, t]]) e = false from by rw [m_none, hma, hmu]; rfl)
            have M5 := Lib.hid (show meansF (FT.mk 7 0 0 nE [.mk 6 0 0 nE [t]]) e = false from by rw [m_one, hma])
            clear hma hmu
            go_wp2_with fail
            refine wp_region_noPanic ?_
            refine wp_region_held_drew (S := fun W' => Below wx.heap.size wx W') (by kernel_rfl) HBn.out.drew (fun hHeld => ?_)
            refine takeH 0 (v := ?v0u83) rfl (by kernel_rfl) (by kernel_rfl) (by kernel_rfl) rfl (fun _ _ _ h => h) (Or.inl ⟨by rfl, ?y0u83⟩) hHeld ?r0u83
            case y0u83 => (intro W hSW; (try dsimp only at hSW); have q0 := (HKX.out.next hSW).cell 4 rfl 0; have q1 := (HKX.out.next hSW).cell 4 rfl 1; have q2 := (HKX.out.next hSW).cell 4 rfl 2; have q3 := (HKX.out.next hSW).cell 4 rfl 3; have q4 := (HKX.out.next hSW).cell 4 rfl 4; simp only [List.getElem?_toArray, List.getElem?_cons_zero, List.getElem?_cons_succ] at q0 q1 q2 q3 q4; go_simp; try with_reducible rfl)
            simp only [Act.put, List.setIfInBounds_toArray, List.set_cons_zero, List.set_cons_succ]
            refine takeH 1 (v := ?v1u84) rfl (by kernel_rfl) (by kernel_rfl) (by kernel_rfl) rfl (fun _ _ _ h => h) (Or.inl ⟨by rfl, ?y1u84⟩) hHeld ?r1u84
            case y1u84 => (intro W hSW; (try dsimp only at hSW); go_simp; try with_reducible rfl)
            simp only [Act.put, List.setIfInBounds_toArray, List.set_cons_zero, List.set_cons_succ]
            refine takeH 2 (v := ?v2u85) rfl (by kernel_rfl) (by kernel_rfl) (by kernel_rfl) rfl (fun _ _ _ h => h) (Or.inl ⟨by rfl, ?y2u85⟩) hHeld ?r2u85
            case y2u85 => (intro W hSW; (try dsimp only at hSW); go_simp; try with_reducible rfl)
            simp only [Act.put, List.setIfInBounds_toArray, List.set_cons_zero, List.set_cons_succ]
            refine takeH 3 (v := ?v3u86) rfl (by kernel_rfl) (by kernel_rfl) (by kernel_rfl) rfl (fun _ _ _ h => h) (Or.inl ⟨by rfl, ?y3u86⟩) hHeld ?r3u86
            case y3u86 => (intro W hSW; (try dsimp only at hSW); go_simp; try with_reducible rfl)
            simp only [Act.put, List.setIfInBounds_toArray, List.set_cons_zero, List.set_cons_succ]
            refine takeH 4 (v := ?v4u87) rfl (by kernel_rfl) (by kernel_rfl) (by kernel_rfl) rfl (fun _ _ _ h => h) (Or.inl ⟨by rfl, ?y4u87⟩) hHeld ?r4u87
            case y4u87 => (intro W hSW; (try dsimp only at hSW); have q0 := ((HKX.out.next hSW).bel.cell (p := (ad.add (k * 7))) bl).trans d0; have q1 := ((HKX.out.next hSW).bel.cell (p := ⟨(ad.add (k * 7)).block, (ad.add (k * 7)).off + 1, none⟩) bl).trans d1; have q2 := ((HKX.out.next hSW).bel.cell (p := ⟨(ad.add (k * 7)).block, (ad.add (k * 7)).off + 2, none⟩) bl).trans d2; have q3 := ((HKX.out.next hSW).bel.cell (p := ⟨(ad.add (k * 7)).block, (ad.add (k * 7)).off + 3, none⟩) bl).trans d3; have q4 := ((HKX.out.next hSW).bel.cell (p := ⟨(ad.add (k * 7)).block, (ad.add (k * 7)).off + 4, none⟩) bl).trans d4; have q5 := ((HKX.out.next hSW).bel.cell (p := ⟨(ad.add (k * 7)).block, (ad.add (k * 7)).off + 5, none⟩) bl).trans d5; have q6 := ((HKX.out.next hSW).bel.cell (p := ⟨(ad.add (k * 7)).block, (ad.add (k * 7)).off + 6, none⟩) bl).trans d6; go_simp; try with_reducible rfl)
            simp only [Act.put, List.setIfInBounds_toArray, List.set_cons_zero, List.set_cons_succ]
            refine takeH 6 (v := ?v6u88) rfl (by kernel_rfl) (by kernel_rfl) (by kernel_rfl) rfl (fun _ _ _ h => h) (Or.inl ⟨by rfl, ?y6u88⟩) hHeld ?r6u88
            case y6u88 => (intro W hSW; (try dsimp only at hSW); go_simp; try with_reducible rfl)
            simp only [Act.put, List.setIfInBounds_toArray, List.set_cons_zero, List.set_cons_succ]
            refine wpAnyH_ready (rs := [5]) (by kernel_rfl) (by simp) ?_
            refine AllReadyH.cons rfl (fun K hK => ?_) AllReadyH.nil
            go_simp
            with_reducible refine (Match_c HTb.out e _ hHeld hHeld.size).mono ?_
            rw [HRb.out, M1.out, Bool.true_and]
            rintro e' wn ⟨rfl, hbn⟩
            have hkn := hHeld.trans (hbn.mono hHeld.size)
            clear hbn
            refine hK.out _ _ hkn (fun hHeld => ?_)
            clear hK K
            try simp only [Act.put, List.setIfInBounds_toArray, List.set_cons_zero, List.set_cons_succ]
            refine takeH 7 (v := ?v7u89) rfl (by kernel_rfl) (by kernel_rfl) (by kernel_rfl) rfl (fun _ _ _ h => h) (Or.inl ⟨by rfl, ?y7u89⟩) hHeld ?r7u89
            case y7u89 => (intro W hSW; (try dsimp only at hSW); go_simp; try with_reducible rfl)
            simp only [Act.put, List.setIfInBounds_toArray, List.set_cons_zero, List.set_cons_succ]
            refine takeH 8 (v := undef) rfl (by kernel_rfl) (by kernel_rfl) (by kernel_rfl) rfl (fun _ _ _ h => h) (Or.inr ⟨by rfl, rfl⟩) hHeld ?_
            simp only [Act.put, List.setIfInBounds_toArray, List.set_cons_zero, List.set_cons_succ]
            refine takeH 9 (v := ?v9u90) rfl (by kernel_rfl) (by kernel_rfl) (by kernel_rfl) rfl (fun _ _ _ h => h) (Or.inl ⟨by rfl, ?y9u90⟩) hHeld ?r9u90
            case y9u90 => (intro W hSW; (try dsimp only at hSW); go_simp; try with_reducible rfl)
            simp only [Act.put, List.setIfInBounds_toArray, List.set_cons_zero, List.set_cons_succ]
            refine takeH 10 (v := ?v10u91) rfl (by kernel_rfl) (by kernel_rfl) (by kernel_rfl) rfl (fun _ _ _ h => h) (Or.inl ⟨by rfl, ?y10u91⟩) hHeld ?r10u91
            case y10u91 => (intro W hSW; (try dsimp only at hSW); go_simp; try with_reducible rfl)
            simp only [Act.put, List.setIfInBounds_toArray, List.set_cons_zero, List.set_cons_succ]
            refine takeH 11 (v := ?v11u92) rfl (by kernel_rfl) (by kernel_rfl) (by kernel_rfl) rfl (fun _ _ _ h => h) (Or.inl ⟨by rfl, ?y11u92⟩) hHeld ?r11u92
            case y11u92 => (intro W hSW; (try dsimp only at hSW); go_simp; try with_reducible rfl)
            simp only [Act.put, List.setIfInBounds_toArray, List.set_cons_zero, List.set_cons_succ]
            refine takeH 12 (v := ?v12u93) rfl (by kernel_rfl) (by kernel_rfl) (by kernel_rfl) rfl (fun _ _ _ h => h) (Or.inl ⟨by rfl, ?y12u93⟩) hHeld ?r12u93
            case y12u93 => (intro W hSW; (try dsimp only at hSW); have q0 := (HKX.out.next hSW).cell 3 rfl 0; have q1 := (HKX.out.next hSW).cell 3 rfl 1; have q2 := (HKX.out.next hSW).cell 3 rfl 2; have q3 := (HKX.out.next hSW).cell 3 rfl 3; have q4 := (HKX.out.next hSW).cell 3 rfl 4; simp only [List.getElem?_toArray, List.getElem?_cons_zero, List.getElem?_cons_succ] at q0 q1 q2 q3 q4; go_simp; try with_reducible rfl)
            simp only [Act.put, List.setIfInBounds_toArray, List.set_cons_zero, List.set_cons_succ]
            refine takeH 13 (v := ?v13u94) rfl (by kernel_rfl) (by kernel_rfl) (by kernel_rfl) rfl (fun _ _ _ h => h) (Or.inl ⟨by rfl, ?y13u94⟩) hHeld ?r13u94
            case y13u94 => (intro W hSW; (try dsimp only at hSW); go_simp; try with_reducible rfl)
            simp only [Act.put, List.setIfInBounds_toArray, List.set_cons_zero, List.set_cons_succ]
            refine takeH 14 (v := ?v14u95) rfl (by kernel_rfl) (by kernel_rfl) (by kernel_rfl) rfl (fun _ _ _ h => h) (Or.inl ⟨by rfl, ?y14u95⟩) hHeld ?r14u95
            case y14u95 => (intro W hSW; (try dsimp only at hSW); go_simp; try with_reducible rfl)
            simp only [Act.put, List.setIfInBounds_toArray, List.set_cons_zero, List.set_cons_succ]
            refine takeH 15 (v := ?v15u96) rfl (by kernel_rfl) (by kernel_rfl) (by kernel_rfl) rfl (fun _ _ _ h => h) (Or.inl ⟨by rfl, ?y15u96⟩) hHeld ?r15u96
            case y15u96 => (intro W hSW; (try dsimp only at hSW); go_simp; try with_reducible rfl)
            simp only [Act.put, List.setIfInBounds_toArray, List.set_cons_zero, List.set_cons_succ]
            refine takeH 16 (v := ?v16u97) rfl (by kernel_rfl) (by kernel_rfl) (by kernel_rfl) rfl (fun _ _ _ h => h) (Or.inl ⟨by rfl, ?y16u97⟩) hHeld ?r16u97
            case y16u97 => (intro W hSW; (try dsimp only at hSW); have q0 := ((HKX.out.next hSW).bel.cell (p := (ad.add (k * 7))) bl).trans d0; have q1 := ((HKX.out.next hSW).bel.cell (p := ⟨(ad.add (k * 7)).block, (ad.add (k * 7)).off + 1, none⟩) bl).trans d1; have q2 := ((HKX.out.next hSW).bel.cell (p := ⟨(ad.add (k * 7)).block, (ad.add (k * 7)).off + 2, none⟩) bl).trans d2; have q3 := ((HKX.out.next hSW).bel.cell (p := ⟨(ad.add (k * 7)).block, (ad.add (k * 7)).off + 3, none⟩) bl).trans d3; have q4 := ((HKX.out.next hSW).bel.cell (p := ⟨(ad.add (k * 7)).block, (ad.add (k * 7)).off + 4, none⟩) bl).trans d4; have q5 := ((HKX.out.next hSW).bel.cell (p := ⟨(ad.add (k * 7)).block, (ad.add (k * 7)).off + 5, none⟩) bl).trans d5; have q6 := ((HKX.out.next hSW).bel.cell (p := ⟨(ad.add (k * 7)).block, (ad.add (k * 7)).off + 6, none⟩) bl).trans d6; go_simp; try with_reducible rfl)
            simp only [Act.put, List.setIfInBounds_toArray, List.set_cons_zero, List.set_cons_succ]
            refine takeH 18 (v := ?v18u98) rfl (by kernel_rfl) (by kernel_rfl) (by kernel_rfl) rfl (fun _ _ _ h => h) (Or.inl ⟨by rfl, ?y18u98⟩) hHeld ?r18u98
            case y18u98 => (intro W hSW; (try dsimp only at hSW); go_simp; try with_reducible rfl)
            simp only [Act.put, List.setIfInBounds_toArray, List.set_cons_zero, List.set_cons_succ]
            refine wpAnyH_ready (rs := [17]) (by kernel_rfl) (by simp) ?_
            refine AllReadyH.cons rfl (fun K hK => ?_) AllReadyH.nil
            go_simp
            with_reducible refine (Match_c HTd.out e _ hHeld hHeld.size).mono ?_
            rw [HRd.out, M2.out, Bool.true_and]
            rintro e' wn ⟨rfl, hbn⟩
            have hkn := hHeld.trans (hbn.mono hHeld.size)
            clear hbn
            refine hK.out _ _ hkn (fun hHeld => ?_)
            clear hK K
            try simp only [Act.put, List.setIfInBounds_toArray, List.set_cons_zero, List.set_cons_succ]
            refine takeH 19 (v := ?v19u99) rfl (by kernel_rfl) (by kernel_rfl) (by kernel_rfl) rfl (fun _ _ _ h => h) (Or.inl ⟨by rfl, ?y19u99⟩) hHeld ?r19u99
            case y19u99 => (intro W hSW; (try dsimp only at hSW); go_simp; try with_reducible rfl)
            simp only [Act.put, List.setIfInBounds_toArray, List.set_cons_zero, List.set_cons_succ]
            refine takeH 20 (v := undef) rfl (by kernel_rfl) (by kernel_rfl) (by kernel_rfl) rfl (fun _ _ _ h => h) (Or.inr ⟨by rfl, rfl⟩) hHeld ?_
            simp only [Act.put, List.setIfInBounds_toArray, List.set_cons_zero, List.set_cons_succ]
            refine takeH 21 (v := ?v21u100) rfl (by kernel_rfl) (by kernel_rfl) (by kernel_rfl) rfl (fun _ _ _ h => h) (Or.inl ⟨by rfl, ?y21u100⟩) hHeld ?r21u100
            case y21u100 => (intro W hSW; (try dsimp only at hSW); go_simp; try with_reducible rfl)
            simp only [Act.put, List.setIfInBounds_toArray, List.set_cons_zero, List.set_cons_succ]
            refine takeH 22 (v := ?v22u101) rfl (by kernel_rfl) (by kernel_rfl) (by kernel_rfl) rfl (fun _ _ _ h => h) (Or.inl ⟨by rfl, ?y22u101⟩) hHeld ?r22u101
            case y22u101 => (intro W hSW; (try dsimp only at hSW); go_simp; try with_reducible rfl)
            simp only [Act.put, List.setIfInBounds_toArray, List.set_cons_zero, List.set_cons_succ]
            refine takeH 23 (v := ?v23u102) rfl (by kernel_rfl) (by kernel_rfl) (by kernel_rfl) rfl (fun _ _ _ h => h) (Or.inl ⟨by rfl, ?y23u102⟩) hHeld ?r23u102
            case y23u102 => (intro W hSW; (try dsimp only at hSW); go_simp; try with_reducible rfl)
            simp only [Act.put, List.setIfInBounds_toArray, List.set_cons_zero, List.set_cons_succ]
            refine takeH 24 (v := ?v24u103) rfl (by kernel_rfl) (by kernel_rfl) (by kernel_rfl) rfl (fun _ _ _ h => h) (Or.inl ⟨by rfl, ?y24u103⟩) hHeld ?r24u103
            case y24u103 => (intro W hSW; (try dsimp only at hSW); go_simp; try with_reducible rfl)
            simp only [Act.put, List.setIfInBounds_toArray, List.set_cons_zero, List.set_cons_succ]
            refine takeH 25 (v := ?v25u104) rfl (by kernel_rfl) (by kernel_rfl) (by kernel_rfl) rfl (fun _ _ _ h => h) (Or.inl ⟨by rfl, ?y25u104⟩) hHeld ?r25u104
            case y25u104 => (intro W hSW; (try dsimp only at hSW); have q0 := (HKX.out.next hSW).cell 2 rfl 0; have q1 := (HKX.out.next hSW).cell 2 rfl 1; have q2 := (HKX.out.next hSW).cell 2 rfl 2; have q3 := (HKX.out.next hSW).cell 2 rfl 3; have q4 := (HKX.out.next hSW).cell 2 rfl 4; simp only [List.getElem?_toArray, List.getElem?_cons_zero, List.getElem?_cons_succ] at q0 q1 q2 q3 q4; go_simp; try with_reducible rfl)
            simp only [Act.put, List.setIfInBounds_toArray, List.set_cons_zero, List.set_cons_succ]
            refine takeH 26 (v := ?v26u105) rfl (by kernel_rfl) (by kernel_rfl) (by kernel_rfl) rfl (fun _ _ _ h => h) (Or.inl ⟨by rfl, ?y26u105⟩) hHeld ?r26u105
            case y26u105 => (intro W hSW; (try dsimp only at hSW); go_simp; try with_reducible rfl)
            simp only [Act.put, List.setIfInBounds_toArray, List.set_cons_zero, List.set_cons_succ]
            refine takeH 27 (v := ?v27u106) rfl (by kernel_rfl) (by kernel_rfl) (by kernel_rfl) rfl (fun _ _ _ h => h) (Or.inl ⟨by rfl, ?y27u106⟩) hHeld ?r27u106
            case y27u106 => (intro W hSW; (try dsimp only at hSW); go_simp; try with_reducible rfl)
            simp only [Act.put, List.setIfInBounds_toArray, List.set_cons_zero, List.set_cons_succ]
            refine takeH 28 (v := ?v28u107) rfl (by kernel_rfl) (by kernel_rfl) (by kernel_rfl) rfl (fun _ _ _ h => h) (Or.inl ⟨by rfl, ?y28u107⟩) hHeld ?r28u107
            case y28u107 => (intro W hSW; (try dsimp only at hSW); go_simp; try with_reducible rfl)
            simp only [Act.put, List.setIfInBounds_toArray, List.set_cons_zero, List.set_cons_succ]
            refine takeH 29 (v := ?v29u108) rfl (by kernel_rfl) (by kernel_rfl) (by kernel_rfl) rfl (fun _ _ _ h => h) (Or.inl ⟨by rfl, ?y29u108⟩) hHeld ?r29u108
            case y29u108 => (intro W hSW; (try dsimp only at hSW); have q0 := ((HKX.out.next hSW).bel.cell (p := (ad.add (k * 7))) bl).trans d0; have q1 := ((HKX.out.next hSW).bel.cell (p := ⟨(ad.add (k * 7)).block, (ad.add (k * 7)).off + 1, none⟩) bl).trans d1; have q2 := ((HKX.out.next hSW).bel.cell (p := ⟨(ad.add (k * 7)).block, (ad.add (k * 7)).off + 2, none⟩) bl).trans d2; have q3 := ((HKX.out.next hSW).bel.cell (p := ⟨(ad.add (k * 7)).block, (ad.add (k * 7)).off + 3, none⟩) bl).trans d3; have q4 := ((HKX.out.next hSW).bel.cell (p := ⟨(ad.add (k * 7)).block, (ad.add (k * 7)).off + 4, none⟩) bl).trans d4; have q5 := ((HKX.out.next hSW).bel.cell (p := ⟨(ad.add (k * 7)).block, (ad.add (k * 7)).off + 5, none⟩) bl).trans d5; have q6 := ((HKX.out.next hSW).bel.cell (p := ⟨(ad.add (k * 7)).block, (ad.add (k * 7)).off + 6, none⟩) bl).trans d6; go_simp; try with_reducible rfl)
            simp only [Act.put, List.setIfInBounds_toArray, List.set_cons_zero, List.set_cons_succ]
            refine takeH 31 (v := ?v31u109) rfl (by kernel_rfl) (by kernel_rfl) (by kernel_rfl) rfl (fun _ _ _ h => h) (Or.inl ⟨by rfl, ?y31u109⟩) hHeld ?r31u109
            case y31u109 => (intro W hSW; (try dsimp only at hSW); go_simp; try with_reducible rfl)
            simp only [Act.put, List.setIfInBounds_toArray, List.set_cons_zero, List.set_cons_succ]
            refine wpAnyH_ready (rs := [30]) (by kernel_rfl) (by simp) ?_
            refine AllReadyH.cons rfl (fun K hK => ?_) AllReadyH.nil
            go_simp
            with_reducible refine (Match_c HTs.out e _ hHeld hHeld.size).mono ?_
            rw [HRs.out, M3.out, Bool.true_and]
            rintro e' wn ⟨rfl, hbn⟩
            have hkn := hHeld.trans (hbn.mono hHeld.size)
            clear hbn
            refine hK.out _ _ hkn (fun hHeld => ?_)
            clear hK K
            try simp only [Act.put, List.setIfInBounds_toArray, List.set_cons_zero, List.set_cons_succ]
            refine takeH 32 (v := ?v32u110) rfl (by kernel_rfl) (by kernel_rfl) (by kernel_rfl) rfl (fun _ _ _ h => h) (Or.inl ⟨by rfl, ?y32u110⟩) hHeld ?r32u110
            case y32u110 => (intro W hSW; (try dsimp only at hSW); go_simp; try with_reducible rfl)
            simp only [Act.put, List.setIfInBounds_toArray, List.set_cons_zero, List.set_cons_succ]
            refine takeH 33 (v := ?v33u111) rfl (by kernel_rfl) (by kernel_rfl) (by kernel_rfl) rfl (fun _ _ _ h => h) (Or.inl ⟨by rfl, ?y33u111⟩) hHeld ?r33u111
            case y33u111 => (intro W hSW; (try dsimp only at hSW); go_simp; try with_reducible rfl)
            simp only [Act.put, List.setIfInBounds_toArray, List.set_cons_zero, List.set_cons_succ]
            refine takeH 34 (v := ?v34u112) rfl (by kernel_rfl) (by kernel_rfl) (by kernel_rfl) rfl (fun _ _ _ h => h) (Or.inl ⟨by rfl, ?y34u112⟩) hHeld ?r34u112
            case y34u112 => (intro W hSW; (try dsimp only at hSW); go_simp; try with_reducible rfl)
            simp only [Act.put, List.setIfInBounds_toArray, List.set_cons_zero, List.set_cons_succ]
            refine takeH 35 (v := ?v35u113) rfl (by kernel_rfl) (by kernel_rfl) (by kernel_rfl) rfl (fun _ _ _ h => h) (Or.inl ⟨by rfl, ?y35u113⟩) hHeld ?r35u113
            case y35u113 => (intro W hSW; (try dsimp only at hSW); go_simp; try with_reducible rfl)
            simp only [Act.put, List.setIfInBounds_toArray, List.set_cons_zero, List.set_cons_succ]
            refine takeH 36 (v := ?v36u114) rfl (by kernel_rfl) (by kernel_rfl) (by kernel_rfl) rfl (fun _ _ _ h => h) (Or.inl ⟨by rfl, ?y36u114⟩) hHeld ?r36u114
            case y36u114 => (intro W hSW; (try dsimp only at hSW); go_simp; try with_reducible rfl)
            simp only [Act.put, List.setIfInBounds_toArray, List.set_cons_zero, List.set_cons_succ]
            refine takeH 37 (v := ?v37u115) rfl (by kernel_rfl) (by kernel_rfl) (by kernel_rfl) rfl (fun _ _ _ h => h) (Or.inl ⟨by rfl, ?y37u115⟩) hHeld ?r37u115
            case y37u115 => (intro W hSW; (try dsimp only at hSW); go_simp; try with_reducible rfl)
            simp only [Act.put, List.setIfInBounds_toArray, List.set_cons_zero, List.set_cons_succ]
            refine takeH 38 (v := ?v38u116) rfl (by kernel_rfl) (by kernel_rfl) (by kernel_rfl) rfl (fun _ _ _ h => h) (Or.inl ⟨by rfl, ?y38u116⟩) hHeld ?r38u116
            case y38u116 => (intro W hSW; (try dsimp only at hSW); have q0 := (HKX.out.next hSW).cell 1 rfl 0; have q1 := (HKX.out.next hSW).cell 1 rfl 1; have q2 := (HKX.out.next hSW).cell 1 rfl 2; have q3 := (HKX.out.next hSW).cell 1 rfl 3; have q4 := (HKX.out.next hSW).cell 1 rfl 4; simp only [List.getElem?_toArray, List.getElem?_cons_zero, List.getElem?_cons_succ] at q0 q1 q2 q3 q4; go_simp; try with_reducible rfl)
            simp only [Act.put, List.setIfInBounds_toArray, List.set_cons_zero, List.set_cons_succ]
            refine takeH 39 (v := ?v39u117) rfl (by kernel_rfl) (by kernel_rfl) (by kernel_rfl) rfl (fun _ _ _ h => h) (Or.inl ⟨by rfl, ?y39u117⟩) hHeld ?r39u117
            case y39u117 => (intro W hSW; (try dsimp only at hSW); go_simp; try with_reducible rfl)
            simp only [Act.put, List.setIfInBounds_toArray, List.set_cons_zero, List.set_cons_succ]
            refine takeH 40 (v := ?v40u118) rfl (by kernel_rfl) (by kernel_rfl) (by kernel_rfl) rfl (fun _ _ _ h => h) (Or.inl ⟨by rfl, ?y40u118⟩) hHeld ?r40u118
            case y40u118 => (intro W hSW; (try dsimp only at hSW); go_simp; try with_reducible rfl)
            simp only [Act.put, List.setIfInBounds_toArray, List.set_cons_zero, List.set_cons_succ]
            refine takeH 41 (v := ?v41u119) rfl (by kernel_rfl) (by kernel_rfl) (by kernel_rfl) rfl (fun _ _ _ h => h) (Or.inl ⟨by rfl, ?y41u119⟩) hHeld ?r41u119
            case y41u119 => (intro W hSW; (try dsimp only at hSW); go_simp; try with_reducible rfl)
            simp only [Act.put, List.setIfInBounds_toArray, List.set_cons_zero, List.set_cons_succ]
            refine takeH 42 (v := ?v42u120) rfl (by kernel_rfl) (by kernel_rfl) (by kernel_rfl) rfl (fun _ _ _ h => h) (Or.inl ⟨by rfl, ?y42u120⟩) hHeld ?r42u120
            case y42u120 => (intro W hSW; (try dsimp only at hSW); have q0 := ((HKX.out.next hSW).bel.cell (p := (ad.add (k * 7))) bl).trans d0; have q1 := ((HKX.out.next hSW).bel.cell (p := ⟨(ad.add (k * 7)).block, (ad.add (k * 7)).off + 1, none⟩) bl).trans d1; have q2 := ((HKX.out.next hSW).bel.cell (p := ⟨(ad.add (k * 7)).block, (ad.add (k * 7)).off + 2, none⟩) bl).trans d2; have q3 := ((HKX.out.next hSW).bel.cell (p := ⟨(ad.add (k * 7)).block, (ad.add (k * 7)).off + 3, none⟩) bl).trans d3; have q4 := ((HKX.out.next hSW).bel.cell (p := ⟨(ad.add (k * 7)).block, (ad.add (k * 7)).off + 4, none⟩) bl).trans d4; have q5 := ((HKX.out.next hSW).bel.cell (p := ⟨(ad.add (k * 7)).block, (ad.add (k * 7)).off + 5, none⟩) bl).trans d5; have q6 := ((HKX.out.next hSW).bel.cell (p := ⟨(ad.add (k * 7)).block, (ad.add (k * 7)).off + 6, none⟩) bl).trans d6; go_simp; try with_reducible rfl)
            simp only [Act.put, List.setIfInBounds_toArray, List.set_cons_zero, List.set_cons_succ]
            refine takeH 44 (v := ?v44u121) rfl (by kernel_rfl) (by kernel_rfl) (by kernel_rfl) rfl (fun _ _ _ h => h) (Or.inl ⟨by rfl, ?y44u121⟩) hHeld ?r44u121
            case y44u121 => (intro W hSW; (try dsimp only at hSW); go_simp; try with_reducible rfl)
            simp only [Act.put, List.setIfInBounds_toArray, List.set_cons_zero, List.set_cons_succ]
            refine takeH 45 (v := ?v45u122) rfl (by kernel_rfl) (by kernel_rfl) (by kernel_rfl) rfl (fun _ _ _ h => h) (Or.inl ⟨by rfl, ?y45u122⟩) hHeld ?r45u122
            case y45u122 => (intro W hSW; (try dsimp only at hSW); go_simp; try with_reducible rfl)
            simp only [Act.put, List.setIfInBounds_toArray, List.set_cons_zero, List.set_cons_succ]
            refine wpAnyH_ready (rs := [43]) (by kernel_rfl) (by simp) ?_
            refine AllReadyH.cons rfl (fun K hK => ?_) AllReadyH.nil
            go_simp
            with_reducible refine (Match_c HTn.out e _ hHeld hHeld.size).mono ?_
            rw [HRn.out, M4.out, Bool.true_and]
            rintro e' wn ⟨rfl, hbn⟩
            have hkn := hHeld.trans (hbn.mono hHeld.size)
            clear hbn
            refine hK.out _ _ hkn (fun hHeld => ?_)
            clear hK K
            try simp only [Act.put, List.setIfInBounds_toArray, List.set_cons_zero, List.set_cons_succ]
            refine takeH 46 (v := ?v46u123) rfl (by kernel_rfl) (by kernel_rfl) (by kernel_rfl) rfl (fun _ _ _ h => h) (Or.inl ⟨by rfl, ?y46u123⟩) hHeld ?r46u123
            case y46u123 => (intro W hSW; (try dsimp only at hSW); go_simp; try with_reducible rfl)
            simp only [Act.put, List.setIfInBounds_toArray, List.set_cons_zero, List.set_cons_succ]
            refine takeH 47 (v := ?v47u124) rfl (by kernel_rfl) (by kernel_rfl) (by kernel_rfl) rfl (fun _ _ _ h => h) (Or.inl ⟨by rfl, ?y47u124⟩) hHeld ?r47u124
            case y47u124 => (intro W hSW; (try dsimp only at hSW); go_simp; try with_reducible rfl)
            simp only [Act.put, List.setIfInBounds_toArray, List.set_cons_zero, List.set_cons_succ]
            refine takeH 48 (v := ?v48u125) rfl (by kernel_rfl) (by kernel_rfl) (by kernel_rfl) rfl (fun _ _ _ h => h) (Or.inl ⟨by rfl, ?y48u125⟩) hHeld ?r48u125
            case y48u125 => (intro W hSW; (try dsimp only at hSW); go_simp; try with_reducible rfl)
            simp only [Act.put, List.setIfInBounds_toArray, List.set_cons_zero, List.set_cons_succ]
            refine takeH 49 (v := ?v49u126) rfl (by kernel_rfl) (by kernel_rfl) (by kernel_rfl) rfl (fun _ _ _ h => h) (Or.inl ⟨by rfl, ?y49u126⟩) hHeld ?r49u126
            case y49u126 => (intro W hSW; (try dsimp only at hSW); go_simp; try with_reducible rfl)
            simp only [Act.put, List.setIfInBounds_toArray, List.set_cons_zero, List.set_cons_succ]
            refine takeH 50 (v := ?v50u127) rfl (by kernel_rfl) (by kernel_rfl) (by kernel_rfl) rfl (fun _ _ _ h => h) (Or.inl ⟨by rfl, ?y50u127⟩) hHeld ?r50u127
            case y50u127 => (intro W hSW; (try dsimp only at hSW); go_simp; try with_reducible rfl)
            simp only [Act.put, List.setIfInBounds_toArray, List.set_cons_zero, List.set_cons_succ]
            refine takeH 51 (v := ?v51u128) rfl (by kernel_rfl) (by kernel_rfl) (by kernel_rfl) rfl (fun _ _ _ h => h) (Or.inl ⟨by rfl, ?y51u128⟩) hHeld ?r51u128
            case y51u128 => (intro W hSW; (try dsimp only at hSW); go_simp; try with_reducible rfl)
            simp only [Act.put, List.setIfInBounds_toArray, List.set_cons_zero, List.set_cons_succ]
            refine takeH 52 (v := ?v52u129) rfl (by kernel_rfl) (by kernel_rfl) (by kernel_rfl) rfl (fun _ _ _ h => h) (Or.inl ⟨by rfl, ?y52u129⟩) hHeld ?r52u129
            case y52u129 => (intro W hSW; (try dsimp only at hSW); go_simp; try with_reducible rfl)
            simp only [Act.put, List.setIfInBounds_toArray, List.set_cons_zero, List.set_cons_succ]
            refine takeH 53 (v := ?v53u130) rfl (by kernel_rfl) (by kernel_rfl) (by kernel_rfl) rfl (fun _ _ _ h => h) (Or.inl ⟨by rfl, ?y53u130⟩) hHeld ?r53u130
            case y53u130 => (intro W hSW; (try dsimp only at hSW); have q0 := (HKX.out.next hSW).cell 0 rfl 0; have q1 := (HKX.out.next hSW).cell 0 rfl 1; have q2 := (HKX.out.next hSW).cell 0 rfl 2; have q3 := (HKX.out.next hSW).cell 0 rfl 3; have q4 := (HKX.out.next hSW).cell 0 rfl 4; simp only [List.getElem?_toArray, List.getElem?_cons_zero, List.getElem?_cons_succ] at q0 q1 q2 q3 q4; go_simp; try with_reducible rfl)
            simp only [Act.put, List.setIfInBounds_toArray, List.set_cons_zero, List.set_cons_succ]
            refine takeH 54 (v := ?v54u131) rfl (by kernel_rfl) (by kernel_rfl) (by kernel_rfl) rfl (fun _ _ _ h => h) (Or.inl ⟨by rfl, ?y54u131⟩) hHeld ?r54u131
            case y54u131 => (intro W hSW; (try dsimp only at hSW); go_simp; try with_reducible rfl)
            simp only [Act.put, List.setIfInBounds_toArray, List.set_cons_zero, List.set_cons_succ]
            refine takeH 55 (v := ?v55u132) rfl (by kernel_rfl) (by kernel_rfl) (by kernel_rfl) rfl (fun _ _ _ h => h) (Or.inl ⟨by rfl, ?y55u132⟩) hHeld ?r55u132
            case y55u132 => (intro W hSW; (try dsimp only at hSW); go_simp; try with_reducible rfl)
            simp only [Act.put, List.setIfInBounds_toArray, List.set_cons_zero, List.set_cons_succ]
            refine takeH 56 (v := ?v56u133) rfl (by kernel_rfl) (by kernel_rfl) (by kernel_rfl) rfl (fun _ _ _ h => h) (Or.inl ⟨by rfl, ?y56u133⟩) hHeld ?r56u133
            case y56u133 => (intro W hSW; (try dsimp only at hSW); go_simp; try with_reducible rfl)
            simp only [Act.put, List.setIfInBounds_toArray, List.set_cons_zero, List.set_cons_succ]
            refine takeH 57 (v := ?v57u134) rfl (by kernel_rfl) (by kernel_rfl) (by kernel_rfl) rfl (fun _ _ _ h => h) (Or.inl ⟨by rfl, ?y57u134⟩) hHeld ?r57u134
            case y57u134 => (intro W hSW; (try dsimp only at hSW); have q0 := ((HKX.out.next hSW).bel.cell (p := (ad.add (k * 7))) bl).trans d0; have q1 := ((HKX.out.next hSW).bel.cell (p := ⟨(ad.add (k * 7)).block, (ad.add (k * 7)).off + 1, none⟩) bl).trans d1; have q2 := ((HKX.out.next hSW).bel.cell (p := ⟨(ad.add (k * 7)).block, (ad.add (k * 7)).off + 2, none⟩) bl).trans d2; have q3 := ((HKX.out.next hSW).bel.cell (p := ⟨(ad.add (k * 7)).block, (ad.add (k * 7)).off + 3, none⟩) bl).trans d3; have q4 := ((HKX.out.next hSW).bel.cell (p := ⟨(ad.add (k * 7)).block, (ad.add (k * 7)).off + 4, none⟩) bl).trans d4; have q5 := ((HKX.out.next hSW).bel.cell (p := ⟨(ad.add (k * 7)).block, (ad.add (k * 7)).off + 5, none⟩) bl).trans d5; have q6 := ((HKX.out.next hSW).bel.cell (p := ⟨(ad.add (k * 7)).block, (ad.add (k * 7)).off + 6, none⟩) bl).trans d6; go_simp; try with_reducible rfl)
            simp only [Act.put, List.setIfInBounds_toArray, List.set_cons_zero, List.set_cons_succ]
            refine takeH 59 (v := ?v59u135) rfl (by kernel_rfl) (by kernel_rfl) (by kernel_rfl) rfl (fun _ _ _ h => h) (Or.inl ⟨by rfl, ?y59u135⟩) hHeld ?r59u135
            case y59u135 => (intro W hSW; (try dsimp only at hSW); go_simp; try with_reducible rfl)
            simp only [Act.put, List.setIfInBounds_toArray, List.set_cons_zero, List.set_cons_succ]
            refine wpAnyH_ready (rs := [58]) (by kernel_rfl) (by simp) ?_
            refine AllReadyH.cons rfl (fun K hK => ?_) AllReadyH.nil
            go_simp
            with_reducible refine (Match_c HTo.out e _ hHeld hHeld.size).mono ?_
            rw [HRo.out, M5.out, Bool.true_and]
            rintro e' wn ⟨rfl, hbn⟩
            have hkn := hHeld.trans (hbn.mono hHeld.size)
            clear hbn
            refine hK.out _ _ hkn (fun hHeld => ?_)
            clear hK K
            try simp only [Act.put, List.setIfInBounds_toArray, List.set_cons_zero, List.set_cons_succ]
            refine takeH 60 (v := ?v60u136) rfl (by kernel_rfl) (by kernel_rfl) (by kernel_rfl) rfl (fun _ _ _ h => h) (Or.inl ⟨by rfl, ?y60u136⟩) hHeld ?r60u136
            case y60u136 => (intro W hSW; (try dsimp only at hSW); go_simp; try with_reducible rfl)
            simp only [Act.put, List.setIfInBounds_toArray, List.set_cons_zero, List.set_cons_succ]
            refine takeH 61 (v := ?v61u137) rfl (by kernel_rfl) (by kernel_rfl) (by kernel_rfl) rfl (fun _ _ _ h => h) (Or.inl ⟨by rfl, ?y61u137⟩) hHeld ?r61u137
            case y61u137 => (intro W hSW; (try dsimp only at hSW); go_simp; try with_reducible rfl)
            simp only [Act.put, List.setIfInBounds_toArray, List.set_cons_zero, List.set_cons_succ]
            refine wpAnyH_done (by kernel_rfl) ?_ _
            refine NoPanic.normal ?_
            have HBo := Lib.hid hHeld
            clear hHeld HBn d0 d1 d2 d3 d4 d5 d6 M1 M2 M3 M4 M5
            go_wp2
            exact ⟨⟨k + 1, by omega, rfl, HBo⟩, by simp [intOf]; omega⟩
          · have M1 := Lib.hid (show meansF (FT.mk 6 0 0 nE [t, u]) e = false from by rw [m_and, hma, hmu]; rfl)
            have M2 := Lib.hid (show meansF (FT.mk 6 0 0 nE [u, t]) e = false from by rw [m_and, hma, hmu]; rfl)
            have M3 := Lib.hid (show meansF (FT.mk 7 0 0 nE [t, u]) e = true from by rw [m_or, hma, hmu]; rfl)
            have M4 := Lib.hid (show meansF (FT.mk 8 0 0 nE [.mk 7 0 0 nE [u, t]]) e = false from by rw [m_none, hma, hmu]; rfl)
            have M5 := Lib.hid (show meansF (FT.mk 7 0 0 nE [.mk 6 0 0 nE [t]]) e = true from by rw [m_one, hma])
            clear hma hmu
            go_wp2_with fail
            refine wp_region_noPanic ?_
            refine wp_region_held_drew (S := fun W' => Below wx.heap.size wx W') (by kernel_rfl) HBn.out.drew (fun hHeld => ?_)
            refine takeH 0 (v := ?v0u138) rfl (by kernel_rfl) (by kernel_rfl) (by kernel_rfl) rfl (fun _ _ _ h => h) (Or.inl ⟨by rfl, ?y0u138⟩) hHeld ?r0u138
            case y0u138 => (intro W hSW; (try dsimp only at hSW); have q0 := (HKX.out.next hSW).cell 4 rfl 0; have q1 := (HKX.out.next hSW).cell 4 rfl 1; have q2 := (HKX.out.next hSW).cell 4 rfl 2; have q3 := (HKX.out.next hSW).cell 4 rfl 3; have q4 := (HKX.out.next hSW).cell 4 rfl 4; simp only [List.getElem?_toArray, List.getElem?_cons_zero, List.getElem?_cons_succ] at q0 q1 q2 q3 q4; go_simp; try with_reducible rfl)
            simp only [Act.put, List.setIfInBounds_toArray, List.set_cons_zero, List.set_cons_succ]
            refine takeH 1 (v := ?v1u139) rfl (by kernel_rfl) (by kernel_rfl) (by kernel_rfl) rfl (fun _ _ _ h => h) (Or.inl ⟨by rfl, ?y1u139⟩) hHeld ?r1u139
            case y1u139 => (intro W hSW; (try dsimp only at hSW); go_simp; try with_reducible rfl)
            simp only [Act.put, List.setIfInBounds_toArray, List.set_cons_zero, List.set_cons_succ]
            refine takeH 2 (v := ?v2u140) rfl (by kernel_rfl) (by kernel_rfl) (by kernel_rfl) rfl (fun _ _ _ h => h) (Or.inl ⟨by rfl, ?y2u140⟩) hHeld ?r2u140
            case y2u140 => (intro W hSW; (try dsimp only at hSW); go_simp; try with_reducible rfl)
            simp only [Act.put, List.setIfInBounds_toArray, List.set_cons_zero, List.set_cons_succ]
            refine takeH 3 (v := ?v3u141) rfl (by kernel_rfl) (by kernel_rfl) (by kernel_rfl) rfl (fun _ _ _ h => h) (Or.inl ⟨by rfl, ?y3u141⟩) hHeld ?r3u141
            case y3u141 => (intro W hSW; (try dsimp only at hSW); go_simp; try with_reducible rfl)
            simp only [Act.put, List.setIfInBounds_toArray, List.set_cons_zero, List.set_cons_succ]
            refine takeH 4 (v := ?v4u142) rfl (by kernel_rfl) (by kernel_rfl) (by kernel_rfl) rfl (fun _ _ _ h => h) (Or.inl ⟨by rfl, ?y4u142⟩) hHeld ?r4u142
            case y4u142 => (intro W hSW; (try dsimp only at hSW); have q0 := ((HKX.out.next hSW).bel.cell (p := (ad.add (k * 7))) bl).trans d0; have q1 := ((HKX.out.next hSW).bel.cell (p := ⟨(ad.add (k * 7)).block, (ad.add (k * 7)).off + 1, none⟩) bl).trans d1; have q2 := ((HKX.out.next hSW).bel.cell (p := ⟨(ad.add (k * 7)).block, (ad.add (k * 7)).off + 2, none⟩) bl).trans d2; have q3 := ((HKX.out.next hSW).bel.cell (p := ⟨(ad.add (k * 7)).block, (ad.add (k * 7)).off + 3, none⟩) bl).trans d3; have q4 := ((HKX.out.next hSW).bel.cell (p := ⟨(ad.add (k * 7)).block, (ad.add (k * 7)).off + 4, none⟩) bl).trans d4; have q5 := ((HKX.out.next hSW).bel.cell (p := ⟨(ad.add (k * 7)).block, (ad.add (k * 7)).off + 5, none⟩) bl).trans d5; have q6 := ((HKX.out.next hSW).bel.cell (p := ⟨(ad.add (k * 7)).block, (ad.add (k * 7)).off + 6, none⟩) bl).trans d6; go_simp; try with_reducible rfl)
            simp only [Act.put, List.setIfInBounds_toArray, List.set_cons_zero, List.set_cons_succ]
            refine takeH 6 (v := ?v6u143) rfl (by kernel_rfl) (by kernel_rfl) (by kernel_rfl) rfl (fun _ _ _ h => h) (Or.inl ⟨by rfl, ?y6u143⟩) hHeld ?r6u143
            case y6u143 => (intro W hSW; (try dsimp only at hSW); go_simp; try with_reducible rfl)
            simp only [Act.put, List.setIfInBounds_toArray, List.set_cons_zero, List.set_cons_succ]
            refine wpAnyH_ready (rs := [5]) (by kernel_rfl) (by simp) ?_
            refine AllReadyH.cons rfl (fun K hK => ?_) AllReadyH.nil
            go_simp
            with_reducible refine (Match_c HTb.out e _ hHeld hHeld.size).mono ?_
            rw [HRb.out, M1.out, Bool.true_and]
            rintro e' wn ⟨rfl, hbn⟩
            have hkn := hHeld.trans (hbn.mono hHeld.size)
            clear hbn
            refine hK.out _ _ hkn (fun hHeld => ?_)
            clear hK K
            try simp only [Act.put, List.setIfInBounds_toArray, List.set_cons_zero, List.set_cons_succ]
            refine takeH 7 (v := ?v7u144) rfl (by kernel_rfl) (by kernel_rfl) (by kernel_rfl) rfl (fun _ _ _ h => h) (Or.inl ⟨by rfl, ?y7u144⟩) hHeld ?r7u144
            case y7u144 => (intro W hSW; (try dsimp only at hSW); go_simp; try with_reducible rfl)
            simp only [Act.put, List.setIfInBounds_toArray, List.set_cons_zero, List.set_cons_succ]
            refine takeH 8 (v := ?v8u145) rfl (by kernel_rfl) (by kernel_rfl) (by kernel_rfl) rfl (fun _ _ _ h => h) (Or.inl ⟨by rfl, ?y8u145⟩) hHeld ?r8u145
            case y8u145 => (intro W hSW; (try dsimp only at hSW); go_simp; try with_reducible rfl)
            simp only [Act.put, List.setIfInBounds_toArray, List.set_cons_zero, List.set_cons_succ]
            refine takeH 9 (v := ?v9u146) rfl (by kernel_rfl) (by kernel_rfl) (by kernel_rfl) rfl (fun _ _ _ h => h) (Or.inl ⟨by rfl, ?y9u146⟩) hHeld ?r9u146
            case y9u146 => (intro W hSW; (try dsimp only at hSW); go_simp; try with_reducible rfl)
            simp only [Act.put, List.setIfInBounds_toArray, List.set_cons_zero, List.set_cons_succ]
            refine takeH 10 (v := ?v10u147) rfl (by kernel_rfl) (by kernel_rfl) (by kernel_rfl) rfl (fun _ _ _ h => h) (Or.inl ⟨by rfl, ?y10u147⟩) hHeld ?r10u147
            case y10u147 => (intro W hSW; (try dsimp only at hSW); go_simp; try with_reducible rfl)
            simp only [Act.put, List.setIfInBounds_toArray, List.set_cons_zero, List.set_cons_succ]
            refine takeH 11 (v := ?v11u148) rfl (by kernel_rfl) (by kernel_rfl) (by kernel_rfl) rfl (fun _ _ _ h => h) (Or.inl ⟨by rfl, ?y11u148⟩) hHeld ?r11u148
            case y11u148 => (intro W hSW; (try dsimp only at hSW); go_simp; try with_reducible rfl)
            simp only [Act.put, List.setIfInBounds_toArray, List.set_cons_zero, List.set_cons_succ]
            refine takeH 12 (v := ?v12u149) rfl (by kernel_rfl) (by kernel_rfl) (by kernel_rfl) rfl (fun _ _ _ h => h) (Or.inl ⟨by rfl, ?y12u149⟩) hHeld ?r12u149
            case y12u149 => (intro W hSW; (try dsimp only at hSW); have q0 := (HKX.out.next hSW).cell 3 rfl 0; have q1 := (HKX.out.next hSW).cell 3 rfl 1; have q2 := (HKX.out.next hSW).cell 3 rfl 2; have q3 := (HKX.out.next hSW).cell 3 rfl 3; have q4 := (HKX.out.next hSW).cell 3 rfl 4; simp only [List.getElem?_toArray, List.getElem?_cons_zero, List.getElem?_cons_succ] at q0 q1 q2 q3 q4; go_simp; try with_reducible rfl)
            simp only [Act.put, List.setIfInBounds_toArray, List.set_cons_zero, List.set_cons_succ]
            refine takeH 13 (v := ?v13u150) rfl (by kernel_rfl) (by kernel_rfl) (by kernel_rfl) rfl (fun _ _ _ h => h) (Or.inl ⟨by rfl, ?y13u150⟩) hHeld ?r13u150
            case y13u150 => (intro W hSW; (try dsimp only at hSW); go_simp; try with_reducible rfl)
            simp only [Act.put, List.setIfInBounds_toArray, List.set_cons_zero, List.set_cons_succ]
            refine takeH 14 (v := ?v14u151) rfl (by kernel_rfl) (by kernel_rfl) (by kernel_rfl) rfl (fun _ _ _ h => h) (Or.inl ⟨by rfl, ?y14u151⟩) hHeld ?r14u151
            case y14u151 => (intro W hSW; (try dsimp only at hSW); go_simp; try with_reducible rfl)
            simp only [Act.put, List.setIfInBounds_toArray, List.set_cons_zero, List.set_cons_succ]
            refine takeH 15 (v := ?v15u152) rfl (by kernel_rfl) (by kernel_rfl) (by kernel_rfl) rfl (fun _ _ _ h => h) (Or.inl ⟨by rfl, ?y15u152⟩) hHeld ?r15u152
            case y15u152 => (intro W hSW; (try dsimp only at hSW); go_simp; try with_reducible rfl)
            simp only [Act.put, List.setIfInBounds_toArray, List.set_cons_zero, List.set_cons_succ]
            refine takeH 16 (v := ?v16u153) rfl (by kernel_rfl) (by kernel_rfl) (by kernel_rfl) rfl (fun _ _ _ h => h) (Or.inl ⟨by rfl, ?y16u153⟩) hHeld ?r16u153
            case y16u153 => (intro W hSW; (try dsimp only at hSW); have q0 := ((HKX.out.next hSW).bel.cell (p := (ad.add (k * 7))) bl).trans d0; have q1 := ((HKX.out.next hSW).bel.cell (p := ⟨(ad.add (k * 7)).block, (ad.add (k * 7)).off + 1, none⟩) bl).trans d1; have q2 := ((HKX.out.next hSW).bel.cell (p := ⟨(ad.add (k * 7)).block, (ad.add (k * 7)).off + 2, none⟩) bl).trans d2; have q3 := ((HKX.out.next hSW).bel.cell (p := ⟨(ad.add (k * 7)).block, (ad.add (k * 7)).off + 3, none⟩) bl).trans d3; have q4 := ((HKX.out.next hSW).bel.cell (p := ⟨(ad.add (k * 7)).block, (ad.add (k * 7)).off + 4, none⟩) bl).trans d4; have q5 := ((HKX.out.next hSW).bel.cell (p := ⟨(ad.add (k * 7)).block, (ad.add (k * 7)).off + 5, none⟩) bl).trans d5; have q6 := ((HKX.out.next hSW).bel.cell (p := ⟨(ad.add (k * 7)).block, (ad.add (k * 7)).off + 6, none⟩) bl).trans d6; go_simp; try with_reducible rfl)
            simp only [Act.put, List.setIfInBounds_toArray, List.set_cons_zero, List.set_cons_succ]
            refine takeH 18 (v := ?v18u154) rfl (by kernel_rfl) (by kernel_rfl) (by kernel_rfl) rfl (fun _ _ _ h => h) (Or.inl ⟨by rfl, ?y18u154⟩) hHeld ?r18u154
            case y18u154 => (intro W hSW; (try dsimp only at hSW); go_simp; try with_reducible rfl)
            simp only [Act.put, List.setIfInBounds_toArray, List.set_cons_zero, List.set_cons_succ]
            refine wpAnyH_ready (rs := [17]) (by kernel_rfl) (by simp) ?_
            refine AllReadyH.cons rfl (fun K hK => ?_) AllReadyH.nil
            go_simp
            with_reducible refine (Match_c HTd.out e _ hHeld hHeld.size).mono ?_
            rw [HRd.out, M2.out, Bool.true_and]
            rintro e' wn ⟨rfl, hbn⟩
            have hkn := hHeld.trans (hbn.mono hHeld.size)
            clear hbn
            refine hK.out _ _ hkn (fun hHeld => ?_)
            clear hK K
            try simp only [Act.put, List.setIfInBounds_toArray, List.set_cons_zero, List.set_cons_succ]
            refine takeH 19 (v := ?v19u155) rfl (by kernel_rfl) (by kernel_rfl) (by kernel_rfl) rfl (fun _ _ _ h => h) (Or.inl ⟨by rfl, ?y19u155⟩) hHeld ?r19u155
            case y19u155 => (intro W hSW; (try dsimp only at hSW); go_simp; try with_reducible rfl)
            simp only [Act.put, List.setIfInBounds_toArray, List.set_cons_zero, List.set_cons_succ]
            refine takeH 20 (v := ?v20u156) rfl (by kernel_rfl) (by kernel_rfl) (by kernel_rfl) rfl (fun _ _ _ h => h) (Or.inl ⟨by rfl, ?y20u156⟩) hHeld ?r20u156
            case y20u156 => (intro W hSW; (try dsimp only at hSW); go_simp; try with_reducible rfl)
            simp only [Act.put, List.setIfInBounds_toArray, List.set_cons_zero, List.set_cons_succ]
            refine takeH 21 (v := ?v21u157) rfl (by kernel_rfl) (by kernel_rfl) (by kernel_rfl) rfl (fun _ _ _ h => h) (Or.inl ⟨by rfl, ?y21u157⟩) hHeld ?r21u157
            case y21u157 => (intro W hSW; (try dsimp only at hSW); go_simp; try with_reducible rfl)
            simp only [Act.put, List.setIfInBounds_toArray, List.set_cons_zero, List.set_cons_succ]
            refine takeH 22 (v := ?v22u158) rfl (by kernel_rfl) (by kernel_rfl) (by kernel_rfl) rfl (fun _ _ _ h => h) (Or.inl ⟨by rfl, ?y22u158⟩) hHeld ?r22u158
            case y22u158 => (intro W hSW; (try dsimp only at hSW); go_simp; try with_reducible rfl)
            simp only [Act.put, List.setIfInBounds_toArray, List.set_cons_zero, List.set_cons_succ]
            refine takeH 23 (v := ?v23u159) rfl (by kernel_rfl) (by kernel_rfl) (by kernel_rfl) rfl (fun _ _ _ h => h) (Or.inl ⟨by rfl, ?y23u159⟩) hHeld ?r23u159
            case y23u159 => (intro W hSW; (try dsimp only at hSW); go_simp; try with_reducible rfl)
            simp only [Act.put, List.setIfInBounds_toArray, List.set_cons_zero, List.set_cons_succ]
            refine takeH 24 (v := ?v24u160) rfl (by kernel_rfl) (by kernel_rfl) (by kernel_rfl) rfl (fun _ _ _ h => h) (Or.inl ⟨by rfl, ?y24u160⟩) hHeld ?r24u160
            case y24u160 => (intro W hSW; (try dsimp only at hSW); go_simp; try with_reducible rfl)
            simp only [Act.put, List.setIfInBounds_toArray, List.set_cons_zero, List.set_cons_succ]
            refine takeH 25 (v := ?v25u161) rfl (by kernel_rfl) (by kernel_rfl) (by kernel_rfl) rfl (fun _ _ _ h => h) (Or.inl ⟨by rfl, ?y25u161⟩) hHeld ?r25u161
            case y25u161 => (intro W hSW; (try dsimp only at hSW); have q0 := (HKX.out.next hSW).cell 2 rfl 0; have q1 := (HKX.out.next hSW).cell 2 rfl 1; have q2 := (HKX.out.next hSW).cell 2 rfl 2; have q3 := (HKX.out.next hSW).cell 2 rfl 3; have q4 := (HKX.out.next hSW).cell 2 rfl 4; simp only [List.getElem?_toArray, List.getElem?_cons_zero, List.getElem?_cons_succ] at q0 q1 q2 q3 q4; go_simp; try with_reducible rfl)
            simp only [Act.put, List.setIfInBounds_toArray, List.set_cons_zero, List.set_cons_succ]
            refine takeH 26 (v := ?v26u162) rfl (by kernel_rfl) (by kernel_rfl) (by kernel_rfl) rfl (fun _ _ _ h => h) (Or.inl ⟨by rfl, ?y26u162⟩) hHeld ?r26u162
            case y26u162 => (intro W hSW; (try dsimp only at hSW); go_simp; try with_reducible rfl)
            simp only [Act.put, List.setIfInBounds_toArray, List.set_cons_zero, List.set_cons_succ]
            refine takeH 27 (v := ?v27u163) rfl (by kernel_rfl) (by kernel_rfl) (by kernel_rfl) rfl (fun _ _ _ h => h) (Or.inl ⟨by rfl, ?y27u163⟩) hHeld ?r27u163
            case y27u163 => (intro W hSW; (try dsimp only at hSW); go_simp; try with_reducible rfl)
            simp only [Act.put, List.setIfInBounds_toArray, List.set_cons_zero, List.set_cons_succ]
            refine takeH 28 (v := ?v28u164) rfl (by kernel_rfl) (by kernel_rfl) (by kernel_rfl) rfl (fun _ _ _ h => h) (Or.inl ⟨by rfl, ?y28u164⟩) hHeld ?r28u164
            case y28u164 => (intro W hSW; (try dsimp only at hSW); go_simp; try with_reducible rfl)
            simp only [Act.put, List.setIfInBounds_toArray, List.set_cons_zero, List.set_cons_succ]
            refine takeH 29 (v := ?v29u165) rfl (by kernel_rfl) (by kernel_rfl) (by kernel_rfl) rfl (fun _ _ _ h => h) (Or.inl ⟨by rfl, ?y29u165⟩) hHeld ?r29u165
            case y29u165 => (intro W hSW; (try dsimp only at hSW); have q0 := ((HKX.out.next hSW).bel.cell (p := (ad.add (k * 7))) bl).trans d0; have q1 := ((HKX.out.next hSW).bel.cell (p := ⟨(ad.add (k * 7)).block, (ad.add (k * 7)).off + 1, none⟩) bl).trans d1; have q2 := ((HKX.out.next hSW).bel.cell (p := ⟨(ad.add (k * 7)).block, (ad.add (k * 7)).off + 2, none⟩) bl).trans d2; have q3 := ((HKX.out.next hSW).bel.cell (p := ⟨(ad.add (k * 7)).block, (ad.add (k * 7)).off + 3, none⟩) bl).trans d3; have q4 := ((HKX.out.next hSW).bel.cell (p := ⟨(ad.add (k * 7)).block, (ad.add (k * 7)).off + 4, none⟩) bl).trans d4; have q5 := ((HKX.out.next hSW).bel.cell (p := ⟨(ad.add (k * 7)).block, (ad.add (k * 7)).off + 5, none⟩) bl).trans d5; have q6 := ((HKX.out.next hSW).bel.cell (p := ⟨(ad.add (k * 7)).block, (ad.add (k * 7)).off + 6, none⟩) bl).trans d6; go_simp; try with_reducible rfl)
            simp only [Act.put, List.setIfInBounds_toArray, List.set_cons_zero, List.set_cons_succ]
            refine takeH 31 (v := ?v31u166) rfl (by kernel_rfl) (by kernel_rfl) (by kernel_rfl) rfl (fun _ _ _ h => h) (Or.inl ⟨by rfl, ?y31u166⟩) hHeld ?r31u166
            case y31u166 => (intro W hSW; (try dsimp only at hSW); go_simp; try with_reducible rfl)
            simp only [Act.put, List.setIfInBounds_toArray, List.set_cons_zero, List.set_cons_succ]
            refine wpAnyH_ready (rs := [30]) (by kernel_rfl) (by simp) ?_
            refine AllReadyH.cons rfl (fun K hK => ?_) AllReadyH.nil
            go_simp
            with_reducible refine (Match_c HTs.out e _ hHeld hHeld.size).mono ?_
            rw [HRs.out, M3.out, Bool.true_and]
            rintro e' wn ⟨rfl, hbn⟩
            have hkn := hHeld.trans (hbn.mono hHeld.size)
            clear hbn
            refine hK.out _ _ hkn (fun hHeld => ?_)
            clear hK K
            try simp only [Act.put, List.setIfInBounds_toArray, List.set_cons_zero, List.set_cons_succ]
            refine takeH 32 (v := ?v32u167) rfl (by kernel_rfl) (by kernel_rfl) (by kernel_rfl) rfl (fun _ _ _ h => h) (Or.inl ⟨by rfl, ?y32u167⟩) hHeld ?r32u167
            case y32u167 => (intro W hSW; (try dsimp only at hSW); go_simp; try with_reducible rfl)
            simp only [Act.put, List.setIfInBounds_toArray, List.set_cons_zero, List.set_cons_succ]
            refine takeH 33 (v := undef) rfl (by kernel_rfl) (by kernel_rfl) (by kernel_rfl) rfl (fun _ _ _ h => h) (Or.inr ⟨by rfl, rfl⟩) hHeld ?_
            simp only [Act.put, List.setIfInBounds_toArray, List.set_cons_zero, List.set_cons_succ]
            refine takeH 34 (v := ?v34u168) rfl (by kernel_rfl) (by kernel_rfl) (by kernel_rfl) rfl (fun _ _ _ h => h) (Or.inl ⟨by rfl, ?y34u168⟩) hHeld ?r34u168
            case y34u168 => (intro W hSW; (try dsimp only at hSW); go_simp; try with_reducible rfl)
            simp only [Act.put, List.setIfInBounds_toArray, List.set_cons_zero, List.set_cons_succ]
            refine takeH 35 (v := ?v35u169) rfl (by kernel_rfl) (by kernel_rfl) (by kernel_rfl) rfl (fun _ _ _ h => h) (Or.inl ⟨by rfl, ?y35u169⟩) hHeld ?r35u169
            case y35u169 => (intro W hSW; (try dsimp only at hSW); go_simp; try with_reducible rfl)
            simp only [Act.put, List.setIfInBounds_toArray, List.set_cons_zero, List.set_cons_succ]
            refine takeH 36 (v := ?v36u170) rfl (by kernel_rfl) (by kernel_rfl) (by kernel_rfl) rfl (fun _ _ _ h => h) (Or.inl ⟨by rfl, ?y36u170⟩) hHeld ?r36u170
            case y36u170 => (intro W hSW; (try dsimp only at hSW); go_simp; try with_reducible rfl)
            simp only [Act.put, List.setIfInBounds_toArray, List.set_cons_zero, List.set_cons_succ]
            refine takeH 37 (v := ?v37u171) rfl (by kernel_rfl) (by kernel_rfl) (by kernel_rfl) rfl (fun _ _ _ h => h) (Or.inl ⟨by rfl, ?y37u171⟩) hHeld ?r37u171
            case y37u171 => (intro W hSW; (try dsimp only at hSW); go_simp; try with_reducible rfl)
            simp only [Act.put, List.setIfInBounds_toArray, List.set_cons_zero, List.set_cons_succ]
            refine takeH 38 (v := ?v38u172) rfl (by kernel_rfl) (by kernel_rfl) (by kernel_rfl) rfl (fun _ _ _ h => h) (Or.inl ⟨by rfl, ?y38u172⟩) hHeld ?r38u172
            case y38u172 => (intro W hSW; (try dsimp only at hSW); have q0 := (HKX.out.next hSW).cell 1 rfl 0; have q1 := (HKX.out.next hSW).cell 1 rfl 1; have q2 := (HKX.out.next hSW).cell 1 rfl 2; have q3 := (HKX.out.next hSW).cell 1 rfl 3; have q4 := (HKX.out.next hSW).cell 1 rfl 4; simp only [List.getElem?_toArray, List.getElem?_cons_zero, List.getElem?_cons_succ] at q0 q1 q2 q3 q4; go_simp; try with_reducible rfl)
            simp only [Act.put, List.setIfInBounds_toArray, List.set_cons_zero, List.set_cons_succ]
            refine takeH 39 (v := ?v39u173) rfl (by kernel_rfl) (by kernel_rfl) (by kernel_rfl) rfl (fun _ _ _ h => h) (Or.inl ⟨by rfl, ?y39u173⟩) hHeld ?r39u173
            case y39u173 => (intro W hSW; (try dsimp only at hSW); go_simp; try with_reducible rfl)
            simp only [Act.put, List.setIfInBounds_toArray, List.set_cons_zero, List.set_cons_succ]
            refine takeH 40 (v := ?v40u174) rfl (by kernel_rfl) (by kernel_rfl) (by kernel_rfl) rfl (fun _ _ _ h => h) (Or.inl ⟨by rfl, ?y40u174⟩) hHeld ?r40u174
            case y40u174 => (intro W hSW; (try dsimp only at hSW); go_simp; try with_reducible rfl)
            simp only [Act.put, List.setIfInBounds_toArray, List.set_cons_zero, List.set_cons_succ]
            refine takeH 41 (v := ?v41u175) rfl (by kernel_rfl) (by kernel_rfl) (by kernel_rfl) rfl (fun _ _ _ h => h) (Or.inl ⟨by rfl, ?y41u175⟩) hHeld ?r41u175
            case y41u175 => (intro W hSW; (try dsimp only at hSW); go_simp; try with_reducible rfl)
            simp only [Act.put, List.setIfInBounds_toArray, List.set_cons_zero, List.set_cons_succ]
            refine takeH 42 (v := ?v42u176) rfl (by kernel_rfl) (by kernel_rfl) (by kernel_rfl) rfl (fun _ _ _ h => h) (Or.inl ⟨by rfl, ?y42u176⟩) hHeld ?r42u176
            case y42u176 => (intro W hSW; (try dsimp only at hSW); have q0 := ((HKX.out.next hSW).bel.cell (p := (ad.add (k * 7))) bl).trans d0; have q1 := ((HKX.out.next hSW).bel.cell (p := ⟨(ad.add (k * 7)).block, (ad.add (k * 7)).off + 1, none⟩) bl).trans d1; have q2 := ((HKX.out.next hSW).bel.cell (p := ⟨(ad.add (k * 7)).block, (ad.add (k * 7)).off + 2, none⟩) bl).trans d2; have q3 := ((HKX.out.next hSW).bel.cell (p := ⟨(ad.add (k * 7)).block, (ad.add (k * 7)).off + 3, none⟩) bl).trans d3; have q4 := ((HKX.out.next hSW).bel.cell (p := ⟨(ad.add (k * 7)).block, (ad.add (k * 7)).off + 4, none⟩) bl).trans d4; have q5 := ((HKX.out.next hSW).bel.cell (p := ⟨(ad.add (k * 7)).block, (ad.add (k * 7)).off + 5, none⟩) bl).trans d5; have q6 := ((HKX.out.next hSW).bel.cell (p := ⟨(ad.add (k * 7)).block, (ad.add (k * 7)).off + 6, none⟩) bl).trans d6; go_simp; try with_reducible rfl)
            simp only [Act.put, List.setIfInBounds_toArray, List.set_cons_zero, List.set_cons_succ]
            refine takeH 44 (v := ?v44u177) rfl (by kernel_rfl) (by kernel_rfl) (by kernel_rfl) rfl (fun _ _ _ h => h) (Or.inl ⟨by rfl, ?y44u177⟩) hHeld ?r44u177
            case y44u177 => (intro W hSW; (try dsimp only at hSW); go_simp; try with_reducible rfl)
            simp only [Act.put, List.setIfInBounds_toArray, List.set_cons_zero, List.set_cons_succ]
            refine takeH 45 (v := ?v45u178) rfl (by kernel_rfl) (by kernel_rfl) (by kernel_rfl) rfl (fun _ _ _ h => h) (Or.inl ⟨by rfl, ?y45u178⟩) hHeld ?r45u178
            case y45u178 => (intro W hSW; (try dsimp only at hSW); go_simp; try with_reducible rfl)
            simp only [Act.put, List.setIfInBounds_toArray, List.set_cons_zero, List.set_cons_succ]
            refine wpAnyH_ready (rs := [43]) (by kernel_rfl) (by simp) ?_
            refine AllReadyH.cons rfl (fun K hK => ?_) AllReadyH.nil
            go_simp
            with_reducible refine (Match_c HTn.out e _ hHeld hHeld.size).mono ?_
            rw [HRn.out, M4.out, Bool.true_and]
            rintro e' wn ⟨rfl, hbn⟩
            have hkn := hHeld.trans (hbn.mono hHeld.size)
            clear hbn
            refine hK.out _ _ hkn (fun hHeld => ?_)
            clear hK K
            try simp only [Act.put, List.setIfInBounds_toArray, List.set_cons_zero, List.set_cons_succ]
            refine takeH 46 (v := ?v46u179) rfl (by kernel_rfl) (by kernel_rfl) (by kernel_rfl) rfl (fun _ _ _ h => h) (Or.inl ⟨by rfl, ?y46u179⟩) hHeld ?r46u179
            case y46u179 => (intro W hSW; (try dsimp only at hSW); go_simp; try with_reducible rfl)
            simp only [Act.put, List.setIfInBounds_toArray, List.set_cons_zero, List.set_cons_succ]
            refine takeH 47 (v := undef) rfl (by kernel_rfl) (by kernel_rfl) (by kernel_rfl) rfl (fun _ _ _ h => h) (Or.inr ⟨by rfl, rfl⟩) hHeld ?_
            simp only [Act.put, List.setIfInBounds_toArray, List.set_cons_zero, List.set_cons_succ]
            refine takeH 48 (v := undef) rfl (by kernel_rfl) (by kernel_rfl) (by kernel_rfl) rfl (fun _ _ _ h => h) (Or.inr ⟨by rfl, rfl⟩) hHeld ?_
            simp only [Act.put, List.setIfInBounds_toArray, List.set_cons_zero, List.set_cons_succ]
            refine takeH 49 (v := ?v49u180) rfl (by kernel_rfl) (by kernel_rfl) (by kernel_rfl) rfl (fun _ _ _ h => h) (Or.inl ⟨by rfl, ?y49u180⟩) hHeld ?r49u180
            case y49u180 => (intro W hSW; (try dsimp only at hSW); go_simp; try with_reducible rfl)
            simp only [Act.put, List.setIfInBounds_toArray, List.set_cons_zero, List.set_cons_succ]
            refine takeH 50 (v := ?v50u181) rfl (by kernel_rfl) (by kernel_rfl) (by kernel_rfl) rfl (fun _ _ _ h => h) (Or.inl ⟨by rfl, ?y50u181⟩) hHeld ?r50u181
            case y50u181 => (intro W hSW; (try dsimp only at hSW); go_simp; try with_reducible rfl)
            simp only [Act.put, List.setIfInBounds_toArray, List.set_cons_zero, List.set_cons_succ]
            refine takeH 51 (v := ?v51u182) rfl (by kernel_rfl) (by kernel_rfl) (by kernel_rfl) rfl (fun _ _ _ h => h) (Or.inl ⟨by rfl, ?y51u182⟩) hHeld ?r51u182
            case y51u182 => (intro W hSW; (try dsimp only at hSW); go_simp; try with_reducible rfl)
            simp only [Act.put, List.setIfInBounds_toArray, List.set_cons_zero, List.set_cons_succ]
            refine takeH 52 (v := ?v52u183) rfl (by kernel_rfl) (by kernel_rfl) (by kernel_rfl) rfl (fun _ _ _ h => h) (Or.inl ⟨by rfl, ?y52u183⟩) hHeld ?r52u183
            case y52u183 => (intro W hSW; (try dsimp only at hSW); go_simp; try with_reducible rfl)
            simp only [Act.put, List.setIfInBounds_toArray, List.set_cons_zero, List.set_cons_succ]
            refine takeH 53 (v := ?v53u184) rfl (by kernel_rfl) (by kernel_rfl) (by kernel_rfl) rfl (fun _ _ _ h => h) (Or.inl ⟨by rfl, ?y53u184⟩) hHeld ?r53u184
            case y53u184 => (intro W hSW; (try dsimp only at hSW); have q0 := (HKX.out.next hSW).cell 0 rfl 0; have q1 := (HKX.out.next hSW).cell 0 rfl 1; have q2 := (HKX.out.next hSW).cell 0 rfl 2; have q3 := (HKX.out.next hSW).cell 0 rfl 3; have q4 := (HKX.out.next hSW).cell 0 rfl 4; simp only [List.getElem?_toArray, List.getElem?_cons_zero, List.getElem?_cons_succ] at q0 q1 q2 q3 q4; go_simp; try with_reducible rfl)
            simp only [Act.put, List.setIfInBounds_toArray, List.set_cons_zero, List.set_cons_succ]
            refine takeH 54 (v := ?v54u185) rfl (by kernel_rfl) (by kernel_rfl) (by kernel_rfl) rfl (fun _ _ _ h => h) (Or.inl ⟨by rfl, ?y54u185⟩) hHeld ?r54u185
            case y54u185 => (intro W hSW; (try dsimp only at hSW); go_simp; try with_reducible rfl)
            simp only [Act.put, List.setIfInBounds_toArray, List.set_cons_zero, List.set_cons_succ]
            refine takeH 55 (v := ?v55u186) rfl (by kernel_rfl) (by kernel_rfl) (by kernel_rfl) rfl (fun _ _ _ h => h) (Or.inl ⟨by rfl, ?y55u186⟩) hHeld ?r55u186
            case y55u186 => (intro W hSW; (try dsimp only at hSW); go_simp; try with_reducible rfl)
            simp only [Act.put, List.setIfInBounds_toArray, List.set_cons_zero, List.set_cons_succ]
            refine takeH 56 (v := ?v56u187) rfl (by kernel_rfl) (by kernel_rfl) (by kernel_rfl) rfl (fun _ _ _ h => h) (Or.inl ⟨by rfl, ?y56u187⟩) hHeld ?r56u187
            case y56u187 => (intro W hSW; (try dsimp only at hSW); go_simp; try with_reducible rfl)
            simp only [Act.put, List.setIfInBounds_toArray, List.set_cons_zero, List.set_cons_succ]
            refine takeH 57 (v := ?v57u188) rfl (by kernel_rfl) (by kernel_rfl) (by kernel_rfl) rfl (fun _ _ _ h => h) (Or.inl ⟨by rfl, ?y57u188⟩) hHeld ?r57u188
            case y57u188 => (intro W hSW; (try dsimp only at hSW); have q0 := ((HKX.out.next hSW).bel.cell (p := (ad.add (k * 7))) bl).trans d0; have q1 := ((HKX.out.next hSW).bel.cell (p := ⟨(ad.add (k * 7)).block, (ad.add (k * 7)).off + 1, none⟩) bl).trans d1; have q2 := ((HKX.out.next hSW).bel.cell (p := ⟨(ad.add (k * 7)).block, (ad.add (k * 7)).off + 2, none⟩) bl).trans d2; have q3 := ((HKX.out.next hSW).bel.cell (p := ⟨(ad.add (k * 7)).block, (ad.add (k * 7)).off + 3, none⟩) bl).trans d3; have q4 := ((HKX.out.next hSW).bel.cell (p := ⟨(ad.add (k * 7)).block, (ad.add (k * 7)).off + 4, none⟩) bl).trans d4; have q5 := ((HKX.out.next hSW).bel.cell (p := ⟨(ad.add (k * 7)).block, (ad.add (k * 7)).off + 5, none⟩) bl).trans d5; have q6 := ((HKX.out.next hSW).bel.cell (p := ⟨(ad.add (k * 7)).block, (ad.add (k * 7)).off + 6, none⟩) bl).trans d6; go_simp; try with_reducible rfl)
            simp only [Act.put, List.setIfInBounds_toArray, List.set_cons_zero, List.set_cons_succ]
            refine takeH 59 (v := ?v59u189) rfl (by kernel_rfl) (by kernel_rfl) (by kernel_rfl) rfl (fun _ _ _ h => h) (Or.inl ⟨by rfl, ?y59u189⟩) hHeld ?r59u189
            case y59u189 => (intro W hSW; (try dsimp only at hSW); go_simp; try with_reducible rfl)
            simp only [Act.put, List.setIfInBounds_toArray, List.set_cons_zero, List.set_cons_succ]
            refine wpAnyH_ready (rs := [58]) (by kernel_rfl) (by simp) ?_
            refine AllReadyH.cons rfl (fun K hK => ?_) AllReadyH.nil
            go_simp
            with_reducible refine (Match_c HTo.out e _ hHeld hHeld.size).mono ?_
            rw [HRo.out, M5.out, Bool.true_and]
            rintro e' wn ⟨rfl, hbn⟩
            have hkn := hHeld.trans (hbn.mono hHeld.size)
            clear hbn
            refine hK.out _ _ hkn (fun hHeld => ?_)
            clear hK K
            try simp only [Act.put, List.setIfInBounds_toArray, List.set_cons_zero, List.set_cons_succ]
            refine takeH 60 (v := ?v60u190) rfl (by kernel_rfl) (by kernel_rfl) (by kernel_rfl) rfl (fun _ _ _ h => h) (Or.inl ⟨by rfl, ?y60u190⟩) hHeld ?r60u190
            case y60u190 => (intro W hSW; (try dsimp only at hSW); go_simp; try with_reducible rfl)
            simp only [Act.put, List.setIfInBounds_toArray, List.set_cons_zero, List.set_cons_succ]
            refine takeH 61 (v := ?v61u191) rfl (by kernel_rfl) (by kernel_rfl) (by kernel_rfl) rfl (fun _ _ _ h => h) (Or.inl ⟨by rfl, ?y61u191⟩) hHeld ?r61u191
            case y61u191 => (intro W hSW; (try dsimp only at hSW); go_simp; try with_reducible rfl)
            simp only [Act.put, List.setIfInBounds_toArray, List.set_cons_zero, List.set_cons_succ]
            refine wpAnyH_done (by kernel_rfl) ?_ _
            refine NoPanic.normal ?_
            have HBo := Lib.hid hHeld
            clear hHeld HBn d0 d1 d2 d3 d4 d5 d6 M1 M2 M3 M4 M5
            go_wp2
            exact ⟨⟨k + 1, by omega, rfl, HBo⟩, by simp [intOf]; omega⟩
          · have M1 := Lib.hid (show meansF (FT.mk 6 0 0 nE [t, u]) e = true from by rw [m_and, hma, hmu]; rfl)
            have M2 := Lib.hid (show meansF (FT.mk 6 0 0 nE [u, t]) e = true from by rw [m_and, hma, hmu]; rfl)
            have M3 := Lib.hid (show meansF (FT.mk 7 0 0 nE [t, u]) e = true from by rw [m_or, hma, hmu]; rfl)
            have M4 := Lib.hid (show meansF (FT.mk 8 0 0 nE [.mk 7 0 0 nE [u, t]]) e = false from by rw [m_none, hma, hmu]; rfl)
            have M5 := Lib.hid (show meansF (FT.mk 7 0 0 nE [.mk 6 0 0 nE [t]]) e = true from by rw [m_one, hma])
            clear hma hmu
            go_wp2_with fail
            refine wp_region_noPanic ?_
            refine wp_region_held_drew (S := fun W' => Below wx.heap.size wx W') (by kernel_rfl) HBn.out.drew (fun hHeld => ?_)
            refine takeH 0 (v := ?v0u192) rfl (by kernel_rfl) (by kernel_rfl) (by kernel_rfl) rfl (fun _ _ _ h => h) (Or.inl ⟨by rfl, ?y0u192⟩) hHeld ?r0u192
            case y0u192 => (intro W hSW; (try dsimp only at hSW); have q0 := (HKX.out.next hSW).cell 4 rfl 0; have q1 := (HKX.out.next hSW).cell 4 rfl 1; have q2 := (HKX.out.next hSW).cell 4 rfl 2; have q3 := (HKX.out.next hSW).cell 4 rfl 3; have q4 := (HKX.out.next hSW).cell 4 rfl 4; simp only [List.getElem?_toArray, List.getElem?_cons_zero, List.getElem?_cons_succ] at q0 q1 q2 q3 q4; go_simp; try with_reducible rfl)
            simp only [Act.put, List.setIfInBounds_toArray, List.set_cons_zero, List.set_cons_succ]
            refine takeH 1 (v := ?v1u193) rfl (by kernel_rfl) (by kernel_rfl) (by kernel_rfl) rfl (fun _ _ _ h => h) (Or.inl ⟨by rfl, ?y1u193⟩) hHeld ?r1u193
            case y1u193 => (intro W hSW; (try dsimp only at hSW); go_simp; try with_reducible rfl)
            simp only [Act.put, List.setIfInBounds_toArray, List.set_cons_zero, List.set_cons_succ]
            refine takeH 2 (v := ?v2u194) rfl (by kernel_rfl) (by kernel_rfl) (by kernel_rfl) rfl (fun _ _ _ h => h) (Or.inl ⟨by rfl, ?y2u194⟩) hHeld ?r2u194
            case y2u194 => (intro W hSW; (try dsimp only at hSW); go_simp; try with_reducible rfl)
            simp only [Act.put, List.setIfInBounds_toArray, List.set_cons_zero, List.set_cons_succ]
            refine takeH 3 (v := ?v3u195) rfl (by kernel_rfl) (by kernel_rfl) (by kernel_rfl) rfl (fun _ _ _ h => h) (Or.inl ⟨by rfl, ?y3u195⟩) hHeld ?r3u195
            case y3u195 => (intro W hSW; (try dsimp only at hSW); go_simp; try with_reducible rfl)
            simp only [Act.put, List.setIfInBounds_toArray, List.set_cons_zero, List.set_cons_succ]
            refine takeH 4 (v := ?v4u196) rfl (by kernel_rfl) (by kernel_rfl) (by kernel_rfl) rfl (fun _ _ _ h => h) (Or.inl ⟨by rfl, ?y4u196⟩) hHeld ?r4u196
            case y4u196 => (intro W hSW; (try dsimp only at hSW); have q0 := ((HKX.out.next hSW).bel.cell (p := (ad.add (k * 7))) bl).trans d0; have q1 := ((HKX.out.next hSW).bel.cell (p := ⟨(ad.add (k * 7)).block, (ad.add (k * 7)).off + 1, none⟩) bl).trans d1; have q2 := ((HKX.out.next hSW).bel.cell (p := ⟨(ad.add (k * 7)).block, (ad.add (k * 7)).off + 2, none⟩) bl).trans d2; have q3 := ((HKX.out.next hSW).bel.cell (p := ⟨(ad.add (k * 7)).block, (ad.add (k * 7)).off + 3, none⟩) bl).trans d3; have q4 := ((HKX.out.next hSW).bel.cell (p := ⟨(ad.add (k * 7)).block, (ad.add (k * 7)).off + 4, none⟩) bl).trans d4; have q5 := ((HKX.out.next hSW).bel.cell (p := ⟨(ad.add (k * 7)).block, (ad.add (k * 7)).off + 5, none⟩) bl).trans d5; have q6 := ((HKX.out.next hSW).bel.cell (p := ⟨(ad.add (k * 7)).block, (ad.add (k * 7)).off + 6, none⟩) bl).trans d6; go_simp; try with_reducible rfl)
            simp only [Act.put, List.setIfInBounds_toArray, List.set_cons_zero, List.set_cons_succ]
            refine takeH 6 (v := ?v6u197) rfl (by kernel_rfl) (by kernel_rfl) (by kernel_rfl) rfl (fun _ _ _ h => h) (Or.inl ⟨by rfl, ?y6u197⟩) hHeld ?r6u197
            case y6u197 => (intro W hSW; (try dsimp only at hSW); go_simp; try with_reducible rfl)
            simp only [Act.put, List.setIfInBounds_toArray, List.set_cons_zero, List.set_cons_succ]
            refine wpAnyH_ready (rs := [5]) (by kernel_rfl) (by simp) ?_
            refine AllReadyH.cons rfl (fun K hK => ?_) AllReadyH.nil
            go_simp
            with_reducible refine (Match_c HTb.out e _ hHeld hHeld.size).mono ?_
            rw [HRb.out, M1.out, Bool.true_and]
            rintro e' wn ⟨rfl, hbn⟩
            have hkn := hHeld.trans (hbn.mono hHeld.size)
            clear hbn
            refine hK.out _ _ hkn (fun hHeld => ?_)
            clear hK K
            try simp only [Act.put, List.setIfInBounds_toArray, List.set_cons_zero, List.set_cons_succ]
            refine takeH 7 (v := ?v7u198) rfl (by kernel_rfl) (by kernel_rfl) (by kernel_rfl) rfl (fun _ _ _ h => h) (Or.inl ⟨by rfl, ?y7u198⟩) hHeld ?r7u198
            case y7u198 => (intro W hSW; (try dsimp only at hSW); go_simp; try with_reducible rfl)
            simp only [Act.put, List.setIfInBounds_toArray, List.set_cons_zero, List.set_cons_succ]
            refine takeH 8 (v := ?v8u199) rfl (by kernel_rfl) (by kernel_rfl) (by kernel_rfl) rfl (fun _ _ _ h => h) (Or.inl ⟨by rfl, ?y8u199⟩) hHeld ?r8u199
            case y8u199 => (intro W hSW; (try dsimp only at hSW); go_simp; try with_reducible rfl)
            simp only [Act.put, List.setIfInBounds_toArray, List.set_cons_zero, List.set_cons_succ]
            refine takeH 9 (v := ?v9u200) rfl (by kernel_rfl) (by kernel_rfl) (by kernel_rfl) rfl (fun _ _ _ h => h) (Or.inl ⟨by rfl, ?y9u200⟩) hHeld ?r9u200
            case y9u200 => (intro W hSW; (try dsimp only at hSW); go_simp; try with_reducible rfl)
            simp only [Act.put, List.setIfInBounds_toArray, List.set_cons_zero, List.set_cons_succ]
            refine takeH 10 (v := ?v10u201) rfl (by kernel_rfl) (by kernel_rfl) (by kernel_rfl) rfl (fun _ _ _ h => h) (Or.inl ⟨by rfl, ?y10u201⟩) hHeld ?r10u201
            case y10u201 => (intro W hSW; (try dsimp only at hSW); go_simp; try with_reducible rfl)
            simp only [Act.put, List.setIfInBounds_toArray, List.set_cons_zero, List.set_cons_succ]
            refine takeH 11 (v := ?v11u202) rfl (by kernel_rfl) (by kernel_rfl) (by kernel_rfl) rfl (fun _ _ _ h => h) (Or.inl ⟨by rfl, ?y11u202⟩) hHeld ?r11u202
            case y11u202 => (intro W hSW; (try dsimp only at hSW); go_simp; try with_reducible rfl)
            simp only [Act.put, List.setIfInBounds_toArray, List.set_cons_zero, List.set_cons_succ]
            refine takeH 12 (v := ?v12u203) rfl (by kernel_rfl) (by kernel_rfl) (by kernel_rfl) rfl (fun _ _ _ h => h) (Or.inl ⟨by rfl, ?y12u203⟩) hHeld ?r12u203
            case y12u203 => (intro W hSW; (try dsimp only at hSW); have q0 := (HKX.out.next hSW).cell 3 rfl 0; have q1 := (HKX.out.next hSW).cell 3 rfl 1; have q2 := (HKX.out.next hSW).cell 3 rfl 2; have q3 := (HKX.out.next hSW).cell 3 rfl 3; have q4 := (HKX.out.next hSW).cell 3 rfl 4; simp only [List.getElem?_toArray, List.getElem?_cons_zero, List.getElem?_cons_succ] at q0 q1 q2 q3 q4; go_simp; try with_reducible rfl)
            simp only [Act.put, List.setIfInBounds_toArray, List.set_cons_zero, List.set_cons_succ]
            refine takeH 13 (v := ?v13u204) rfl (by kernel_rfl) (by kernel_rfl) (by kernel_rfl) rfl (fun _ _ _ h => h) (Or.inl ⟨by rfl, ?y13u204⟩) hHeld ?r13u204
            case y13u204 => (intro W hSW; (try dsimp only at hSW); go_simp; try with_reducible rfl)
            simp only [Act.put, List.setIfInBounds_toArray, List.set_cons_zero, List.set_cons_succ]
            refine takeH 14 (v := ?v14u205) rfl (by kernel_rfl) (by kernel_rfl) (by kernel_rfl) rfl (fun _ _ _ h => h) (Or.inl ⟨by rfl, ?y14u205⟩) hHeld ?r14u205
            case y14u205 => (intro W hSW; (try dsimp only at hSW); go_simp; try with_reducible rfl)
            simp only [Act.put, List.setIfInBounds_toArray, List.set_cons_zero, List.set_cons_succ]
            refine takeH 15 (v := ?v15u206) rfl (by kernel_rfl) (by kernel_rfl) (by kernel_rfl) rfl (fun _ _ _ h => h) (Or.inl ⟨by rfl, ?y15u206⟩) hHeld ?r15u206
            case y15u206 => (intro W hSW; (try dsimp only at hSW); go_simp; try with_reducible rfl)
            simp only [Act.put, List.setIfInBounds_toArray, List.set_cons_zero, List.set_cons_succ]
            refine takeH 16 (v := ?v16u207) rfl (by kernel_rfl) (by kernel_rfl) (by kernel_rfl) rfl (fun _ _ _ h => h) (Or.inl ⟨by rfl, ?y16u207⟩) hHeld ?r16u207
            case y16u207 => (intro W hSW; (try dsimp only at hSW); have q0 := ((HKX.out.next hSW).bel.cell (p := (ad.add (k * 7))) bl).trans d0; have q1 := ((HKX.out.next hSW).bel.cell (p := ⟨(ad.add (k * 7)).block, (ad.add (k * 7)).off + 1, none⟩) bl).trans d1; have q2 := ((HKX.out.next hSW).bel.cell (p := ⟨(ad.add (k * 7)).block, (ad.add (k * 7)).off + 2, none⟩) bl).trans d2; have q3 := ((HKX.out.next hSW).bel.cell (p := ⟨(ad.add (k * 7)).block, (ad.add (k * 7)).off + 3, none⟩) bl).trans d3; have q4 := ((HKX.out.next hSW).bel.cell (p := ⟨(ad.add (k * 7)).block, (ad.add (k * 7)).off + 4, none⟩) bl).trans d4; have q5 := ((HKX.out.next hSW).bel.cell (p := ⟨(ad.add (k * 7)).block, (ad.add (k * 7)).off + 5, none⟩) bl).trans d5; have q6 := ((HKX.out.next hSW).bel.cell (p := ⟨(ad.add (k * 7)).block, (ad.add (k * 7)).off + 6, none⟩) bl).trans d6; go_simp; try with_reducible rfl)
            simp only [Act.put, List.setIfInBounds_toArray, List.set_cons_zero, List.set_cons_succ]
            refine takeH 18 (v := ?v18u208) rfl (by kernel_rfl) (by kernel_rfl) (by kernel_rfl) rfl (fun _ _ _ h => h) (Or.inl ⟨by rfl, ?y18u208⟩) hHeld ?r18u208
            case y18u208 => (intro W hSW; (try dsimp only at hSW); go_simp; try with_reducible rfl)
            simp only [Act.put, List.setIfInBounds_toArray, List.set_cons_zero, List.set_cons_succ]
            refine wpAnyH_ready (rs := [17]) (by kernel_rfl) (by simp) ?_
            refine AllReadyH.cons rfl (fun K hK => ?_) AllReadyH.nil
            go_simp
            with_reducible refine (Match_c HTd.out e _ hHeld hHeld.size).mono ?_
            rw [HRd.out, M2.out, Bool.true_and]
            rintro e' wn ⟨rfl, hbn⟩
            have hkn := hHeld.trans (hbn.mono hHeld.size)
            clear hbn
            refine hK.out _ _ hkn (fun hHeld => ?_)
            clear hK K
            try simp only [Act.put, List.setIfInBounds_toArray, List.set_cons_zero, List.set_cons_succ]
            refine takeH 19 (v := ?v19u209) rfl (by kernel_rfl) (by kernel_rfl) (by kernel_rfl) rfl (fun _ _ _ h => h) (Or.inl ⟨by rfl, ?y19u209⟩) hHeld ?r19u209
            case y19u209 => (intro W hSW; (try dsimp only at hSW); go_simp; try with_reducible rfl)
            simp only [Act.put, List.setIfInBounds_toArray, List.set_cons_zero, List.set_cons_succ]
            refine takeH 20 (v := ?v20u210) rfl (by kernel_rfl) (by kernel_rfl) (by kernel_rfl) rfl (fun _ _ _ h => h) (Or.inl ⟨by rfl, ?y20u210⟩) hHeld ?r20u210
            case y20u210 => (intro W hSW; (try dsimp only at hSW); go_simp; try with_reducible rfl)
            simp only [Act.put, List.setIfInBounds_toArray, List.set_cons_zero, List.set_cons_succ]
            refine takeH 21 (v := ?v21u211) rfl (by kernel_rfl) (by kernel_rfl) (by kernel_rfl) rfl (fun _ _ _ h => h) (Or.inl ⟨by rfl, ?y21u211⟩) hHeld ?r21u211
            case y21u211 => (intro W hSW; (try dsimp only at hSW); go_simp; try with_reducible rfl)
            simp only [Act.put, List.setIfInBounds_toArray, List.set_cons_zero, List.set_cons_succ]
            refine takeH 22 (v := ?v22u212) rfl (by kernel_rfl) (by kernel_rfl) (by kernel_rfl) rfl (fun _ _ _ h => h) (Or.inl ⟨by rfl, ?y22u212⟩) hHeld ?r22u212
            case y22u212 => (intro W hSW; (try dsimp only at hSW); go_simp; try with_reducible rfl)
            simp only [Act.put, List.setIfInBounds_toArray, List.set_cons_zero, List.set_cons_succ]
            refine takeH 23 (v := ?v23u213) rfl (by kernel_rfl) (by kernel_rfl) (by kernel_rfl) rfl (fun _ _ _ h => h) (Or.inl ⟨by rfl, ?y23u213⟩) hHeld ?r23u213
            case y23u213 => (intro W hSW; (try dsimp only at hSW); go_simp; try with_reducible rfl)
            simp only [Act.put, List.setIfInBounds_toArray, List.set_cons_zero, List.set_cons_succ]
            refine takeH 24 (v := ?v24u214) rfl (by kernel_rfl) (by kernel_rfl) (by kernel_rfl) rfl (fun _ _ _ h => h) (Or.inl ⟨by rfl, ?y24u214⟩) hHeld ?r24u214
            case y24u214 => (intro W hSW; (try dsimp only at hSW); go_simp; try with_reducible rfl)
            simp only [Act.put, List.setIfInBounds_toArray, List.set_cons_zero, List.set_cons_succ]
            refine takeH 25 (v := ?v25u215) rfl (by kernel_rfl) (by kernel_rfl) (by kernel_rfl) rfl (fun _ _ _ h => h) (Or.inl ⟨by rfl, ?y25u215⟩) hHeld ?r25u215
            case y25u215 => (intro W hSW; (try dsimp only at hSW); have q0 := (HKX.out.next hSW).cell 2 rfl 0; have q1 := (HKX.out.next hSW).cell 2 rfl 1; have q2 := (HKX.out.next hSW).cell 2 rfl 2; have q3 := (HKX.out.next hSW).cell 2 rfl 3; have q4 := (HKX.out.next hSW).cell 2 rfl 4; simp only [List.getElem?_toArray, List.getElem?_cons_zero, List.getElem?_cons_succ] at q0 q1 q2 q3 q4; go_simp; try with_reducible rfl)
            simp only [Act.put, List.setIfInBounds_toArray, List.set_cons_zero, List.set_cons_succ]
            refine takeH 26 (v := ?v26u216) rfl (by kernel_rfl) (by kernel_rfl) (by kernel_rfl) rfl (fun _ _ _ h => h) (Or.inl ⟨by rfl, ?y26u216⟩) hHeld ?r26u216
            case y26u216 => (intro W hSW; (try dsimp only at hSW); go_simp; try with_reducible rfl)
            simp only [Act.put, List.setIfInBounds_toArray, List.set_cons_zero, List.set_cons_succ]
            refine takeH 27 (v := ?v27u217) rfl (by kernel_rfl) (by kernel_rfl) (by kernel_rfl) rfl (fun _ _ _ h => h) (Or.inl ⟨by rfl, ?y27u217⟩) hHeld ?r27u217
            case y27u217 => (intro W hSW; (try dsimp only at hSW); go_simp; try with_reducible rfl)
            simp only [Act.put, List.setIfInBounds_toArray, List.set_cons_zero, List.set_cons_succ]
            refine takeH 28 (v := ?v28u218) rfl (by kernel_rfl) (by kernel_rfl) (by kernel_rfl) rfl (fun _ _ _ h => h) (Or.inl ⟨by rfl, ?y28u218⟩) hHeld ?r28u218
            case y28u218 => (intro W hSW; (try dsimp only at hSW); go_simp; try with_reducible rfl)
            simp only [Act.put, List.setIfInBounds_toArray, List.set_cons_zero, List.set_cons_succ]
            refine takeH 29 (v := ?v29u219) rfl (by kernel_rfl) (by kernel_rfl) (by kernel_rfl) rfl (fun _ _ _ h => h) (Or.inl ⟨by rfl, ?y29u219⟩) hHeld ?r29u219
            case y29u219 => (intro W hSW; (try dsimp only at hSW); have q0 := ((HKX.out.next hSW).bel.cell (p := (ad.add (k * 7))) bl).trans d0; have q1 := ((HKX.out.next hSW).bel.cell (p := ⟨(ad.add (k * 7)).block, (ad.add (k * 7)).off + 1, none⟩) bl).trans d1; have q2 := ((HKX.out.next hSW).bel.cell (p := ⟨(ad.add (k * 7)).block, (ad.add (k * 7)).off + 2, none⟩) bl).trans d2; have q3 := ((HKX.out.next hSW).bel.cell (p := ⟨(ad.add (k * 7)).block, (ad.add (k * 7)).off + 3, none⟩) bl).trans d3; have q4 := ((HKX.out.next hSW).bel.cell (p := ⟨(ad.add (k * 7)).block, (ad.add (k * 7)).off + 4, none⟩) bl).trans d4; have q5 := ((HKX.out.next hSW).bel.cell (p := ⟨(ad.add (k * 7)).block, (ad.add (k * 7)).off + 5, none⟩) bl).trans d5; have q6 := ((HKX.out.next hSW).bel.cell (p := ⟨(ad.add (k * 7)).block, (ad.add (k * 7)).off + 6, none⟩) bl).trans d6; go_simp; try with_reducible rfl)
            simp only [Act.put, List.setIfInBounds_toArray, List.set_cons_zero, List.set_cons_succ]
            refine takeH 31 (v := ?v31u220) rfl (by kernel_rfl) (by kernel_rfl) (by kernel_rfl) rfl (fun _ _ _ h => h) (Or.inl ⟨by rfl, ?y31u220⟩) hHeld ?r31u220
            case y31u220 => (intro W hSW; (try dsimp only at hSW); go_simp; try with_reducible rfl)
            simp only [Act.put, List.setIfInBounds_toArray, List.set_cons_zero, List.set_cons_succ]
            refine wpAnyH_ready (rs := [30]) (by kernel_rfl) (by simp) ?_
            refine AllReadyH.cons rfl (fun K hK => ?_) AllReadyH.nil
            go_simp
            with_reducible refine (Match_c HTs.out e _ hHeld hHeld.size).mono ?_
            rw [HRs.out, M3.out, Bool.true_and]
            rintro e' wn ⟨rfl, hbn⟩
            have hkn := hHeld.trans (hbn.mono hHeld.size)
            clear hbn
            refine hK.out _ _ hkn (fun hHeld => ?_)
            clear hK K
            try simp only [Act.put, List.setIfInBounds_toArray, List.set_cons_zero, List.set_cons_succ]
            refine takeH 32 (v := ?v32u221) rfl (by kernel_rfl) (by kernel_rfl) (by kernel_rfl) rfl (fun _ _ _ h => h) (Or.inl ⟨by rfl, ?y32u221⟩) hHeld ?r32u221
            case y32u221 => (intro W hSW; (try dsimp only at hSW); go_simp; try with_reducible rfl)
            simp only [Act.put, List.setIfInBounds_toArray, List.set_cons_zero, List.set_cons_succ]
            refine takeH 33 (v := undef) rfl (by kernel_rfl) (by kernel_rfl) (by kernel_rfl) rfl (fun _ _ _ h => h) (Or.inr ⟨by rfl, rfl⟩) hHeld ?_
            simp only [Act.put, List.setIfInBounds_toArray, List.set_cons_zero, List.set_cons_succ]
            refine takeH 34 (v := ?v34u222) rfl (by kernel_rfl) (by kernel_rfl) (by kernel_rfl) rfl (fun _ _ _ h => h) (Or.inl ⟨by rfl, ?y34u222⟩) hHeld ?r34u222
            case y34u222 => (intro W hSW; (try dsimp only at hSW); go_simp; try with_reducible rfl)
            simp only [Act.put, List.setIfInBounds_toArray, List.set_cons_zero, List.set_cons_succ]
            refine takeH 35 (v := ?v35u223) rfl (by kernel_rfl) (by kernel_rfl) (by kernel_rfl) rfl (fun _ _ _ h => h) (Or.inl ⟨by rfl, ?y35u223⟩) hHeld ?r35u223
            case y35u223 => (intro W hSW; (try dsimp only at hSW); go_simp; try with_reducible rfl)
            simp only [Act.put, List.setIfInBounds_toArray, List.set_cons_zero, List.set_cons_succ]
            refine takeH 36 (v := ?v36u224) rfl (by kernel_rfl) (by kernel_rfl) (by kernel_rfl) rfl (fun _ _ _ h => h) (Or.inl ⟨by rfl, ?y36u224⟩) hHeld ?r36u224
            case y36u224 => (intro W hSW; (try dsimp only at hSW); go_simp; try with_reducible rfl)
            simp only [Act.put, List.setIfInBounds_toArray, List.set_cons_zero, List.set_cons_succ]
            refine takeH 37 (v := ?v37u225) rfl (by kernel_rfl) (by kernel_rfl) (by kernel_rfl) rfl (fun _ _ _ h => h) (Or.inl ⟨by rfl, ?y37u225⟩) hHeld ?r37u225
            case y37u225 => (intro W hSW; (try dsimp only at hSW); go_simp; try with_reducible rfl)
            simp only [Act.put, List.setIfInBounds_toArray, List.set_cons_zero, List.set_cons_succ]
            refine takeH 38 (v := ?v38u226) rfl (by kernel_rfl) (by kernel_rfl) (by kernel_rfl) rfl (fun _ _ _ h => h) (Or.inl ⟨by rfl, ?y38u226⟩) hHeld ?r38u226
            case y38u226 => (intro W hSW; (try dsimp only at hSW); have q0 := (HKX.out.next hSW).cell 1 rfl 0; have q1 := (HKX.out.next hSW).cell 1 rfl 1; have q2 := (HKX.out.next hSW).cell 1 rfl 2; have q3 := (HKX.out.next hSW).cell 1 rfl 3; have q4 := (HKX.out.next hSW).cell 1 rfl 4; simp only [List.getElem?_toArray, List.getElem?_cons_zero, List.getElem?_cons_succ] at q0 q1 q2 q3 q4; go_simp; try with_reducible rfl)
            simp only [Act.put, List.setIfInBounds_toArray, List.set_cons_zero, List.set_cons_succ]
            refine takeH 39 (v := ?v39u227) rfl (by kernel_rfl) (by kernel_rfl) (by kernel_rfl) rfl (fun _ _ _ h => h) (Or.inl ⟨by rfl, ?y39u227⟩) hHeld ?r39u227
            case y39u227 => (intro W hSW; (try dsimp only at hSW); go_simp; try with_reducible rfl)
            simp only [Act.put, List.setIfInBounds_toArray, List.set_cons_zero, List.set_cons_succ]
            refine takeH 40 (v := ?v40u228) rfl (by kernel_rfl) (by kernel_rfl) (by kernel_rfl) rfl (fun _ _ _ h => h) (Or.inl ⟨by rfl, ?y40u228⟩) hHeld ?r40u228
            case y40u228 => (intro W hSW; (try dsimp only at hSW); go_simp; try with_reducible rfl)
            simp only [Act.put, List.setIfInBounds_toArray, List.set_cons_zero, List.set_cons_succ]
            refine takeH 41 (v := ?v41u229) rfl (by kernel_rfl) (by kernel_rfl) (by kernel_rfl) rfl (fun _ _ _ h => h) (Or.inl ⟨by rfl, ?y41u229⟩) hHeld ?r41u229
            case y41u229 => (intro W hSW; (try dsimp only at hSW); go_simp; try with_reducible rfl)
            simp only [Act.put, List.setIfInBounds_toArray, List.set_cons_zero, List.set_cons_succ]
            refine takeH 42 (v := ?v42u230) rfl (by kernel_rfl) (by kernel_rfl) (by kernel_rfl) rfl (fun _ _ _ h => h) (Or.inl ⟨by rfl, ?y42u230⟩) hHeld ?r42u230
            case y42u230 => (intro W hSW; (try dsimp only at hSW); have q0 := ((HKX.out.next hSW).bel.cell (p := (ad.add (k * 7))) bl).trans d0; have q1 := ((HKX.out.next hSW).bel.cell (p := ⟨(ad.add (k * 7)).block, (ad.add (k * 7)).off + 1, none⟩) bl).trans d1; have q2 := ((HKX.out.next hSW).bel.cell (p := ⟨(ad.add (k * 7)).block, (ad.add (k * 7)).off + 2, none⟩) bl).trans d2; have q3 := ((HKX.out.next hSW).bel.cell (p := ⟨(ad.add (k * 7)).block, (ad.add (k * 7)).off + 3, none⟩) bl).trans d3; have q4 := ((HKX.out.next hSW).bel.cell (p := ⟨(ad.add (k * 7)).block, (ad.add (k * 7)).off + 4, none⟩) bl).trans d4; have q5 := ((HKX.out.next hSW).bel.cell (p := ⟨(ad.add (k * 7)).block, (ad.add (k * 7)).off + 5, none⟩) bl).trans d5; have q6 := ((HKX.out.next hSW).bel.cell (p := ⟨(ad.add (k * 7)).block, (ad.add (k * 7)).off + 6, none⟩) bl).trans d6; go_simp; try with_reducible rfl)
            simp only [Act.put, List.setIfInBounds_toArray, List.set_cons_zero, List.set_cons_succ]
            refine takeH 44 (v := ?v44u231) rfl (by kernel_rfl) (by kernel_rfl) (by kernel_rfl) rfl (fun _ _ _ h => h) (Or.inl ⟨by rfl, ?y44u231⟩) hHeld ?r44u231
            case y44u231 => (intro W hSW; (try dsimp only at hSW); go_simp; try with_reducible rfl)
            simp only [Act.put, List.setIfInBounds_toArray, List.set_cons_zero, List.set_cons_succ]
            refine takeH 45 (v := ?v45u232) rfl (by kernel_rfl) (by kernel_rfl) (by kernel_rfl) rfl (fun _ _ _ h => h) (Or.inl ⟨by rfl, ?y45u232⟩) hHeld ?r45u232
            case y45u232 => (intro W hSW; (try dsimp only at hSW); go_simp; try with_reducible rfl)
            simp only [Act.put, List.setIfInBounds_toArray, List.set_cons_zero, List.set_cons_succ]
            refine wpAnyH_ready (rs := [43]) (by kernel_rfl) (by simp) ?_
            refine AllReadyH.cons rfl (fun K hK => ?_) AllReadyH.nil
            go_simp
            with_reducible refine (Match_c HTn.out e _ hHeld hHeld.size).mono ?_
            rw [HRn.out, M4.out, Bool.true_and]
            rintro e' wn ⟨rfl, hbn⟩
            have hkn := hHeld.trans (hbn.mono hHeld.size)
            clear hbn
            refine hK.out _ _ hkn (fun hHeld => ?_)
            clear hK K
            try simp only [Act.put, List.setIfInBounds_toArray, List.set_cons_zero, List.set_cons_succ]
            refine takeH 46 (v := ?v46u233) rfl (by kernel_rfl) (by kernel_rfl) (by kernel_rfl) rfl (fun _ _ _ h => h) (Or.inl ⟨by rfl, ?y46u233⟩) hHeld ?r46u233
            case y46u233 => (intro W hSW; (try dsimp only at hSW); go_simp; try with_reducible rfl)
            simp only [Act.put, List.setIfInBounds_toArray, List.set_cons_zero, List.set_cons_succ]
            refine takeH 47 (v := undef) rfl (by kernel_rfl) (by kernel_rfl) (by kernel_rfl) rfl (fun _ _ _ h => h) (Or.inr ⟨by rfl, rfl⟩) hHeld ?_
            simp only [Act.put, List.setIfInBounds_toArray, List.set_cons_zero, List.set_cons_succ]
            refine takeH 48 (v := undef) rfl (by kernel_rfl) (by kernel_rfl) (by kernel_rfl) rfl (fun _ _ _ h => h) (Or.inr ⟨by rfl, rfl⟩) hHeld ?_
            simp only [Act.put, List.setIfInBounds_toArray, List.set_cons_zero, List.set_cons_succ]
            refine takeH 49 (v := ?v49u234) rfl (by kernel_rfl) (by kernel_rfl) (by kernel_rfl) rfl (fun _ _ _ h => h) (Or.inl ⟨by rfl, ?y49u234⟩) hHeld ?r49u234
            case y49u234 => (intro W hSW; (try dsimp only at hSW); go_simp; try with_reducible rfl)
            simp only [Act.put, List.setIfInBounds_toArray, List.set_cons_zero, List.set_cons_succ]
            refine takeH 50 (v := ?v50u235) rfl (by kernel_rfl) (by kernel_rfl) (by kernel_rfl) rfl (fun _ _ _ h => h) (Or.inl ⟨by rfl, ?y50u235⟩) hHeld ?r50u235
            case y50u235 => (intro W hSW; (try dsimp only at hSW); go_simp; try with_reducible rfl)
            simp only [Act.put, List.setIfInBounds_toArray, List.set_cons_zero, List.set_cons_succ]
            refine takeH 51 (v := ?v51u236) rfl (by kernel_rfl) (by kernel_rfl) (by kernel_rfl) rfl (fun _ _ _ h => h) (Or.inl ⟨by rfl, ?y51u236⟩) hHeld ?r51u236
            case y51u236 => (intro W hSW; (try dsimp only at hSW); go_simp; try with_reducible rfl)
            simp only [Act.put, List.setIfInBounds_toArray, List.set_cons_zero, List.set_cons_succ]
            refine takeH 52 (v := ?v52u237) rfl (by kernel_rfl) (by kernel_rfl) (by kernel_rfl) rfl (fun _ _ _ h => h) (Or.inl ⟨by rfl, ?y52u237⟩) hHeld ?r52u237
            case y52u237 => (intro W hSW; (try dsimp only at hSW); go_simp; try with_reducible rfl)
            simp only [Act.put, List.setIfInBounds_toArray, List.set_cons_zero, List.set_cons_succ]
            refine takeH 53 (v := ?v53u238) rfl (by kernel_rfl) (by kernel_rfl) (by kernel_rfl) rfl (fun _ _ _ h => h) (Or.inl ⟨by rfl, ?y53u238⟩) hHeld ?r53u238
            case y53u238 => (intro W hSW; (try dsimp only at hSW); have q0 := (HKX.out.next hSW).cell 0 rfl 0; have q1 := (HKX.out.next hSW).cell 0 rfl 1; have q2 := (HKX.out.next hSW).cell 0 rfl 2; have q3 := (HKX.out.next hSW).cell 0 rfl 3; have q4 := (HKX.out.next hSW).cell 0 rfl 4; simp only [List.getElem?_toArray, List.getElem?_cons_zero, List.getElem?_cons_succ] at q0 q1 q2 q3 q4; go_simp; try with_reducible rfl)
            simp only [Act.put, List.setIfInBounds_toArray, List.set_cons_zero, List.set_cons_succ]
            refine takeH 54 (v := ?v54u239) rfl (by kernel_rfl) (by kernel_rfl) (by kernel_rfl) rfl (fun _ _ _ h => h) (Or.inl ⟨by rfl, ?y54u239⟩) hHeld ?r54u239
            case y54u239 => (intro W hSW; (try dsimp only at hSW); go_simp; try with_reducible rfl)
            simp only [Act.put, List.setIfInBounds_toArray, List.set_cons_zero, List.set_cons_succ]
            refine takeH 55 (v := ?v55u240) rfl (by kernel_rfl) (by kernel_rfl) (by kernel_rfl) rfl (fun _ _ _ h => h) (Or.inl ⟨by rfl, ?y55u240⟩) hHeld ?r55u240
            case y55u240 => (intro W hSW; (try dsimp only at hSW); go_simp; try with_reducible rfl)
            simp only [Act.put, List.setIfInBounds_toArray, List.set_cons_zero, List.set_cons_succ]
            refine takeH 56 (v := ?v56u241) rfl (by kernel_rfl) (by kernel_rfl) (by kernel_rfl) rfl (fun _ _ _ h => h) (Or.inl ⟨by rfl, ?y56u241⟩) hHeld ?r56u241
            case y56u241 => (intro W hSW; (try dsimp only at hSW); go_simp; try with_reducible rfl)
            simp only [Act.put, List.setIfInBounds_toArray, List.set_cons_zero, List.set_cons_succ]
            refine takeH 57 (v := ?v57u242) rfl (by kernel_rfl) (by kernel_rfl) (by kernel_rfl) rfl (fun _ _ _ h => h) (Or.inl ⟨by rfl, ?y57u242⟩) hHeld ?r57u242
            case y57u242 => (intro W hSW; (try dsimp only at hSW); have q0 := ((HKX.out.next hSW).bel.cell (p := (ad.add (k * 7))) bl).trans d0; have q1 := ((HKX.out.next hSW).bel.cell (p := ⟨(ad.add (k * 7)).block, (ad.add (k * 7)).off + 1, none⟩) bl).trans d1; have q2 := ((HKX.out.next hSW).bel.cell (p := ⟨(ad.add (k * 7)).block, (ad.add (k * 7)).off + 2, none⟩) bl).trans d2; have q3 := ((HKX.out.next hSW).bel.cell (p := ⟨(ad.add (k * 7)).block, (ad.add (k * 7)).off + 3, none⟩) bl).trans d3; have q4 := ((HKX.out.next hSW).bel.cell (p := ⟨(ad.add (k * 7)).block, (ad.add (k * 7)).off + 4, none⟩) bl).trans d4; have q5 := ((HKX.out.next hSW).bel.cell (p := ⟨(ad.add (k * 7)).block, (ad.add (k * 7)).off + 5, none⟩) bl).trans d5; have q6 := ((HKX.out.next hSW).bel.cell (p := ⟨(ad.add (k * 7)).block, (ad.add (k * 7)).off + 6, none⟩) bl).trans d6; go_simp; try with_reducible rfl)
            simp only [Act.put, List.setIfInBounds_toArray, List.set_cons_zero, List.set_cons_succ]
            refine takeH 59 (v := ?v59u243) rfl (by kernel_rfl) (by kernel_rfl) (by kernel_rfl) rfl (fun _ _ _ h => h) (Or.inl ⟨by rfl, ?y59u243⟩) hHeld ?r59u243
            case y59u243 => (intro W hSW; (try dsimp only at hSW); go_simp; try with_reducible rfl)
            simp only [Act.put, List.setIfInBounds_toArray, List.set_cons_zero, List.set_cons_succ]
            refine wpAnyH_ready (rs := [58]) (by kernel_rfl) (by simp) ?_
            refine AllReadyH.cons rfl (fun K hK => ?_) AllReadyH.nil
            go_simp
            with_reducible refine (Match_c HTo.out e _ hHeld hHeld.size).mono ?_
            rw [HRo.out, M5.out, Bool.true_and]
            rintro e' wn ⟨rfl, hbn⟩
            have hkn := hHeld.trans (hbn.mono hHeld.size)
            clear hbn
            refine hK.out _ _ hkn (fun hHeld => ?_)
            clear hK K
            try simp only [Act.put, List.setIfInBounds_toArray, List.set_cons_zero, List.set_cons_succ]
            refine takeH 60 (v := ?v60u244) rfl (by kernel_rfl) (by kernel_rfl) (by kernel_rfl) rfl (fun _ _ _ h => h) (Or.inl ⟨by rfl, ?y60u244⟩) hHeld ?r60u244
            case y60u244 => (intro W hSW; (try dsimp only at hSW); go_simp; try with_reducible rfl)
            simp only [Act.put, List.setIfInBounds_toArray, List.set_cons_zero, List.set_cons_succ]
            refine takeH 61 (v := ?v61u245) rfl (by kernel_rfl) (by kernel_rfl) (by kernel_rfl) rfl (fun _ _ _ h => h) (Or.inl ⟨by rfl, ?y61u245⟩) hHeld ?r61u245
            case y61u245 => (intro W hSW; (try dsimp only at hSW); go_simp; try with_reducible rfl)
            simp only [Act.put, List.setIfInBounds_toArray, List.set_cons_zero, List.set_cons_succ]
            refine wpAnyH_done (by kernel_rfl) ?_ _
            refine NoPanic.normal ?_
            have HBo := Lib.hid hHeld
            clear hHeld HBn d0 d1 d2 d3 d4 d5 d6 M1 M2 M3 M4 M5
            go_wp2
            exact ⟨⟨k + 1, by omega, rfl, HBo⟩, by simp [intOf]; omega⟩
        · obtain rfl : nl = k := by omega
          go_wp2_with fail
          cases hsf : sameF t u
          · have hbne : ¬ bytesT t = bytesT u := fun hx => by rw [bytes_same HRt.out HRu.out hx, (sameF_iff u u).2 rfl] at hsf; cases hsf
            refine wp_region_noPanic ?_
            refine wp_region_held_drew (S := fun W' => Below wx.heap.size wx W') (by kernel_rfl) HBw.out.drew (fun hHeld => ?_)
            have hzf : wx.heap.size ≤ wr.drew.heap.size := HBw.out.size
            generalize wr.drew = wd at hHeld hzf ⊢
            clear hzf
            refine takeH 0 (v := ?v0u246) rfl (by kernel_rfl) (by kernel_rfl) (by kernel_rfl) rfl (fun _ _ _ h => h) (Or.inl ⟨by rfl, ?y0u246⟩) hHeld ?r0u246
            case y0u246 => (intro W hSW; (try dsimp only at hSW); have q0 := (HKX.out.next hSW).cell 6 rfl 0; have q1 := (HKX.out.next hSW).cell 6 rfl 1; have q2 := (HKX.out.next hSW).cell 6 rfl 2; have q3 := (HKX.out.next hSW).cell 6 rfl 3; have q4 := (HKX.out.next hSW).cell 6 rfl 4; simp only [List.getElem?_toArray, List.getElem?_cons_zero, List.getElem?_cons_succ] at q0 q1 q2 q3 q4; go_simp; try with_reducible rfl)
            simp only [Act.put, List.setIfInBounds_toArray, List.set_cons_zero, List.set_cons_succ]
            refine takeH 3 (v := ?v3u247) rfl (by kernel_rfl) (by kernel_rfl) (by kernel_rfl) rfl (fun _ _ _ h => h) (Or.inl ⟨by rfl, ?y3u247⟩) hHeld ?r3u247
            case y3u247 => (intro W hSW; (try dsimp only at hSW); have q0 := (HKX.out.next hSW).cell 5 rfl 0; have q1 := (HKX.out.next hSW).cell 5 rfl 1; have q2 := (HKX.out.next hSW).cell 5 rfl 2; have q3 := (HKX.out.next hSW).cell 5 rfl 3; have q4 := (HKX.out.next hSW).cell 5 rfl 4; simp only [List.getElem?_toArray, List.getElem?_cons_zero, List.getElem?_cons_succ] at q0 q1 q2 q3 q4; go_simp; try with_reducible rfl)
            simp only [Act.put, List.setIfInBounds_toArray, List.set_cons_zero, List.set_cons_succ]
            refine takeH 7 (v := ?v7u248) rfl (by kernel_rfl) (by kernel_rfl) (by kernel_rfl) rfl (fun _ _ _ h => h) (Or.inl ⟨by rfl, ?y7u248⟩) hHeld ?r7u248
            case y7u248 => (intro W hSW; (try dsimp only at hSW); have q0 := (HKX.out.next hSW).cell 6 rfl 0; have q1 := (HKX.out.next hSW).cell 6 rfl 1; have q2 := (HKX.out.next hSW).cell 6 rfl 2; have q3 := (HKX.out.next hSW).cell 6 rfl 3; have q4 := (HKX.out.next hSW).cell 6 rfl 4; simp only [List.getElem?_toArray, List.getElem?_cons_zero, List.getElem?_cons_succ] at q0 q1 q2 q3 q4; go_simp; try with_reducible rfl)
            simp only [Act.put, List.setIfInBounds_toArray, List.set_cons_zero, List.set_cons_succ]
            refine takeH 8 (v := ?v8u249) rfl (by kernel_rfl) (by kernel_rfl) (by kernel_rfl) rfl (fun _ _ _ h => h) (Or.inl ⟨by rfl, ?y8u249⟩) hHeld ?r8u249
            case y8u249 => (intro W hSW; (try dsimp only at hSW); have q0 := (HKX.out.next hSW).cell 5 rfl 0; have q1 := (HKX.out.next hSW).cell 5 rfl 1; have q2 := (HKX.out.next hSW).cell 5 rfl 2; have q3 := (HKX.out.next hSW).cell 5 rfl 3; have q4 := (HKX.out.next hSW).cell 5 rfl 4; simp only [List.getElem?_toArray, List.getElem?_cons_zero, List.getElem?_cons_succ] at q0 q1 q2 q3 q4; go_simp; try with_reducible rfl)
            simp only [Act.put, List.setIfInBounds_toArray, List.set_cons_zero, List.set_cons_succ]
            refine wpAnyH_ready (rs := [1]) (by kernel_rfl) (by simp) ?_
            refine AllReadyH.cons rfl (fun K hK => ?_) AllReadyH.nil
            go_simp
            with_reducible refine (Bytes_c HTt.out _ hHeld hHeld.size).mono ?_
            rintro e' wn1 ⟨v1, rfl, hown1, hbn⟩
            obtain ⟨A1, c1, rfl, _, _, _, hr1⟩ := own_reads hown1
            have HB1 := Lib.hid hr1
            have hkb : Below wx.heap.size wx wn1 := hHeld.trans (hbn.mono hHeld.size)
            have hkn := hkb
            clear hown1 hr1 hbn hkb
            refine hK.out _ _ hkn (fun hHeld => ?_)
            clear hK K
            try simp only [Act.put, List.setIfInBounds_toArray, List.set_cons_zero, List.set_cons_succ]
            refine wpAnyH_more (S2 := fun W' => Below wx.heap.size wx W' ∧ Reads W' wn1.heap.size 1 A1 (bytesT t).length (byteCells (bytesT t))) (fun W hW => hW.1) _ ?_
            replace hHeld := (⟨hHeld, HB1.out⟩ : Below wx.heap.size wx wn1 ∧ _)
            refine takeH 2 (v := ?v2u250) rfl (by kernel_rfl) (by kernel_rfl) (by kernel_rfl) rfl (fun _ _ _ h => h) (Or.inl ⟨by rfl, ?y2u250⟩) hHeld ?r2u250
            case y2u250 => (intro W hSW; (try dsimp only at hSW); have cv := conv_reads hSW.2 c1; go_simp; try with_reducible rfl)
            simp only [Act.put, List.setIfInBounds_toArray, List.set_cons_zero, List.set_cons_succ]
            refine wpAnyH_ready (rs := [4]) (by kernel_rfl) (by simp) ?_
            refine AllReadyH.cons rfl (fun K hK => ?_) AllReadyH.nil
            go_simp
            with_reducible refine (Bytes_c HTu.out _ hHeld.1 hHeld.1.size).mono ?_
            rintro e' wn2 ⟨v2, rfl, hown2, hbn⟩
            obtain ⟨A2, c2, rfl, _, _, _, hr2⟩ := own_reads hown2
            have HB2 := Lib.hid hr2
            have hkb : Below wx.heap.size wx wn2 := hHeld.1.trans (hbn.mono hHeld.1.size)
            have hkn : Below wx.heap.size wx wn2 ∧ Reads wn2 wn1.heap.size 1 A1 (bytesT t).length (byteCells (bytesT t)) := ⟨hkb, hHeld.2.below (hbn.mono (Nat.le_refl _))⟩
            have hz12 := hbn.size
            clear hown2 hr2 hbn hkb
            refine hK.out _ _ hkn (fun hHeld => ?_)
            clear hK K
            try simp only [Act.put, List.setIfInBounds_toArray, List.set_cons_zero, List.set_cons_succ]
            refine wpAnyH_more (S2 := fun W' => (Below wx.heap.size wx W' ∧ Reads W' wn1.heap.size 1 A1 (bytesT t).length (byteCells (bytesT t))) ∧ Reads W' wn2.heap.size 1 A2 (bytesT u).length (byteCells (bytesT u))) (fun W hW => hW.1) _ ?_
            replace hHeld := (⟨hHeld, HB2.out⟩ : _ ∧ _)
            refine takeH 5 (v := ?v5u251) rfl (by kernel_rfl) (by kernel_rfl) (by kernel_rfl) rfl (fun _ _ _ h => h) (Or.inl ⟨by rfl, ?y5u251⟩) hHeld ?r5u251
            case y5u251 => (intro W hSW; (try dsimp only at hSW); have cv := conv_reads hSW.2 c2; go_simp; try with_reducible rfl)
            simp only [Act.put, List.setIfInBounds_toArray, List.set_cons_zero, List.set_cons_succ]
            refine takeH 6 (v := .bool false) rfl (by kernel_rfl) (by kernel_rfl) (by kernel_rfl) rfl (fun _ _ _ h => h) (Or.inl ⟨by rfl, ?y6u252⟩) hHeld ?r6u252
            case y6u252 => (intro W hSW; (try dsimp only at hSW); go_simp <;> simpa [ByteArray.toList_eq] using hbne)
            simp only [Act.put, List.setIfInBounds_toArray, List.set_cons_zero, List.set_cons_succ]
            refine wpAnyH_ready (rs := [9]) (by kernel_rfl) (by simp) ?_
            refine AllReadyH.cons rfl (fun K hK => ?_) AllReadyH.nil
            go_simp
            with_reducible refine (fSame_c HTt.out HTu.out _ hHeld.1.1 hHeld.1.1.size).mono ?_
            rw [HRt.out, hsf]
            rintro e' wn ⟨rfl, hbn⟩
            have hz3 := hbn.size
            have hkn : (Below wx.heap.size wx wn ∧ Reads wn wn1.heap.size 1 A1 (bytesT t).length (byteCells (bytesT t))) ∧ Reads wn wn2.heap.size 1 A2 (bytesT u).length (byteCells (bytesT u)) := ⟨⟨hHeld.1.1.trans (hbn.mono hHeld.1.1.size), hHeld.1.2.below (hbn.mono (by omega))⟩, hHeld.2.below (hbn.mono (by omega))⟩
            clear hbn
            refine hK.out _ _ hkn (fun hHeld => ?_)
            clear hK K
            try simp only [Act.put, List.setIfInBounds_toArray, List.set_cons_zero, List.set_cons_succ]
            refine takeH 10 (v := ?v10u253) rfl (by kernel_rfl) (by kernel_rfl) (by kernel_rfl) rfl (fun _ _ _ h => h) (Or.inl ⟨by rfl, ?y10u253⟩) hHeld ?r10u253
            case y10u253 => (intro W hSW; (try dsimp only at hSW); go_simp; try with_reducible rfl)
            simp only [Act.put, List.setIfInBounds_toArray, List.set_cons_zero, List.set_cons_succ]
            refine takeH 11 (v := ?v11u254) rfl (by kernel_rfl) (by kernel_rfl) (by kernel_rfl) rfl (fun _ _ _ h => h) (Or.inl ⟨by rfl, ?y11u254⟩) hHeld ?r11u254
            case y11u254 => (intro W hSW; (try dsimp only at hSW); go_simp; try with_reducible rfl)
            simp only [Act.put, List.setIfInBounds_toArray, List.set_cons_zero, List.set_cons_succ]
            refine takeH 12 (v := ?v12u255) rfl (by kernel_rfl) (by kernel_rfl) (by kernel_rfl) rfl (fun _ _ _ h => h) (Or.inl ⟨by rfl, ?y12u255⟩) hHeld ?r12u255
            case y12u255 => (intro W hSW; (try dsimp only at hSW); have q0 := (HKX.out.next hSW.1.1).cell 6 rfl 0; have q1 := (HKX.out.next hSW.1.1).cell 6 rfl 1; have q2 := (HKX.out.next hSW.1.1).cell 6 rfl 2; have q3 := (HKX.out.next hSW.1.1).cell 6 rfl 3; have q4 := (HKX.out.next hSW.1.1).cell 6 rfl 4; simp only [List.getElem?_toArray, List.getElem?_cons_zero, List.getElem?_cons_succ] at q0 q1 q2 q3 q4; go_simp; try with_reducible rfl)
            simp only [Act.put, List.setIfInBounds_toArray, List.set_cons_zero, List.set_cons_succ]
            refine takeH 13 (v := ?v13u256) rfl (by kernel_rfl) (by kernel_rfl) (by kernel_rfl) rfl (fun _ _ _ h => h) (Or.inl ⟨by rfl, ?y13u256⟩) hHeld ?r13u256
            case y13u256 => (intro W hSW; (try dsimp only at hSW); have q0 := (HKX.out.next hSW.1.1).cell 6 rfl 0; have q1 := (HKX.out.next hSW.1.1).cell 6 rfl 1; have q2 := (HKX.out.next hSW.1.1).cell 6 rfl 2; have q3 := (HKX.out.next hSW.1.1).cell 6 rfl 3; have q4 := (HKX.out.next hSW.1.1).cell 6 rfl 4; simp only [List.getElem?_toArray, List.getElem?_cons_zero, List.getElem?_cons_succ] at q0 q1 q2 q3 q4; go_simp; try with_reducible rfl)
            simp only [Act.put, List.setIfInBounds_toArray, List.set_cons_zero, List.set_cons_succ]
            refine wpAnyH_ready (rs := [14]) (by kernel_rfl) (by simp) ?_
            refine AllReadyH.cons rfl (fun K hK => ?_) AllReadyH.nil
            go_simp
            with_reducible refine (fSame_c HTt.out HTt.out _ hHeld.1.1 hHeld.1.1.size).mono ?_
            rw [HRt.out, (sameF_iff t t).2 rfl]
            rintro e' wn ⟨rfl, hbn⟩
            have hz3 := hbn.size
            have hkn : (Below wx.heap.size wx wn ∧ Reads wn wn1.heap.size 1 A1 (bytesT t).length (byteCells (bytesT t))) ∧ Reads wn wn2.heap.size 1 A2 (bytesT u).length (byteCells (bytesT u)) := ⟨⟨hHeld.1.1.trans (hbn.mono hHeld.1.1.size), hHeld.1.2.below (hbn.mono (by omega))⟩, hHeld.2.below (hbn.mono (by omega))⟩
            clear hbn
            refine hK.out _ _ hkn (fun hHeld => ?_)
            clear hK K
            try simp only [Act.put, List.setIfInBounds_toArray, List.set_cons_zero, List.set_cons_succ]
            refine takeH 15 (v := ?v15u257) rfl (by kernel_rfl) (by kernel_rfl) (by kernel_rfl) rfl (fun _ _ _ h => h) (Or.inl ⟨by rfl, ?y15u257⟩) hHeld ?r15u257
            case y15u257 => (intro W hSW; (try dsimp only at hSW); go_simp; try with_reducible rfl)
            simp only [Act.put, List.setIfInBounds_toArray, List.set_cons_zero, List.set_cons_succ]
            refine takeH 16 (v := ?v16u258) rfl (by kernel_rfl) (by kernel_rfl) (by kernel_rfl) rfl (fun _ _ _ h => h) (Or.inl ⟨by rfl, ?y16u258⟩) hHeld ?r16u258
            case y16u258 => (intro W hSW; (try dsimp only at hSW); go_simp; try with_reducible rfl)
            simp only [Act.put, List.setIfInBounds_toArray, List.set_cons_zero, List.set_cons_succ]
            refine takeH 17 (v := ?v17u259) rfl (by kernel_rfl) (by kernel_rfl) (by kernel_rfl) rfl (fun _ _ _ h => h) (Or.inl ⟨by rfl, ?y17u259⟩) hHeld ?r17u259
            case y17u259 => (intro W hSW; (try dsimp only at hSW); have q0 := (HKX.out.next hSW.1.1).cell 6 rfl 0; have q1 := (HKX.out.next hSW.1.1).cell 6 rfl 1; have q2 := (HKX.out.next hSW.1.1).cell 6 rfl 2; have q3 := (HKX.out.next hSW.1.1).cell 6 rfl 3; have q4 := (HKX.out.next hSW.1.1).cell 6 rfl 4; simp only [List.getElem?_toArray, List.getElem?_cons_zero, List.getElem?_cons_succ] at q0 q1 q2 q3 q4; go_simp; try with_reducible rfl)
            simp only [Act.put, List.setIfInBounds_toArray, List.set_cons_zero, List.set_cons_succ]
            refine wpAnyH_ready (rs := [18]) (by kernel_rfl) (by simp) ?_
            refine AllReadyH.cons rfl (fun K hK => ?_) AllReadyH.nil
            go_simp
            with_reducible refine (Right_c HTt.out _ hHeld.1.1 hHeld.1.1.size).mono ?_
            rw [HRt.out]
            rintro e' wn ⟨rfl, hbn⟩
            have hz3' := hbn.size
            have hkn : (Below wx.heap.size wx wn ∧ Reads wn wn1.heap.size 1 A1 (bytesT t).length (byteCells (bytesT t))) ∧ Reads wn wn2.heap.size 1 A2 (bytesT u).length (byteCells (bytesT u)) := ⟨⟨hHeld.1.1.trans (hbn.mono hHeld.1.1.size), hHeld.1.2.below (hbn.mono (by omega))⟩, hHeld.2.below (hbn.mono (by omega))⟩
            clear hbn
            refine hK.out _ _ hkn (fun hHeld => ?_)
            clear hK K
            try simp only [Act.put, List.setIfInBounds_toArray, List.set_cons_zero, List.set_cons_succ]
            refine takeH 19 (v := ?v19u260) rfl (by kernel_rfl) (by kernel_rfl) (by kernel_rfl) rfl (fun _ _ _ h => h) (Or.inl ⟨by rfl, ?y19u260⟩) hHeld ?r19u260
            case y19u260 => (intro W hSW; (try dsimp only at hSW); go_simp; try with_reducible rfl)
            simp only [Act.put, List.setIfInBounds_toArray, List.set_cons_zero, List.set_cons_succ]
            refine takeH 20 (v := ?v20u261) rfl (by kernel_rfl) (by kernel_rfl) (by kernel_rfl) rfl (fun _ _ _ h => h) (Or.inl ⟨by rfl, ?y20u261⟩) hHeld ?r20u261
            case y20u261 => (intro W hSW; (try dsimp only at hSW); go_simp; try with_reducible rfl)
            simp only [Act.put, List.setIfInBounds_toArray, List.set_cons_zero, List.set_cons_succ]
            refine takeH 21 (v := ?v21u262) rfl (by kernel_rfl) (by kernel_rfl) (by kernel_rfl) rfl (fun _ _ _ h => h) (Or.inl ⟨by rfl, ?y21u262⟩) hHeld ?r21u262
            case y21u262 => (intro W hSW; (try dsimp only at hSW); have q0 := (HKX.out.next hSW.1.1).cell 5 rfl 0; have q1 := (HKX.out.next hSW.1.1).cell 5 rfl 1; have q2 := (HKX.out.next hSW.1.1).cell 5 rfl 2; have q3 := (HKX.out.next hSW.1.1).cell 5 rfl 3; have q4 := (HKX.out.next hSW.1.1).cell 5 rfl 4; simp only [List.getElem?_toArray, List.getElem?_cons_zero, List.getElem?_cons_succ] at q0 q1 q2 q3 q4; go_simp; try with_reducible rfl)
            simp only [Act.put, List.setIfInBounds_toArray, List.set_cons_zero, List.set_cons_succ]
            refine wpAnyH_ready (rs := [22]) (by kernel_rfl) (by simp) ?_
            refine AllReadyH.cons rfl (fun K hK => ?_) AllReadyH.nil
            go_simp
            with_reducible refine (Right_c HTu.out _ hHeld.1.1 hHeld.1.1.size).mono ?_
            rw [HRu.out]
            rintro e' wn ⟨rfl, hbn⟩
            have hz3' := hbn.size
            have hkn : (Below wx.heap.size wx wn ∧ Reads wn wn1.heap.size 1 A1 (bytesT t).length (byteCells (bytesT t))) ∧ Reads wn wn2.heap.size 1 A2 (bytesT u).length (byteCells (bytesT u)) := ⟨⟨hHeld.1.1.trans (hbn.mono hHeld.1.1.size), hHeld.1.2.below (hbn.mono (by omega))⟩, hHeld.2.below (hbn.mono (by omega))⟩
            clear hbn
            refine hK.out _ _ hkn (fun hHeld => ?_)
            clear hK K
            try simp only [Act.put, List.setIfInBounds_toArray, List.set_cons_zero, List.set_cons_succ]
            refine takeH 23 (v := ?v23u263) rfl (by kernel_rfl) (by kernel_rfl) (by kernel_rfl) rfl (fun _ _ _ h => h) (Or.inl ⟨by rfl, ?y23u263⟩) hHeld ?r23u263
            case y23u263 => (intro W hSW; (try dsimp only at hSW); go_simp; try with_reducible rfl)
            simp only [Act.put, List.setIfInBounds_toArray, List.set_cons_zero, List.set_cons_succ]
            refine takeH 24 (v := ?v24u264) rfl (by kernel_rfl) (by kernel_rfl) (by kernel_rfl) rfl (fun _ _ _ h => h) (Or.inl ⟨by rfl, ?y24u264⟩) hHeld ?r24u264
            case y24u264 => (intro W hSW; (try dsimp only at hSW); go_simp; try with_reducible rfl)
            simp only [Act.put, List.setIfInBounds_toArray, List.set_cons_zero, List.set_cons_succ]
            refine wpAnyH_done (by kernel_rfl) ?_ _
            refine NoPanic.normal ?_
            go_wp2
            go_ret
            exact ⟨rfl, HKX.out.bel.trans (hHeld.1.1.mono hzw)⟩
          · obtain rfl := (sameF_iff t u).1 hsf
            refine wp_region_noPanic ?_
            refine wp_region_held_drew (S := fun W' => Below wx.heap.size wx W') (by kernel_rfl) HBw.out.drew (fun hHeld => ?_)
            have hzf : wx.heap.size ≤ wr.drew.heap.size := HBw.out.size
            generalize wr.drew = wd at hHeld hzf ⊢
            clear hzf
            refine takeH 0 (v := ?v0u265) rfl (by kernel_rfl) (by kernel_rfl) (by kernel_rfl) rfl (fun _ _ _ h => h) (Or.inl ⟨by rfl, ?y0u265⟩) hHeld ?r0u265
            case y0u265 => (intro W hSW; (try dsimp only at hSW); have q0 := (HKX.out.next hSW).cell 6 rfl 0; have q1 := (HKX.out.next hSW).cell 6 rfl 1; have q2 := (HKX.out.next hSW).cell 6 rfl 2; have q3 := (HKX.out.next hSW).cell 6 rfl 3; have q4 := (HKX.out.next hSW).cell 6 rfl 4; simp only [List.getElem?_toArray, List.getElem?_cons_zero, List.getElem?_cons_succ] at q0 q1 q2 q3 q4; go_simp; try with_reducible rfl)
            simp only [Act.put, List.setIfInBounds_toArray, List.set_cons_zero, List.set_cons_succ]
            refine takeH 3 (v := ?v3u266) rfl (by kernel_rfl) (by kernel_rfl) (by kernel_rfl) rfl (fun _ _ _ h => h) (Or.inl ⟨by rfl, ?y3u266⟩) hHeld ?r3u266
            case y3u266 => (intro W hSW; (try dsimp only at hSW); have q0 := (HKX.out.next hSW).cell 5 rfl 0; have q1 := (HKX.out.next hSW).cell 5 rfl 1; have q2 := (HKX.out.next hSW).cell 5 rfl 2; have q3 := (HKX.out.next hSW).cell 5 rfl 3; have q4 := (HKX.out.next hSW).cell 5 rfl 4; simp only [List.getElem?_toArray, List.getElem?_cons_zero, List.getElem?_cons_succ] at q0 q1 q2 q3 q4; go_simp; try with_reducible rfl)
            simp only [Act.put, List.setIfInBounds_toArray, List.set_cons_zero, List.set_cons_succ]
            refine takeH 7 (v := ?v7u267) rfl (by kernel_rfl) (by kernel_rfl) (by kernel_rfl) rfl (fun _ _ _ h => h) (Or.inl ⟨by rfl, ?y7u267⟩) hHeld ?r7u267
            case y7u267 => (intro W hSW; (try dsimp only at hSW); have q0 := (HKX.out.next hSW).cell 6 rfl 0; have q1 := (HKX.out.next hSW).cell 6 rfl 1; have q2 := (HKX.out.next hSW).cell 6 rfl 2; have q3 := (HKX.out.next hSW).cell 6 rfl 3; have q4 := (HKX.out.next hSW).cell 6 rfl 4; simp only [List.getElem?_toArray, List.getElem?_cons_zero, List.getElem?_cons_succ] at q0 q1 q2 q3 q4; go_simp; try with_reducible rfl)
            simp only [Act.put, List.setIfInBounds_toArray, List.set_cons_zero, List.set_cons_succ]
            refine takeH 8 (v := ?v8u268) rfl (by kernel_rfl) (by kernel_rfl) (by kernel_rfl) rfl (fun _ _ _ h => h) (Or.inl ⟨by rfl, ?y8u268⟩) hHeld ?r8u268
            case y8u268 => (intro W hSW; (try dsimp only at hSW); have q0 := (HKX.out.next hSW).cell 5 rfl 0; have q1 := (HKX.out.next hSW).cell 5 rfl 1; have q2 := (HKX.out.next hSW).cell 5 rfl 2; have q3 := (HKX.out.next hSW).cell 5 rfl 3; have q4 := (HKX.out.next hSW).cell 5 rfl 4; simp only [List.getElem?_toArray, List.getElem?_cons_zero, List.getElem?_cons_succ] at q0 q1 q2 q3 q4; go_simp; try with_reducible rfl)
            simp only [Act.put, List.setIfInBounds_toArray, List.set_cons_zero, List.set_cons_succ]
            refine wpAnyH_ready (rs := [1]) (by kernel_rfl) (by simp) ?_
            refine AllReadyH.cons rfl (fun K hK => ?_) AllReadyH.nil
            go_simp
            with_reducible refine (Bytes_c HTt.out _ hHeld hHeld.size).mono ?_
            rintro e' wn1 ⟨v1, rfl, hown1, hbn⟩
            obtain ⟨A1, c1, rfl, _, _, _, hr1⟩ := own_reads hown1
            have HB1 := Lib.hid hr1
            have hkb : Below wx.heap.size wx wn1 := hHeld.trans (hbn.mono hHeld.size)
            have hkn := hkb
            clear hown1 hr1 hbn hkb
            refine hK.out _ _ hkn (fun hHeld => ?_)
            clear hK K
            try simp only [Act.put, List.setIfInBounds_toArray, List.set_cons_zero, List.set_cons_succ]
            refine wpAnyH_more (S2 := fun W' => Below wx.heap.size wx W' ∧ Reads W' wn1.heap.size 1 A1 (bytesT t).length (byteCells (bytesT t))) (fun W hW => hW.1) _ ?_
            replace hHeld := (⟨hHeld, HB1.out⟩ : Below wx.heap.size wx wn1 ∧ _)
            refine takeH 2 (v := ?v2u269) rfl (by kernel_rfl) (by kernel_rfl) (by kernel_rfl) rfl (fun _ _ _ h => h) (Or.inl ⟨by rfl, ?y2u269⟩) hHeld ?r2u269
            case y2u269 => (intro W hSW; (try dsimp only at hSW); have cv := conv_reads hSW.2 c1; go_simp; try with_reducible rfl)
            simp only [Act.put, List.setIfInBounds_toArray, List.set_cons_zero, List.set_cons_succ]
            refine wpAnyH_ready (rs := [4]) (by kernel_rfl) (by simp) ?_
            refine AllReadyH.cons rfl (fun K hK => ?_) AllReadyH.nil
            go_simp
            with_reducible refine (Bytes_c HTu.out _ hHeld.1 hHeld.1.size).mono ?_
            rintro e' wn2 ⟨v2, rfl, hown2, hbn⟩
            obtain ⟨A2, c2, rfl, _, _, _, hr2⟩ := own_reads hown2
            have HB2 := Lib.hid hr2
            have hkb : Below wx.heap.size wx wn2 := hHeld.1.trans (hbn.mono hHeld.1.size)
            have hkn : Below wx.heap.size wx wn2 ∧ Reads wn2 wn1.heap.size 1 A1 (bytesT t).length (byteCells (bytesT t)) := ⟨hkb, hHeld.2.below (hbn.mono (Nat.le_refl _))⟩
            have hz12 := hbn.size
            clear hown2 hr2 hbn hkb
            refine hK.out _ _ hkn (fun hHeld => ?_)
            clear hK K
            try simp only [Act.put, List.setIfInBounds_toArray, List.set_cons_zero, List.set_cons_succ]
            refine wpAnyH_more (S2 := fun W' => (Below wx.heap.size wx W' ∧ Reads W' wn1.heap.size 1 A1 (bytesT t).length (byteCells (bytesT t))) ∧ Reads W' wn2.heap.size 1 A2 (bytesT t).length (byteCells (bytesT t))) (fun W hW => hW.1) _ ?_
            replace hHeld := (⟨hHeld, HB2.out⟩ : _ ∧ _)
            refine takeH 5 (v := ?v5u270) rfl (by kernel_rfl) (by kernel_rfl) (by kernel_rfl) rfl (fun _ _ _ h => h) (Or.inl ⟨by rfl, ?y5u270⟩) hHeld ?r5u270
            case y5u270 => (intro W hSW; (try dsimp only at hSW); have cv := conv_reads hSW.2 c2; go_simp; try with_reducible rfl)
            simp only [Act.put, List.setIfInBounds_toArray, List.set_cons_zero, List.set_cons_succ]
            refine takeH 6 (v := ?v6u271) rfl (by kernel_rfl) (by kernel_rfl) (by kernel_rfl) rfl (fun _ _ _ h => h) (Or.inl ⟨by rfl, ?y6u271⟩) hHeld ?r6u271
            case y6u271 => (intro W hSW; (try dsimp only at hSW); go_simp; try with_reducible rfl)
            simp only [Act.put, List.setIfInBounds_toArray, List.set_cons_zero, List.set_cons_succ]
            refine wpAnyH_ready (rs := [9]) (by kernel_rfl) (by simp) ?_
            refine AllReadyH.cons rfl (fun K hK => ?_) AllReadyH.nil
            go_simp
            with_reducible refine (fSame_c HTt.out HTu.out _ hHeld.1.1 hHeld.1.1.size).mono ?_
            rw [HRt.out, hsf]
            rintro e' wn ⟨rfl, hbn⟩
            have hz3 := hbn.size
            have hkn : (Below wx.heap.size wx wn ∧ Reads wn wn1.heap.size 1 A1 (bytesT t).length (byteCells (bytesT t))) ∧ Reads wn wn2.heap.size 1 A2 (bytesT t).length (byteCells (bytesT t)) := ⟨⟨hHeld.1.1.trans (hbn.mono hHeld.1.1.size), hHeld.1.2.below (hbn.mono (by omega))⟩, hHeld.2.below (hbn.mono (by omega))⟩
            clear hbn
            refine hK.out _ _ hkn (fun hHeld => ?_)
            clear hK K
            try simp only [Act.put, List.setIfInBounds_toArray, List.set_cons_zero, List.set_cons_succ]
            refine takeH 10 (v := ?v10u272) rfl (by kernel_rfl) (by kernel_rfl) (by kernel_rfl) rfl (fun _ _ _ h => h) (Or.inl ⟨by rfl, ?y10u272⟩) hHeld ?r10u272
            case y10u272 => (intro W hSW; (try dsimp only at hSW); go_simp; try with_reducible rfl)
            simp only [Act.put, List.setIfInBounds_toArray, List.set_cons_zero, List.set_cons_succ]
            refine takeH 11 (v := ?v11u273) rfl (by kernel_rfl) (by kernel_rfl) (by kernel_rfl) rfl (fun _ _ _ h => h) (Or.inl ⟨by rfl, ?y11u273⟩) hHeld ?r11u273
            case y11u273 => (intro W hSW; (try dsimp only at hSW); go_simp; try with_reducible rfl)
            simp only [Act.put, List.setIfInBounds_toArray, List.set_cons_zero, List.set_cons_succ]
            refine takeH 12 (v := ?v12u274) rfl (by kernel_rfl) (by kernel_rfl) (by kernel_rfl) rfl (fun _ _ _ h => h) (Or.inl ⟨by rfl, ?y12u274⟩) hHeld ?r12u274
            case y12u274 => (intro W hSW; (try dsimp only at hSW); have q0 := (HKX.out.next hSW.1.1).cell 6 rfl 0; have q1 := (HKX.out.next hSW.1.1).cell 6 rfl 1; have q2 := (HKX.out.next hSW.1.1).cell 6 rfl 2; have q3 := (HKX.out.next hSW.1.1).cell 6 rfl 3; have q4 := (HKX.out.next hSW.1.1).cell 6 rfl 4; simp only [List.getElem?_toArray, List.getElem?_cons_zero, List.getElem?_cons_succ] at q0 q1 q2 q3 q4; go_simp; try with_reducible rfl)
            simp only [Act.put, List.setIfInBounds_toArray, List.set_cons_zero, List.set_cons_succ]
            refine takeH 13 (v := ?v13u275) rfl (by kernel_rfl) (by kernel_rfl) (by kernel_rfl) rfl (fun _ _ _ h => h) (Or.inl ⟨by rfl, ?y13u275⟩) hHeld ?r13u275
            case y13u275 => (intro W hSW; (try dsimp only at hSW); have q0 := (HKX.out.next hSW.1.1).cell 6 rfl 0; have q1 := (HKX.out.next hSW.1.1).cell 6 rfl 1; have q2 := (HKX.out.next hSW.1.1).cell 6 rfl 2; have q3 := (HKX.out.next hSW.1.1).cell 6 rfl 3; have q4 := (HKX.out.next hSW.1.1).cell 6 rfl 4; simp only [List.getElem?_toArray, List.getElem?_cons_zero, List.getElem?_cons_succ] at q0 q1 q2 q3 q4; go_simp; try with_reducible rfl)
            simp only [Act.put, List.setIfInBounds_toArray, List.set_cons_zero, List.set_cons_succ]
            refine wpAnyH_ready (rs := [14]) (by kernel_rfl) (by simp) ?_
            refine AllReadyH.cons rfl (fun K hK => ?_) AllReadyH.nil
            go_simp
            with_reducible refine (fSame_c HTt.out HTt.out _ hHeld.1.1 hHeld.1.1.size).mono ?_
            rw [HRt.out, (sameF_iff t t).2 rfl]
            rintro e' wn ⟨rfl, hbn⟩
            have hz3 := hbn.size
            have hkn : (Below wx.heap.size wx wn ∧ Reads wn wn1.heap.size 1 A1 (bytesT t).length (byteCells (bytesT t))) ∧ Reads wn wn2.heap.size 1 A2 (bytesT t).length (byteCells (bytesT t)) := ⟨⟨hHeld.1.1.trans (hbn.mono hHeld.1.1.size), hHeld.1.2.below (hbn.mono (by omega))⟩, hHeld.2.below (hbn.mono (by omega))⟩
            clear hbn
            refine hK.out _ _ hkn (fun hHeld => ?_)
            clear hK K
            try simp only [Act.put, List.setIfInBounds_toArray, List.set_cons_zero, List.set_cons_succ]
            refine takeH 15 (v := ?v15u276) rfl (by kernel_rfl) (by kernel_rfl) (by kernel_rfl) rfl (fun _ _ _ h => h) (Or.inl ⟨by rfl, ?y15u276⟩) hHeld ?r15u276
            case y15u276 => (intro W hSW; (try dsimp only at hSW); go_simp; try with_reducible rfl)
            simp only [Act.put, List.setIfInBounds_toArray, List.set_cons_zero, List.set_cons_succ]
            refine takeH 16 (v := ?v16u277) rfl (by kernel_rfl) (by kernel_rfl) (by kernel_rfl) rfl (fun _ _ _ h => h) (Or.inl ⟨by rfl, ?y16u277⟩) hHeld ?r16u277
            case y16u277 => (intro W hSW; (try dsimp only at hSW); go_simp; try with_reducible rfl)
            simp only [Act.put, List.setIfInBounds_toArray, List.set_cons_zero, List.set_cons_succ]
            refine takeH 17 (v := ?v17u278) rfl (by kernel_rfl) (by kernel_rfl) (by kernel_rfl) rfl (fun _ _ _ h => h) (Or.inl ⟨by rfl, ?y17u278⟩) hHeld ?r17u278
            case y17u278 => (intro W hSW; (try dsimp only at hSW); have q0 := (HKX.out.next hSW.1.1).cell 6 rfl 0; have q1 := (HKX.out.next hSW.1.1).cell 6 rfl 1; have q2 := (HKX.out.next hSW.1.1).cell 6 rfl 2; have q3 := (HKX.out.next hSW.1.1).cell 6 rfl 3; have q4 := (HKX.out.next hSW.1.1).cell 6 rfl 4; simp only [List.getElem?_toArray, List.getElem?_cons_zero, List.getElem?_cons_succ] at q0 q1 q2 q3 q4; go_simp; try with_reducible rfl)
            simp only [Act.put, List.setIfInBounds_toArray, List.set_cons_zero, List.set_cons_succ]
            refine wpAnyH_ready (rs := [18]) (by kernel_rfl) (by simp) ?_
            refine AllReadyH.cons rfl (fun K hK => ?_) AllReadyH.nil
            go_simp
            with_reducible refine (Right_c HTt.out _ hHeld.1.1 hHeld.1.1.size).mono ?_
            rw [HRt.out]
            rintro e' wn ⟨rfl, hbn⟩
            have hz3' := hbn.size
            have hkn : (Below wx.heap.size wx wn ∧ Reads wn wn1.heap.size 1 A1 (bytesT t).length (byteCells (bytesT t))) ∧ Reads wn wn2.heap.size 1 A2 (bytesT t).length (byteCells (bytesT t)) := ⟨⟨hHeld.1.1.trans (hbn.mono hHeld.1.1.size), hHeld.1.2.below (hbn.mono (by omega))⟩, hHeld.2.below (hbn.mono (by omega))⟩
            clear hbn
            refine hK.out _ _ hkn (fun hHeld => ?_)
            clear hK K
            try simp only [Act.put, List.setIfInBounds_toArray, List.set_cons_zero, List.set_cons_succ]
            refine takeH 19 (v := ?v19u279) rfl (by kernel_rfl) (by kernel_rfl) (by kernel_rfl) rfl (fun _ _ _ h => h) (Or.inl ⟨by rfl, ?y19u279⟩) hHeld ?r19u279
            case y19u279 => (intro W hSW; (try dsimp only at hSW); go_simp; try with_reducible rfl)
            simp only [Act.put, List.setIfInBounds_toArray, List.set_cons_zero, List.set_cons_succ]
            refine takeH 20 (v := ?v20u280) rfl (by kernel_rfl) (by kernel_rfl) (by kernel_rfl) rfl (fun _ _ _ h => h) (Or.inl ⟨by rfl, ?y20u280⟩) hHeld ?r20u280
            case y20u280 => (intro W hSW; (try dsimp only at hSW); go_simp; try with_reducible rfl)
            simp only [Act.put, List.setIfInBounds_toArray, List.set_cons_zero, List.set_cons_succ]
            refine takeH 21 (v := ?v21u281) rfl (by kernel_rfl) (by kernel_rfl) (by kernel_rfl) rfl (fun _ _ _ h => h) (Or.inl ⟨by rfl, ?y21u281⟩) hHeld ?r21u281
            case y21u281 => (intro W hSW; (try dsimp only at hSW); have q0 := (HKX.out.next hSW.1.1).cell 5 rfl 0; have q1 := (HKX.out.next hSW.1.1).cell 5 rfl 1; have q2 := (HKX.out.next hSW.1.1).cell 5 rfl 2; have q3 := (HKX.out.next hSW.1.1).cell 5 rfl 3; have q4 := (HKX.out.next hSW.1.1).cell 5 rfl 4; simp only [List.getElem?_toArray, List.getElem?_cons_zero, List.getElem?_cons_succ] at q0 q1 q2 q3 q4; go_simp; try with_reducible rfl)
            simp only [Act.put, List.setIfInBounds_toArray, List.set_cons_zero, List.set_cons_succ]
            refine wpAnyH_ready (rs := [22]) (by kernel_rfl) (by simp) ?_
            refine AllReadyH.cons rfl (fun K hK => ?_) AllReadyH.nil
            go_simp
            with_reducible refine (Right_c HTu.out _ hHeld.1.1 hHeld.1.1.size).mono ?_
            rw [HRu.out]
            rintro e' wn ⟨rfl, hbn⟩
            have hz3' := hbn.size
            have hkn : (Below wx.heap.size wx wn ∧ Reads wn wn1.heap.size 1 A1 (bytesT t).length (byteCells (bytesT t))) ∧ Reads wn wn2.heap.size 1 A2 (bytesT t).length (byteCells (bytesT t)) := ⟨⟨hHeld.1.1.trans (hbn.mono hHeld.1.1.size), hHeld.1.2.below (hbn.mono (by omega))⟩, hHeld.2.below (hbn.mono (by omega))⟩
            clear hbn
            refine hK.out _ _ hkn (fun hHeld => ?_)
            clear hK K
            try simp only [Act.put, List.setIfInBounds_toArray, List.set_cons_zero, List.set_cons_succ]
            refine takeH 23 (v := ?v23u282) rfl (by kernel_rfl) (by kernel_rfl) (by kernel_rfl) rfl (fun _ _ _ h => h) (Or.inl ⟨by rfl, ?y23u282⟩) hHeld ?r23u282
            case y23u282 => (intro W hSW; (try dsimp only at hSW); go_simp; try with_reducible rfl)
            simp only [Act.put, List.setIfInBounds_toArray, List.set_cons_zero, List.set_cons_succ]
            refine takeH 24 (v := ?v24u283) rfl (by kernel_rfl) (by kernel_rfl) (by kernel_rfl) rfl (fun _ _ _ h => h) (Or.inl ⟨by rfl, ?y24u283⟩) hHeld ?r24u283
            case y24u283 => (intro W hSW; (try dsimp only at hSW); go_simp; try with_reducible rfl)
            simp only [Act.put, List.setIfInBounds_toArray, List.set_cons_zero, List.set_cons_succ]
            refine wpAnyH_done (by kernel_rfl) ?_ _
            refine NoPanic.normal ?_
            go_wp2
            go_ret
            exact ⟨rfl, HKX.out.bel.trans (hHeld.1.1.mono hzw)⟩
end Go.Proofs.Ytjkaklfhcefkcaa
