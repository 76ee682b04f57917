/- Lemmas and contracts that the proof of TopBytes uses, part 3 of 12: each is a theorem for every input that its premises allow. -/
import Derived.StillTailTactics
import Derived.Deep.RegionHeld3
import Derived.Deep.DeepCutAuto
import Derived.BigQuiet
import Derived.Deep.LoopGhost
import Derived.Test.YtpokkciheejeiaaGreatDoorTbB
set_option linter.unusedVariables false
set_option linter.unusedSimpArgs false
namespace Go.Proofs.YtpokkciheejeiaaGreatDoor
section
set_option maxRecDepth 100000
open Go.RowKit
abbrev ev0 : Evt := ⟨0, 0, 0, ⟨#[]⟩, 0, 0, 0⟩
def decC (c : Cx) (bs : List UInt8) : Evt × Cx × Int :=
  if rightC c = false then (ev0, c, 1) else if (readC c bs).2 = false then (ev0, c, 11)
  else if errC c (readC c bs).1 ≠ 0 ∨ bytesC c (readC c bs).1 ≠ bs then (ev0, c, 11) else ((readC c bs).1, nextC c (readC c bs).1, 0)
theorem fillE_cm (e : Evt) (l : List Int) : (fillE e l).cm = e.cm := rfl
theorem readC_cm (c : Cx) (bs : List UInt8) (h1 : bs.length ≤ maxLen) (h2 : ∀ s ∈ c.ns, s.length ≤ maxLen) : (readC c bs).1.cm.size ≤ maxLen := by
  unfold readC
  simp only [fillE_cm]
  show (_ : List UInt8).length ≤ maxLen
  split
  · unfold xRes
    split
    · exact Nat.zero_le _
    · split
      · exact Nat.zero_le _
      · split
        · exact Nat.zero_le _
        · simp only [List.length_take, List.length_drop]; omega
  · cases h : c.ns[(upRes bs _ _ 32).2.2 - 1]? with
    | none => exact Nat.zero_le _
    | some s => exact h2 s (List.mem_of_getElem? h)
theorem res_dec {W : World} {g g' : Nat} {x0 x1 x2 u y0 y1 y2 y3 y4 y5 y6 : Value} (h : Blk W g 44 #[y0, y1, y2, y3, y4, y5, y6]) (h' : Blk W g' 34 #[x0, x1, x2]) (tmps : Array Value) (ht : tmps[4]?.getD undef = .pointer (some ⟨g, 0, none⟩)) (ht' : tmps[5]?.getD undef = .pointer (some ⟨g', 0, none⟩)) (hu : tmps[6]?.getD undef = u) : (results Tryz.f179 tmps).run Tryz.prog W = .ok (.tuple #[.agg #[y0, y1, y2, y3, y4, y5, y6], .agg #[x0, x1, x2], u]) W := by
  have c0 : W.cell? ⟨g', 0, none⟩ = some x0 := h'.cell 0
  have c1 : W.cell? ⟨g', 1, none⟩ = some x1 := h'.cell 1
  have c2 : W.cell? ⟨g', 2, none⟩ = some x2 := h'.cell 2
  have d0 : W.cell? ⟨g, 0, none⟩ = some y0 := h.cell 0
  have d1 : W.cell? ⟨g, 1, none⟩ = some y1 := h.cell 1
  have d2 : W.cell? ⟨g, 2, none⟩ = some y2 := h.cell 2
  have d3 : W.cell? ⟨g, 3, none⟩ = some y3 := h.cell 3
  have d4 : W.cell? ⟨g, 4, none⟩ = some y4 := h.cell 4
  have d5 : W.cell? ⟨g, 5, none⟩ = some y5 := h.cell 5
  have d6 : W.cell? ⟨g, 6, none⟩ = some y6 := h.cell 6
  simp [results, Tryz.results179, go_sem, ht, ht', hu, c0, c1, c2, d0, d1, d2, d3, d4, d5, d6]
def DecPost (r : Evt × Cx × Int) (cells : Array Value) (X : List Nat) (w : World) (e : Ending) (w' : World) : Prop :=
  Below w.heap.size w w' ∧ ((r.2.2 ≠ 0 ∧ e = .returned (.tuple #[.agg (evA ev0), .agg cells, .int .i64 r.2.2])) ∨
    (r.2.2 = 0 ∧ ∃ A2 n2 c2, e = .returned (.tuple #[.agg (evA r.1), .agg #[.int .i64 r.1.q, .int .i64 r.1.a, .slice A2 n2 c2], .int .i64 0]) ∧ Sl nameSh w' X A2 n2 c2 r.2.1.ns))
set_option maxHeartbeats 8000000 in
theorem Decode_s (q a : Int) (ns : List (List UInt8)) (An : Option Addr) (nn cn : Nat) (A : Option Addr) (n c : Nat) (bs : List UInt8) (X : List Nat) (w : World) (hX : XOk X w) (hs : Sl nameSh w X An nn cn ns) (B : Nat) (hr : Reads w B 1 A n (byteCells bs)) (hB : B ≤ w.heap.size) (hnc : n ≤ c) (hcm : c ≤ 9223372036854775807) (hnn : nn ≤ 1000) (hn : n ≤ 10000) :
    Calls Tryz.prog 179 #[.agg #[.int .i64 q, .int .i64 a, .slice An nn cn], .slice A n c] w (DecPost (decC ⟨q, a, ns⟩ bs) #[.int .i64 q, .int .i64 a, .slice An nn cn] X w) := by
  have HCM := Lib.hid (readC_cm ⟨q, a, ns⟩ bs (by have h1 : bs.length = n := hr.lenB; unfold maxLen; omega) (fun s hm => by have h1 := hs.names.2 (strB s) (List.mem_map_of_mem hm); simpa [strB, ByteArray.size] using h1))
  have HD : Hid (decC ⟨q, a, ns⟩ bs = if rightC ⟨q, a, ns⟩ = false then (ev0, ⟨q, a, ns⟩, 1) else if (readC ⟨q, a, ns⟩ bs).2 = false then (ev0, ⟨q, a, ns⟩, 11) else if errC ⟨q, a, ns⟩ (readC ⟨q, a, ns⟩ bs).1 ≠ 0 ∨ bytesC ⟨q, a, ns⟩ (readC ⟨q, a, ns⟩ bs).1 ≠ bs then (ev0, ⟨q, a, ns⟩, 11) else ((readC ⟨q, a, ns⟩ bs).1, nextC ⟨q, a, ns⟩ (readC ⟨q, a, ns⟩ bs).1, 0)) := rfl
  unfold DecPost
  generalize decC ⟨q, a, ns⟩ bs = r at HD ⊢
  have HRt := Lib.hid (show rightC ⟨q, a, ns⟩ = true → (0 ≤ q ∧ q ≤ 4294967296 ∧ 0 ≤ a ∧ a ≤ 1099511627776) from fun h => by
    unfold rightC at h
    simp only [Bool.and_eq_true, decide_eq_true_iff] at h
    exact ⟨h.1.1.1.1, h.1.1.1.2, h.1.1.2, h.1.2⟩)
  have HR := fun (A : Option Addr) (n c : Nat) (X : List Nat) (W : World) (h : Sl nameSh W X A n c ns) (hn : n ≤ 1000) => Lib.hid (cRight_s q a ns A n c X W h hn)
  have HRD := fun (X : List Nat) (W : World) (hX : XOk X W) (hs : Sl nameSh W X An nn cn ns) (hr : Reads W B 1 A n (byteCells bs)) (hB : B ≤ W.heap.size) (h1 : 0 ≤ q) (h2 : q ≤ 4294967296) (h3 : 0 ≤ a) (h4 : a ≤ 1099511627776) => Lib.hid (read_s q a ns An nn cn A n c bs X W hX hs B hr hB hnc hcm hnn hn h1 h2 h3 h4)
  have HEN := fun (X : List Nat) (W : World) (hX : XOk X W) (hs : Sl nameSh W X An nn cn ns) => Lib.hid (Encode_s q a ns An nn cn (readC ⟨q, a, ns⟩ bs).1 X W hX hs hnn HCM.out)
  generalize rightC ⟨q, a, ns⟩ = rc at HD HR HRt
  generalize readC ⟨q, a, ns⟩ bs = rd at HD HRD HEN
  obtain ⟨⟨eq, ea, ek, cm, ex, ey, ez⟩, ok⟩ := rd
  have HNX : Hid (∀ v, (nextC ⟨q, a, ns⟩ v).q = v.q ∧ (nextC ⟨q, a, ns⟩ v).a = v.a) := fun v => ⟨rfl, rfl⟩
  unfold EncPost at HEN
  generalize errC ⟨q, a, ns⟩ _ = er at HD HEN
  generalize bytesC ⟨q, a, ns⟩ _ = eb at HD HEN
  generalize nextC ⟨q, a, ns⟩ _ = nx at HD HEN
  clear HCM HNX
  simp only at HD HRD HEN
  have HK1 := Lib.hid (show Held w [] X (((w.alloc (.cells #[.int .i64 q, .int .i64 a, .slice An nn cn] 34)).alloc (.cells #[.int .i64 0, .int .i64 0, .int .i64 0, .string ⟨#[]⟩, .int .i64 0, .int .i64 0, .int .i64 0] 44)).alloc (.cells #[.int .i64 0, .int .i64 0, .slice none 0 0] 34)) [.box (w.heap.size + 2) 34 #[.int .i64 0, .int .i64 0, .slice none 0 0], .box (w.heap.size + 1) 44 #[.int .i64 0, .int .i64 0, .int .i64 0, .string ⟨#[]⟩, .int .i64 0, .int .i64 0, .int .i64 0], .box (w.heap.size) 34 #[.int .i64 q, .int .i64 a, .slice An nn cn]] [Sl.fact nameSh An nn cn ns] from (((((Held.start w hX).alloc_at 34 #[.int .i64 q, .int .i64 a, .slice An nn cn] (w.heap.size) (by simp)).alloc_at 44 #[.int .i64 0, .int .i64 0, .int .i64 0, .string ⟨#[]⟩, .int .i64 0, .int .i64 0, .int .i64 0] (w.heap.size + 1) (by simp)).alloc_at 34 #[.int .i64 0, .int .i64 0, .slice none 0 0] (w.heap.size + 2) (by simp)).know0 (Sl.fact nameSh An nn cn ns) hs))
  have HR0 := Lib.hid hr
  clear hs hr
  go_enter Tryz.func179, Tryz.ntmps179
  go_wp2_with fail
  with_reducible refine ((HR An nn cn _ _ (HK1.out.sl 0 rfl) hnn).out).mono ?_
  rintro e w1 ⟨rfl, hb⟩
  have HK2 := Lib.hid (show Held w [] X w1 [.box (w.heap.size + 2) 34 #[.int .i64 0, .int .i64 0, .slice none 0 0], .box (w.heap.size + 1) 44 #[.int .i64 0, .int .i64 0, .int .i64 0, .string ⟨#[]⟩, .int .i64 0, .int .i64 0, .int .i64 0], .box (w.heap.size) 34 #[.int .i64 q, .int .i64 a, .slice An nn cn]] [Sl.fact nameSh An nn cn ns] from (HK1.out.on hb))
  clear HK1
  clear hb
  cases rc
  · skip
    rw [if_pos rfl] at HD
    have c_c_0_3 : w1.cell? ⟨w.heap.size, 0, none⟩ = some (.int .i64 q) := HK2.out.cell 2 rfl 0
    have c_c_1_4 : w1.cell? ⟨w.heap.size, 1, none⟩ = some (.int .i64 a) := HK2.out.cell 2 rfl 1
    have c_c_2_5 : w1.cell? ⟨w.heap.size, 2, none⟩ = some (.slice An nn cn) := HK2.out.cell 2 rfl 2
    go_wp2_with fail
    clear c_c_0_3 c_c_1_4 c_c_2_5
    refine wp_region_noPanic ?_
    refine wp_region_held_drew (S := fun W' => Blk W' (w.heap.size) 34 #[.int .i64 q, .int .i64 a, .slice An nn cn]) (by kernel_rfl) (HK2.out.blk 2 rfl).drew (fun hHeld => ?_)
    have HK6 := Lib.hid (show Held w [] X w1.drew [.box (w.heap.size + 2) 34 #[.int .i64 0, .int .i64 0, .slice none 0 0], .box (w.heap.size + 1) 44 #[.int .i64 0, .int .i64 0, .int .i64 0, .string ⟨#[]⟩, .int .i64 0, .int .i64 0, .int .i64 0], .box (w.heap.size) 34 #[.int .i64 q, .int .i64 a, .slice An nn cn]] [Sl.fact nameSh An nn cn ns] from HK2.out.drew)
    clear HK2
    generalize w1.drew = wd at hHeld HK6 ⊢
    have c_re_0_7 : wd.cell? ⟨w.heap.size + 1, 0, none⟩ = some (.int .i64 0) := HK6.out.cell 1 rfl 0
    have z_re_0_8 : wd.frozen? ⟨w.heap.size + 1, 0, none⟩ = false := HK6.out.frozen 1 rfl 0
    have c_re_1_9 : wd.cell? ⟨w.heap.size + 1, 1, none⟩ = some (.int .i64 0) := HK6.out.cell 1 rfl 1
    have z_re_1_10 : wd.frozen? ⟨w.heap.size + 1, 1, none⟩ = false := HK6.out.frozen 1 rfl 1
    have c_re_2_11 : wd.cell? ⟨w.heap.size + 1, 2, none⟩ = some (.int .i64 0) := HK6.out.cell 1 rfl 2
    have z_re_2_12 : wd.frozen? ⟨w.heap.size + 1, 2, none⟩ = false := HK6.out.frozen 1 rfl 2
    have c_re_3_13 : wd.cell? ⟨w.heap.size + 1, 3, none⟩ = some (.string ⟨#[]⟩) := HK6.out.cell 1 rfl 3
    have z_re_3_14 : wd.frozen? ⟨w.heap.size + 1, 3, none⟩ = false := HK6.out.frozen 1 rfl 3
    have c_re_4_15 : wd.cell? ⟨w.heap.size + 1, 4, none⟩ = some (.int .i64 0) := HK6.out.cell 1 rfl 4
    have z_re_4_16 : wd.frozen? ⟨w.heap.size + 1, 4, none⟩ = false := HK6.out.frozen 1 rfl 4
    have c_re_5_17 : wd.cell? ⟨w.heap.size + 1, 5, none⟩ = some (.int .i64 0) := HK6.out.cell 1 rfl 5
    have z_re_5_18 : wd.frozen? ⟨w.heap.size + 1, 5, none⟩ = false := HK6.out.frozen 1 rfl 5
    have c_re_6_19 : wd.cell? ⟨w.heap.size + 1, 6, none⟩ = some (.int .i64 0) := HK6.out.cell 1 rfl 6
    have z_re_6_20 : wd.frozen? ⟨w.heap.size + 1, 6, none⟩ = false := HK6.out.frozen 1 rfl 6
    have c_rc_0_21 : wd.cell? ⟨w.heap.size + 2, 0, none⟩ = some (.int .i64 0) := HK6.out.cell 0 rfl 0
    have z_rc_0_22 : wd.frozen? ⟨w.heap.size + 2, 0, none⟩ = false := HK6.out.frozen 0 rfl 0
    have c_rc_1_23 : wd.cell? ⟨w.heap.size + 2, 1, none⟩ = some (.int .i64 0) := HK6.out.cell 0 rfl 1
    have z_rc_1_24 : wd.frozen? ⟨w.heap.size + 2, 1, none⟩ = false := HK6.out.frozen 0 rfl 1
    have c_rc_2_25 : wd.cell? ⟨w.heap.size + 2, 2, none⟩ = some (.slice none 0 0) := HK6.out.cell 0 rfl 2
    have z_rc_2_26 : wd.frozen? ⟨w.heap.size + 2, 2, none⟩ = false := HK6.out.frozen 0 rfl 2
    have ne_27 : ¬ (w.heap.size + 1 = w.heap.size + 2) := HK6.out.ne 1 0 (by decide) rfl rfl
    have ne_28 : ¬ (w.heap.size + 2 = w.heap.size + 1) := HK6.out.ne 0 1 (by decide) rfl rfl
    have ne_29 : ¬ (w.heap.size + 1 = w.heap.size) := HK6.out.ne 1 2 (by decide) rfl rfl
    have ne_30 : ¬ (w.heap.size = w.heap.size + 1) := HK6.out.ne 2 1 (by decide) rfl rfl
    have ne_31 : ¬ (w.heap.size = w.heap.size + 2) := HK6.out.ne 2 0 (by decide) rfl rfl
    have ne_32 : ¬ (w.heap.size + 2 = w.heap.size) := HK6.out.ne 0 2 (by decide) rfl rfl
    refine takeH 0 (v := ?v0u1) rfl (by kernel_rfl) (by kernel_rfl) (by kernel_rfl) rfl (fun _ _ _ h => h) (Or.inl ⟨by rfl, ?y0u1⟩) hHeld ?r0u1
    case y0u1 => (intro W hSW; (try dsimp only at hSW); go_simp; try with_reducible rfl)
    simp only [Act.put, sI, sZ, sS]
    refine takeH 1 (v := ?v1u2) rfl (by kernel_rfl) (by kernel_rfl) (by kernel_rfl) rfl (fun _ _ _ h => h) (Or.inl ⟨by rfl, ?y1u2⟩) hHeld ?r1u2
    case y1u2 => (intro W hSW; (try dsimp only at hSW); have q0 : W.cell? ⟨w.heap.size, 0, none⟩ = some (.int .i64 q) := hSW.cell 0; have q1 : W.cell? ⟨w.heap.size, 1, none⟩ = some (.int .i64 a) := hSW.cell 1; have q2 : W.cell? ⟨w.heap.size, 2, none⟩ = some (.slice An nn cn) := hSW.cell 2; go_simp; try with_reducible rfl)
    simp only [Act.put, sI, sZ, sS]
    refine wpAnyH_ready (rs := [2]) (by kernel_rfl) (by simp) ?_
    refine AllReadyH.cons rfl (fun K hK => ?_) AllReadyH.nil
    go_simp
    refine hK.out _ _ (((((((hHeld.far (p := ⟨w.heap.size + 1, 0, none⟩) (HK6.out.ne 2 1 (by decide) rfl rfl) (.int .i64 0)).far (p := ⟨w.heap.size + 1, 1, none⟩) (HK6.out.ne 2 1 (by decide) rfl rfl) (.int .i64 0)).far (p := ⟨w.heap.size + 1, 2, none⟩) (HK6.out.ne 2 1 (by decide) rfl rfl) (.int .i64 0)).far (p := ⟨w.heap.size + 1, 3, none⟩) (HK6.out.ne 2 1 (by decide) rfl rfl) (.string ⟨#[]⟩)).far (p := ⟨w.heap.size + 1, 4, none⟩) (HK6.out.ne 2 1 (by decide) rfl rfl) (.int .i64 0)).far (p := ⟨w.heap.size + 1, 5, none⟩) (HK6.out.ne 2 1 (by decide) rfl rfl) (.int .i64 0)).far (p := ⟨w.heap.size + 1, 6, none⟩) (HK6.out.ne 2 1 (by decide) rfl rfl) (.int .i64 0)) (fun hHeld => ?_)
    clear hK K
    try simp only [Act.put, sI, sZ, sS]
    refine wpAnyH_ready (rs := [3]) (by kernel_rfl) (by simp) ?_
    refine AllReadyH.cons rfl (fun K hK => ?_) AllReadyH.nil
    go_simp
    refine hK.out _ _ (((hHeld.far (p := ⟨w.heap.size + 2, 0, none⟩) (HK6.out.ne 2 0 (by decide) rfl rfl) (.int .i64 q)).far (p := ⟨w.heap.size + 2, 1, none⟩) (HK6.out.ne 2 0 (by decide) rfl rfl) (.int .i64 a)).far (p := ⟨w.heap.size + 2, 2, none⟩) (HK6.out.ne 2 0 (by decide) rfl rfl) (.slice An nn cn)) (fun hHeld => ?_)
    clear hK K
    try simp only [Act.put, sI, sZ, sS]
    refine takeH 4 (v := ?v4u3) rfl (by kernel_rfl) (by kernel_rfl) (by kernel_rfl) rfl (fun _ _ _ h => h) (Or.inl ⟨by rfl, ?y4u3⟩) hHeld ?r4u3
    case y4u3 => (intro W hSW; (try dsimp only at hSW); go_simp; try with_reducible rfl)
    simp only [Act.put, sI, sZ, sS]
    refine wpAnyH_done (by kernel_rfl) ?_ _
    refine NoPanic.normal ?_
    clear c_re_0_7 z_re_0_8 c_re_1_9 z_re_1_10 c_re_2_11 z_re_2_12 c_re_3_13 z_re_3_14 c_re_4_15 z_re_4_16 c_re_5_17 z_re_5_18 c_re_6_19 z_re_6_20 c_rc_0_21 z_rc_0_22 c_rc_1_23 z_rc_1_24 c_rc_2_25 z_rc_2_26 ne_27 ne_28 ne_29 ne_30 ne_31 ne_32
    have HK33 := Lib.hid (show Held w [] X (((((((wd.setCell ⟨w.heap.size + 1, 0, none⟩ (.int .i64 0)).setCell ⟨w.heap.size + 1, 1, none⟩ (.int .i64 0)).setCell ⟨w.heap.size + 1, 2, none⟩ (.int .i64 0)).setCell ⟨w.heap.size + 1, 3, none⟩ (.string ⟨#[]⟩)).setCell ⟨w.heap.size + 1, 4, none⟩ (.int .i64 0)).setCell ⟨w.heap.size + 1, 5, none⟩ (.int .i64 0)).setCell ⟨w.heap.size + 1, 6, none⟩ (.int .i64 0)) [.box (w.heap.size + 2) 34 #[.int .i64 0, .int .i64 0, .slice none 0 0], .box (w.heap.size + 1) 44 #[.int .i64 0, .int .i64 0, .int .i64 0, .string ⟨#[]⟩, .int .i64 0, .int .i64 0, .int .i64 0], .box (w.heap.size) 34 #[.int .i64 q, .int .i64 a, .slice An nn cn]] [Sl.fact nameSh An nn cn ns] from (((((((HK6.out.set_ 1 rfl 0 (.int .i64 0)).set_ 1 rfl 1 (.int .i64 0)).set_ 1 rfl 2 (.int .i64 0)).set_ 1 rfl 3 (.string ⟨#[]⟩)).set_ 1 rfl 4 (.int .i64 0)).set_ 1 rfl 5 (.int .i64 0)).set_ 1 rfl 6 (.int .i64 0)))
    clear HK6
    have HK34 := Lib.hid (show Held w [] X ((((((((((wd.setCell ⟨w.heap.size + 1, 0, none⟩ (.int .i64 0)).setCell ⟨w.heap.size + 1, 1, none⟩ (.int .i64 0)).setCell ⟨w.heap.size + 1, 2, none⟩ (.int .i64 0)).setCell ⟨w.heap.size + 1, 3, none⟩ (.string ⟨#[]⟩)).setCell ⟨w.heap.size + 1, 4, none⟩ (.int .i64 0)).setCell ⟨w.heap.size + 1, 5, none⟩ (.int .i64 0)).setCell ⟨w.heap.size + 1, 6, none⟩ (.int .i64 0)).setCell ⟨w.heap.size + 2, 0, none⟩ (.int .i64 q)).setCell ⟨w.heap.size + 2, 1, none⟩ (.int .i64 a)).setCell ⟨w.heap.size + 2, 2, none⟩ (.slice An nn cn)) [.box (w.heap.size + 2) 34 #[.int .i64 q, .int .i64 a, .slice An nn cn], .box (w.heap.size + 1) 44 #[.int .i64 0, .int .i64 0, .int .i64 0, .string ⟨#[]⟩, .int .i64 0, .int .i64 0, .int .i64 0], .box (w.heap.size) 34 #[.int .i64 q, .int .i64 a, .slice An nn cn]] [Sl.fact nameSh An nn cn ns] from (((HK33.out.set_ 0 rfl 0 (.int .i64 q)).set_ 0 rfl 1 (.int .i64 a)).set_ 0 rfl 2 (.slice An nn cn)))
    clear HK33
    go_wp2
    exact bodyPost_ret (res_dec (HK34.out.blk 1 rfl) (HK34.out.blk 0 rfl) (u := .int .i64 (1)) _ rfl rfl rfl) rfl ⟨HK34.out.below, .inl ⟨by rw [HD.out]; exact (by decide : (1 : Int) ≠ 0), by rw [HD.out]⟩⟩
  rw [if_neg (by simp)] at HD
  obtain ⟨hq0, hq1, ha0, ha1⟩ := HRt.out rfl
  clear HRt HR
  have c_c_0_3 : w1.cell? ⟨w.heap.size, 0, none⟩ = some (.int .i64 q) := HK2.out.cell 2 rfl 0
  have c_c_1_4 : w1.cell? ⟨w.heap.size, 1, none⟩ = some (.int .i64 a) := HK2.out.cell 2 rfl 1
  have c_c_2_5 : w1.cell? ⟨w.heap.size, 2, none⟩ = some (.slice An nn cn) := HK2.out.cell 2 rfl 2
  go_wp2_with fail
  with_reducible refine ((HRD _ _ HK2.out.xok' (HK2.out.sl 0 rfl) (HR0.out.below (HK2.out.below.mono hB)) (Nat.le_trans hB HK2.out.size) hq0 hq1 ha0 ha1).out).mono ?_
  rintro e w2 ⟨rfl, hb⟩
  clear c_c_0_3 c_c_1_4 c_c_2_5
  have HK6 := Lib.hid (show Held w [] X w2 [.box (w.heap.size + 2) 34 #[.int .i64 0, .int .i64 0, .slice none 0 0], .box (w.heap.size + 1) 44 #[.int .i64 0, .int .i64 0, .int .i64 0, .string ⟨#[]⟩, .int .i64 0, .int .i64 0, .int .i64 0], .box (w.heap.size) 34 #[.int .i64 q, .int .i64 a, .slice An nn cn]] [Sl.fact nameSh An nn cn ns] from (HK2.out.on hb))
  clear HK2
  clear hb
  clear HRD
  have HK7 := Lib.hid (show Held w [] X (w2.alloc (.cells #[.int .i64 eq, .int .i64 ea, .int .i64 ek, .string cm, .int .i64 ex, .int .i64 ey, .int .i64 ez] 44)) [.box (w2.heap.size) 44 #[.int .i64 eq, .int .i64 ea, .int .i64 ek, .string cm, .int .i64 ex, .int .i64 ey, .int .i64 ez], .box (w.heap.size + 2) 34 #[.int .i64 0, .int .i64 0, .slice none 0 0], .box (w.heap.size + 1) 44 #[.int .i64 0, .int .i64 0, .int .i64 0, .string ⟨#[]⟩, .int .i64 0, .int .i64 0, .int .i64 0], .box (w.heap.size) 34 #[.int .i64 q, .int .i64 a, .slice An nn cn]] [Sl.fact nameSh An nn cn ns] from HK6.out.alloc_at 44 #[.int .i64 eq, .int .i64 ea, .int .i64 ek, .string cm, .int .i64 ex, .int .i64 ey, .int .i64 ez] (w2.heap.size) (by simp))
  clear HK6
  cases ok
  · skip
    rw [if_pos rfl] at HD
    go_upto_region 5 with (fail)
    generalize w2.alloc (.cells #[.int .i64 eq, .int .i64 ea, .int .i64 ek, .string cm, .int .i64 ex, .int .i64 ey, .int .i64 ez] 44) = w3 at HK7 ⊢
    generalize w2.heap.size = ge at HK7 ⊢
    have c_c_0_8 : w3.cell? ⟨w.heap.size, 0, none⟩ = some (.int .i64 q) := HK7.out.cell 3 rfl 0
    have c_c_1_9 : w3.cell? ⟨w.heap.size, 1, none⟩ = some (.int .i64 a) := HK7.out.cell 3 rfl 1
    have c_c_2_10 : w3.cell? ⟨w.heap.size, 2, none⟩ = some (.slice An nn cn) := HK7.out.cell 3 rfl 2
    go_wp2_with fail
    clear c_c_0_8 c_c_1_9 c_c_2_10
    refine wp_region_noPanic ?_
    refine wp_region_held_drew (S := fun W' => Blk W' (w.heap.size) 34 #[.int .i64 q, .int .i64 a, .slice An nn cn]) (by kernel_rfl) (HK7.out.blk 3 rfl).drew (fun hHeld => ?_)
    have HK11 := Lib.hid (show Held w [] X w3.drew [.box (ge) 44 #[.int .i64 eq, .int .i64 ea, .int .i64 ek, .string cm, .int .i64 ex, .int .i64 ey, .int .i64 ez], .box (w.heap.size + 2) 34 #[.int .i64 0, .int .i64 0, .slice none 0 0], .box (w.heap.size + 1) 44 #[.int .i64 0, .int .i64 0, .int .i64 0, .string ⟨#[]⟩, .int .i64 0, .int .i64 0, .int .i64 0], .box (w.heap.size) 34 #[.int .i64 q, .int .i64 a, .slice An nn cn]] [Sl.fact nameSh An nn cn ns] from HK7.out.drew)
    clear HK7
    generalize w3.drew = wd at hHeld HK11 ⊢
    have c_re_0_12 : wd.cell? ⟨w.heap.size + 1, 0, none⟩ = some (.int .i64 0) := HK11.out.cell 2 rfl 0
    have z_re_0_13 : wd.frozen? ⟨w.heap.size + 1, 0, none⟩ = false := HK11.out.frozen 2 rfl 0
    have c_re_1_14 : wd.cell? ⟨w.heap.size + 1, 1, none⟩ = some (.int .i64 0) := HK11.out.cell 2 rfl 1
    have z_re_1_15 : wd.frozen? ⟨w.heap.size + 1, 1, none⟩ = false := HK11.out.frozen 2 rfl 1
    have c_re_2_16 : wd.cell? ⟨w.heap.size + 1, 2, none⟩ = some (.int .i64 0) := HK11.out.cell 2 rfl 2
    have z_re_2_17 : wd.frozen? ⟨w.heap.size + 1, 2, none⟩ = false := HK11.out.frozen 2 rfl 2
    have c_re_3_18 : wd.cell? ⟨w.heap.size + 1, 3, none⟩ = some (.string ⟨#[]⟩) := HK11.out.cell 2 rfl 3
    have z_re_3_19 : wd.frozen? ⟨w.heap.size + 1, 3, none⟩ = false := HK11.out.frozen 2 rfl 3
    have c_re_4_20 : wd.cell? ⟨w.heap.size + 1, 4, none⟩ = some (.int .i64 0) := HK11.out.cell 2 rfl 4
    have z_re_4_21 : wd.frozen? ⟨w.heap.size + 1, 4, none⟩ = false := HK11.out.frozen 2 rfl 4
    have c_re_5_22 : wd.cell? ⟨w.heap.size + 1, 5, none⟩ = some (.int .i64 0) := HK11.out.cell 2 rfl 5
    have z_re_5_23 : wd.frozen? ⟨w.heap.size + 1, 5, none⟩ = false := HK11.out.frozen 2 rfl 5
    have c_re_6_24 : wd.cell? ⟨w.heap.size + 1, 6, none⟩ = some (.int .i64 0) := HK11.out.cell 2 rfl 6
    have z_re_6_25 : wd.frozen? ⟨w.heap.size + 1, 6, none⟩ = false := HK11.out.frozen 2 rfl 6
    have c_rc_0_26 : wd.cell? ⟨w.heap.size + 2, 0, none⟩ = some (.int .i64 0) := HK11.out.cell 1 rfl 0
    have z_rc_0_27 : wd.frozen? ⟨w.heap.size + 2, 0, none⟩ = false := HK11.out.frozen 1 rfl 0
    have c_rc_1_28 : wd.cell? ⟨w.heap.size + 2, 1, none⟩ = some (.int .i64 0) := HK11.out.cell 1 rfl 1
    have z_rc_1_29 : wd.frozen? ⟨w.heap.size + 2, 1, none⟩ = false := HK11.out.frozen 1 rfl 1
    have c_rc_2_30 : wd.cell? ⟨w.heap.size + 2, 2, none⟩ = some (.slice none 0 0) := HK11.out.cell 1 rfl 2
    have z_rc_2_31 : wd.frozen? ⟨w.heap.size + 2, 2, none⟩ = false := HK11.out.frozen 1 rfl 2
    have ne_32 : ¬ (w.heap.size + 1 = w.heap.size + 2) := HK11.out.ne 2 1 (by decide) rfl rfl
    have ne_33 : ¬ (w.heap.size + 2 = w.heap.size + 1) := HK11.out.ne 1 2 (by decide) rfl rfl
    have ne_34 : ¬ (w.heap.size + 1 = w.heap.size) := HK11.out.ne 2 3 (by decide) rfl rfl
    have ne_35 : ¬ (w.heap.size = w.heap.size + 1) := HK11.out.ne 3 2 (by decide) rfl rfl
    have ne_36 : ¬ (w.heap.size = w.heap.size + 2) := HK11.out.ne 3 1 (by decide) rfl rfl
    have ne_37 : ¬ (w.heap.size + 2 = w.heap.size) := HK11.out.ne 1 3 (by decide) rfl rfl
    refine takeH 0 (v := ?v0u4) rfl (by kernel_rfl) (by kernel_rfl) (by kernel_rfl) rfl (fun _ _ _ h => h) (Or.inl ⟨by rfl, ?y0u4⟩) hHeld ?r0u4
    case y0u4 => (intro W hSW; (try dsimp only at hSW); go_simp; try with_reducible rfl)
    simp only [Act.put, sI, sZ, sS]
    refine takeH 1 (v := ?v1u5) rfl (by kernel_rfl) (by kernel_rfl) (by kernel_rfl) rfl (fun _ _ _ h => h) (Or.inl ⟨by rfl, ?y1u5⟩) hHeld ?r1u5
    case y1u5 => (intro W hSW; (try dsimp only at hSW); have q0 : W.cell? ⟨w.heap.size, 0, none⟩ = some (.int .i64 q) := hSW.cell 0; have q1 : W.cell? ⟨w.heap.size, 1, none⟩ = some (.int .i64 a) := hSW.cell 1; have q2 : W.cell? ⟨w.heap.size, 2, none⟩ = some (.slice An nn cn) := hSW.cell 2; go_simp; try with_reducible rfl)
    simp only [Act.put, sI, sZ, sS]
    refine wpAnyH_ready (rs := [2]) (by kernel_rfl) (by simp) ?_
    refine AllReadyH.cons rfl (fun K hK => ?_) AllReadyH.nil
    go_simp
    refine hK.out _ _ (((((((hHeld.far (p := ⟨w.heap.size + 1, 0, none⟩) (HK11.out.ne 3 2 (by decide) rfl rfl) (.int .i64 0)).far (p := ⟨w.heap.size + 1, 1, none⟩) (HK11.out.ne 3 2 (by decide) rfl rfl) (.int .i64 0)).far (p := ⟨w.heap.size + 1, 2, none⟩) (HK11.out.ne 3 2 (by decide) rfl rfl) (.int .i64 0)).far (p := ⟨w.heap.size + 1, 3, none⟩) (HK11.out.ne 3 2 (by decide) rfl rfl) (.string ⟨#[]⟩)).far (p := ⟨w.heap.size + 1, 4, none⟩) (HK11.out.ne 3 2 (by decide) rfl rfl) (.int .i64 0)).far (p := ⟨w.heap.size + 1, 5, none⟩) (HK11.out.ne 3 2 (by decide) rfl rfl) (.int .i64 0)).far (p := ⟨w.heap.size + 1, 6, none⟩) (HK11.out.ne 3 2 (by decide) rfl rfl) (.int .i64 0)) (fun hHeld => ?_)
    clear hK K
    try simp only [Act.put, sI, sZ, sS]
    refine wpAnyH_ready (rs := [3]) (by kernel_rfl) (by simp) ?_
    refine AllReadyH.cons rfl (fun K hK => ?_) AllReadyH.nil
    go_simp
    refine hK.out _ _ (((hHeld.far (p := ⟨w.heap.size + 2, 0, none⟩) (HK11.out.ne 3 1 (by decide) rfl rfl) (.int .i64 q)).far (p := ⟨w.heap.size + 2, 1, none⟩) (HK11.out.ne 3 1 (by decide) rfl rfl) (.int .i64 a)).far (p := ⟨w.heap.size + 2, 2, none⟩) (HK11.out.ne 3 1 (by decide) rfl rfl) (.slice An nn cn)) (fun hHeld => ?_)
    clear hK K
    try simp only [Act.put, sI, sZ, sS]
    refine takeH 4 (v := ?v4u6) rfl (by kernel_rfl) (by kernel_rfl) (by kernel_rfl) rfl (fun _ _ _ h => h) (Or.inl ⟨by rfl, ?y4u6⟩) hHeld ?r4u6
    case y4u6 => (intro W hSW; (try dsimp only at hSW); go_simp; try with_reducible rfl)
    simp only [Act.put, sI, sZ, sS]
    refine wpAnyH_done (by kernel_rfl) ?_ _
    refine NoPanic.normal ?_
    clear c_re_0_12 z_re_0_13 c_re_1_14 z_re_1_15 c_re_2_16 z_re_2_17 c_re_3_18 z_re_3_19 c_re_4_20 z_re_4_21 c_re_5_22 z_re_5_23 c_re_6_24 z_re_6_25 c_rc_0_26 z_rc_0_27 c_rc_1_28 z_rc_1_29 c_rc_2_30 z_rc_2_31 ne_32 ne_33 ne_34 ne_35 ne_36 ne_37
    have HK38 := Lib.hid (show Held w [] X (((((((wd.setCell ⟨w.heap.size + 1, 0, none⟩ (.int .i64 0)).setCell ⟨w.heap.size + 1, 1, none⟩ (.int .i64 0)).setCell ⟨w.heap.size + 1, 2, none⟩ (.int .i64 0)).setCell ⟨w.heap.size + 1, 3, none⟩ (.string ⟨#[]⟩)).setCell ⟨w.heap.size + 1, 4, none⟩ (.int .i64 0)).setCell ⟨w.heap.size + 1, 5, none⟩ (.int .i64 0)).setCell ⟨w.heap.size + 1, 6, none⟩ (.int .i64 0)) [.box (ge) 44 #[.int .i64 eq, .int .i64 ea, .int .i64 ek, .string cm, .int .i64 ex, .int .i64 ey, .int .i64 ez], .box (w.heap.size + 2) 34 #[.int .i64 0, .int .i64 0, .slice none 0 0], .box (w.heap.size + 1) 44 #[.int .i64 0, .int .i64 0, .int .i64 0, .string ⟨#[]⟩, .int .i64 0, .int .i64 0, .int .i64 0], .box (w.heap.size) 34 #[.int .i64 q, .int .i64 a, .slice An nn cn]] [Sl.fact nameSh An nn cn ns] from (((((((HK11.out.set_ 2 rfl 0 (.int .i64 0)).set_ 2 rfl 1 (.int .i64 0)).set_ 2 rfl 2 (.int .i64 0)).set_ 2 rfl 3 (.string ⟨#[]⟩)).set_ 2 rfl 4 (.int .i64 0)).set_ 2 rfl 5 (.int .i64 0)).set_ 2 rfl 6 (.int .i64 0)))
    clear HK11
    have HK39 := Lib.hid (show Held w [] X ((((((((((wd.setCell ⟨w.heap.size + 1, 0, none⟩ (.int .i64 0)).setCell ⟨w.heap.size + 1, 1, none⟩ (.int .i64 0)).setCell ⟨w.heap.size + 1, 2, none⟩ (.int .i64 0)).setCell ⟨w.heap.size + 1, 3, none⟩ (.string ⟨#[]⟩)).setCell ⟨w.heap.size + 1, 4, none⟩ (.int .i64 0)).setCell ⟨w.heap.size + 1, 5, none⟩ (.int .i64 0)).setCell ⟨w.heap.size + 1, 6, none⟩ (.int .i64 0)).setCell ⟨w.heap.size + 2, 0, none⟩ (.int .i64 q)).setCell ⟨w.heap.size + 2, 1, none⟩ (.int .i64 a)).setCell ⟨w.heap.size + 2, 2, none⟩ (.slice An nn cn)) [.box (ge) 44 #[.int .i64 eq, .int .i64 ea, .int .i64 ek, .string cm, .int .i64 ex, .int .i64 ey, .int .i64 ez], .box (w.heap.size + 2) 34 #[.int .i64 q, .int .i64 a, .slice An nn cn], .box (w.heap.size + 1) 44 #[.int .i64 0, .int .i64 0, .int .i64 0, .string ⟨#[]⟩, .int .i64 0, .int .i64 0, .int .i64 0], .box (w.heap.size) 34 #[.int .i64 q, .int .i64 a, .slice An nn cn]] [Sl.fact nameSh An nn cn ns] from (((HK38.out.set_ 1 rfl 0 (.int .i64 q)).set_ 1 rfl 1 (.int .i64 a)).set_ 1 rfl 2 (.slice An nn cn)))
    clear HK38
    go_wp2
    exact bodyPost_ret (res_dec (HK39.out.blk 2 rfl) (HK39.out.blk 1 rfl) (u := .int .i64 (11)) _ rfl rfl rfl) rfl ⟨HK39.out.below, .inl ⟨by rw [HD.out]; exact (by decide : (11 : Int) ≠ 0), by rw [HD.out]⟩⟩
  rw [if_neg (by simp)] at HD
  go_upto_region 6 with (fail)
  generalize w2.alloc (.cells #[.int .i64 eq, .int .i64 ea, .int .i64 ek, .string cm, .int .i64 ex, .int .i64 ey, .int .i64 ez] 44) = w3 at HK7 ⊢
  generalize w2.heap.size = ge at HK7 ⊢
  have c_c_0_8 : w3.cell? ⟨w.heap.size, 0, none⟩ = some (.int .i64 q) := HK7.out.cell 3 rfl 0
  have c_c_1_9 : w3.cell? ⟨w.heap.size, 1, none⟩ = some (.int .i64 a) := HK7.out.cell 3 rfl 1
  have c_c_2_10 : w3.cell? ⟨w.heap.size, 2, none⟩ = some (.slice An nn cn) := HK7.out.cell 3 rfl 2
  have c_e_0_11 : w3.cell? ⟨ge, 0, none⟩ = some (.int .i64 eq) := HK7.out.cell 0 rfl 0
  have c_e_1_12 : w3.cell? ⟨ge, 1, none⟩ = some (.int .i64 ea) := HK7.out.cell 0 rfl 1
  have c_e_2_13 : w3.cell? ⟨ge, 2, none⟩ = some (.int .i64 ek) := HK7.out.cell 0 rfl 2
  have c_e_3_14 : w3.cell? ⟨ge, 3, none⟩ = some (.string cm) := HK7.out.cell 0 rfl 3
  have c_e_4_15 : w3.cell? ⟨ge, 4, none⟩ = some (.int .i64 ex) := HK7.out.cell 0 rfl 4
  have c_e_5_16 : w3.cell? ⟨ge, 5, none⟩ = some (.int .i64 ey) := HK7.out.cell 0 rfl 5
  have c_e_6_17 : w3.cell? ⟨ge, 6, none⟩ = some (.int .i64 ez) := HK7.out.cell 0 rfl 6
  go_wp2_with fail
  with_reducible refine ((HEN _ _ HK7.out.xok' (HK7.out.sl 0 rfl)).out).mono ?_
  rintro e w4 ⟨hb, h1 | h1⟩
  · skip
    obtain ⟨he, rfl⟩ := h1
    rw [if_pos (.inl he)] at HD
    have b1 : (er != 0) = true := by rw [bne_iff_ne]; exact he
    clear he
    clear c_c_0_8 c_c_1_9 c_c_2_10 c_e_0_11 c_e_1_12 c_e_2_13 c_e_3_14 c_e_4_15 c_e_5_16 c_e_6_17
    have HK18 := Lib.hid (show Held w [] X w4 [.box (ge) 44 #[.int .i64 eq, .int .i64 ea, .int .i64 ek, .string cm, .int .i64 ex, .int .i64 ey, .int .i64 ez], .box (w.heap.size + 2) 34 #[.int .i64 0, .int .i64 0, .slice none 0 0], .box (w.heap.size + 1) 44 #[.int .i64 0, .int .i64 0, .int .i64 0, .string ⟨#[]⟩, .int .i64 0, .int .i64 0, .int .i64 0], .box (w.heap.size) 34 #[.int .i64 q, .int .i64 a, .slice An nn cn]] [Sl.fact nameSh An nn cn ns] from (HK7.out.on hb))
    clear HK7
    clear hb
    have HK19 := Lib.hid (show Held w [] X (w4.alloc (.cells #[.int .i64 q, .int .i64 a, .slice An nn cn] 34)) [.box (w4.heap.size) 34 #[.int .i64 q, .int .i64 a, .slice An nn cn], .box (ge) 44 #[.int .i64 eq, .int .i64 ea, .int .i64 ek, .string cm, .int .i64 ex, .int .i64 ey, .int .i64 ez], .box (w.heap.size + 2) 34 #[.int .i64 0, .int .i64 0, .slice none 0 0], .box (w.heap.size + 1) 44 #[.int .i64 0, .int .i64 0, .int .i64 0, .string ⟨#[]⟩, .int .i64 0, .int .i64 0, .int .i64 0], .box (w.heap.size) 34 #[.int .i64 q, .int .i64 a, .slice An nn cn]] [Sl.fact nameSh An nn cn ns] from HK18.out.alloc_at 34 #[.int .i64 q, .int .i64 a, .slice An nn cn] (w4.heap.size) (by simp))
    clear HK18
    go_upto_region 8 with (fail)
    generalize w4.alloc (.cells #[.int .i64 q, .int .i64 a, .slice An nn cn] 34) = w5 at HK19 ⊢
    generalize w4.heap.size = gb at HK19 ⊢
    have c_c_0_20 : w5.cell? ⟨w.heap.size, 0, none⟩ = some (.int .i64 q) := HK19.out.cell 4 rfl 0
    have c_c_1_21 : w5.cell? ⟨w.heap.size, 1, none⟩ = some (.int .i64 a) := HK19.out.cell 4 rfl 1
    have c_c_2_22 : w5.cell? ⟨w.heap.size, 2, none⟩ = some (.slice An nn cn) := HK19.out.cell 4 rfl 2
    go_wp2_with fail
    clear c_c_0_20 c_c_1_21 c_c_2_22
    refine wp_region_noPanic ?_
    refine wp_region_held_drew (S := fun W' => Blk W' (w.heap.size) 34 #[.int .i64 q, .int .i64 a, .slice An nn cn]) (by kernel_rfl) (HK19.out.blk 4 rfl).drew (fun hHeld => ?_)
    have HK23 := Lib.hid (show Held w [] X w5.drew [.box (gb) 34 #[.int .i64 q, .int .i64 a, .slice An nn cn], .box (ge) 44 #[.int .i64 eq, .int .i64 ea, .int .i64 ek, .string cm, .int .i64 ex, .int .i64 ey, .int .i64 ez], .box (w.heap.size + 2) 34 #[.int .i64 0, .int .i64 0, .slice none 0 0], .box (w.heap.size + 1) 44 #[.int .i64 0, .int .i64 0, .int .i64 0, .string ⟨#[]⟩, .int .i64 0, .int .i64 0, .int .i64 0], .box (w.heap.size) 34 #[.int .i64 q, .int .i64 a, .slice An nn cn]] [Sl.fact nameSh An nn cn ns] from HK19.out.drew)
    clear HK19
    generalize w5.drew = wd at hHeld HK23 ⊢
    have c_re_0_24 : wd.cell? ⟨w.heap.size + 1, 0, none⟩ = some (.int .i64 0) := HK23.out.cell 3 rfl 0
    have z_re_0_25 : wd.frozen? ⟨w.heap.size + 1, 0, none⟩ = false := HK23.out.frozen 3 rfl 0
    have c_re_1_26 : wd.cell? ⟨w.heap.size + 1, 1, none⟩ = some (.int .i64 0) := HK23.out.cell 3 rfl 1
    have z_re_1_27 : wd.frozen? ⟨w.heap.size + 1, 1, none⟩ = false := HK23.out.frozen 3 rfl 1
    have c_re_2_28 : wd.cell? ⟨w.heap.size + 1, 2, none⟩ = some (.int .i64 0) := HK23.out.cell 3 rfl 2
    have z_re_2_29 : wd.frozen? ⟨w.heap.size + 1, 2, none⟩ = false := HK23.out.frozen 3 rfl 2
    have c_re_3_30 : wd.cell? ⟨w.heap.size + 1, 3, none⟩ = some (.string ⟨#[]⟩) := HK23.out.cell 3 rfl 3
    have z_re_3_31 : wd.frozen? ⟨w.heap.size + 1, 3, none⟩ = false := HK23.out.frozen 3 rfl 3
    have c_re_4_32 : wd.cell? ⟨w.heap.size + 1, 4, none⟩ = some (.int .i64 0) := HK23.out.cell 3 rfl 4
    have z_re_4_33 : wd.frozen? ⟨w.heap.size + 1, 4, none⟩ = false := HK23.out.frozen 3 rfl 4
    have c_re_5_34 : wd.cell? ⟨w.heap.size + 1, 5, none⟩ = some (.int .i64 0) := HK23.out.cell 3 rfl 5
    have z_re_5_35 : wd.frozen? ⟨w.heap.size + 1, 5, none⟩ = false := HK23.out.frozen 3 rfl 5
    have c_re_6_36 : wd.cell? ⟨w.heap.size + 1, 6, none⟩ = some (.int .i64 0) := HK23.out.cell 3 rfl 6
    have z_re_6_37 : wd.frozen? ⟨w.heap.size + 1, 6, none⟩ = false := HK23.out.frozen 3 rfl 6
    have c_rc_0_38 : wd.cell? ⟨w.heap.size + 2, 0, none⟩ = some (.int .i64 0) := HK23.out.cell 2 rfl 0
    have z_rc_0_39 : wd.frozen? ⟨w.heap.size + 2, 0, none⟩ = false := HK23.out.frozen 2 rfl 0
    have c_rc_1_40 : wd.cell? ⟨w.heap.size + 2, 1, none⟩ = some (.int .i64 0) := HK23.out.cell 2 rfl 1
    have z_rc_1_41 : wd.frozen? ⟨w.heap.size + 2, 1, none⟩ = false := HK23.out.frozen 2 rfl 1
    have c_rc_2_42 : wd.cell? ⟨w.heap.size + 2, 2, none⟩ = some (.slice none 0 0) := HK23.out.cell 2 rfl 2
    have z_rc_2_43 : wd.frozen? ⟨w.heap.size + 2, 2, none⟩ = false := HK23.out.frozen 2 rfl 2
    have ne_44 : ¬ (w.heap.size + 1 = w.heap.size + 2) := HK23.out.ne 3 2 (by decide) rfl rfl
    have ne_45 : ¬ (w.heap.size + 2 = w.heap.size + 1) := HK23.out.ne 2 3 (by decide) rfl rfl
    have ne_46 : ¬ (w.heap.size + 1 = w.heap.size) := HK23.out.ne 3 4 (by decide) rfl rfl
    have ne_47 : ¬ (w.heap.size = w.heap.size + 1) := HK23.out.ne 4 3 (by decide) rfl rfl
    have ne_48 : ¬ (w.heap.size = w.heap.size + 2) := HK23.out.ne 4 2 (by decide) rfl rfl
    have ne_49 : ¬ (w.heap.size + 2 = w.heap.size) := HK23.out.ne 2 4 (by decide) rfl rfl
    refine takeH 0 (v := ?v0u7) rfl (by kernel_rfl) (by kernel_rfl) (by kernel_rfl) rfl (fun _ _ _ h => h) (Or.inl ⟨by rfl, ?y0u7⟩) hHeld ?r0u7
    case y0u7 => (intro W hSW; (try dsimp only at hSW); go_simp; try with_reducible rfl)
    simp only [Act.put, sI, sZ, sS]
    refine takeH 1 (v := ?v1u8) rfl (by kernel_rfl) (by kernel_rfl) (by kernel_rfl) rfl (fun _ _ _ h => h) (Or.inl ⟨by rfl, ?y1u8⟩) hHeld ?r1u8
    case y1u8 => (intro W hSW; (try dsimp only at hSW); have q0 : W.cell? ⟨w.heap.size, 0, none⟩ = some (.int .i64 q) := hSW.cell 0; have q1 : W.cell? ⟨w.heap.size, 1, none⟩ = some (.int .i64 a) := hSW.cell 1; have q2 : W.cell? ⟨w.heap.size, 2, none⟩ = some (.slice An nn cn) := hSW.cell 2; go_simp; try with_reducible rfl)
    simp only [Act.put, sI, sZ, sS]
    refine wpAnyH_ready (rs := [2]) (by kernel_rfl) (by simp) ?_
    refine AllReadyH.cons rfl (fun K hK => ?_) AllReadyH.nil
    go_simp
    refine hK.out _ _ (((((((hHeld.far (p := ⟨w.heap.size + 1, 0, none⟩) (HK23.out.ne 4 3 (by decide) rfl rfl) (.int .i64 0)).far (p := ⟨w.heap.size + 1, 1, none⟩) (HK23.out.ne 4 3 (by decide) rfl rfl) (.int .i64 0)).far (p := ⟨w.heap.size + 1, 2, none⟩) (HK23.out.ne 4 3 (by decide) rfl rfl) (.int .i64 0)).far (p := ⟨w.heap.size + 1, 3, none⟩) (HK23.out.ne 4 3 (by decide) rfl rfl) (.string ⟨#[]⟩)).far (p := ⟨w.heap.size + 1, 4, none⟩) (HK23.out.ne 4 3 (by decide) rfl rfl) (.int .i64 0)).far (p := ⟨w.heap.size + 1, 5, none⟩) (HK23.out.ne 4 3 (by decide) rfl rfl) (.int .i64 0)).far (p := ⟨w.heap.size + 1, 6, none⟩) (HK23.out.ne 4 3 (by decide) rfl rfl) (.int .i64 0)) (fun hHeld => ?_)
    clear hK K
    try simp only [Act.put, sI, sZ, sS]
    refine wpAnyH_ready (rs := [3]) (by kernel_rfl) (by simp) ?_
    refine AllReadyH.cons rfl (fun K hK => ?_) AllReadyH.nil
    go_simp
    refine hK.out _ _ (((hHeld.far (p := ⟨w.heap.size + 2, 0, none⟩) (HK23.out.ne 4 2 (by decide) rfl rfl) (.int .i64 q)).far (p := ⟨w.heap.size + 2, 1, none⟩) (HK23.out.ne 4 2 (by decide) rfl rfl) (.int .i64 a)).far (p := ⟨w.heap.size + 2, 2, none⟩) (HK23.out.ne 4 2 (by decide) rfl rfl) (.slice An nn cn)) (fun hHeld => ?_)
    clear hK K
    try simp only [Act.put, sI, sZ, sS]
    refine takeH 4 (v := ?v4u9) rfl (by kernel_rfl) (by kernel_rfl) (by kernel_rfl) rfl (fun _ _ _ h => h) (Or.inl ⟨by rfl, ?y4u9⟩) hHeld ?r4u9
    case y4u9 => (intro W hSW; (try dsimp only at hSW); go_simp; try with_reducible rfl)
    simp only [Act.put, sI, sZ, sS]
    refine wpAnyH_done (by kernel_rfl) ?_ _
    refine NoPanic.normal ?_
    clear c_re_0_24 z_re_0_25 c_re_1_26 z_re_1_27 c_re_2_28 z_re_2_29 c_re_3_30 z_re_3_31 c_re_4_32 z_re_4_33 c_re_5_34 z_re_5_35 c_re_6_36 z_re_6_37 c_rc_0_38 z_rc_0_39 c_rc_1_40 z_rc_1_41 c_rc_2_42 z_rc_2_43 ne_44 ne_45 ne_46 ne_47 ne_48 ne_49
    have HK50 := Lib.hid (show Held w [] X (((((((wd.setCell ⟨w.heap.size + 1, 0, none⟩ (.int .i64 0)).setCell ⟨w.heap.size + 1, 1, none⟩ (.int .i64 0)).setCell ⟨w.heap.size + 1, 2, none⟩ (.int .i64 0)).setCell ⟨w.heap.size + 1, 3, none⟩ (.string ⟨#[]⟩)).setCell ⟨w.heap.size + 1, 4, none⟩ (.int .i64 0)).setCell ⟨w.heap.size + 1, 5, none⟩ (.int .i64 0)).setCell ⟨w.heap.size + 1, 6, none⟩ (.int .i64 0)) [.box (gb) 34 #[.int .i64 q, .int .i64 a, .slice An nn cn], .box (ge) 44 #[.int .i64 eq, .int .i64 ea, .int .i64 ek, .string cm, .int .i64 ex, .int .i64 ey, .int .i64 ez], .box (w.heap.size + 2) 34 #[.int .i64 0, .int .i64 0, .slice none 0 0], .box (w.heap.size + 1) 44 #[.int .i64 0, .int .i64 0, .int .i64 0, .string ⟨#[]⟩, .int .i64 0, .int .i64 0, .int .i64 0], .box (w.heap.size) 34 #[.int .i64 q, .int .i64 a, .slice An nn cn]] [Sl.fact nameSh An nn cn ns] from (((((((HK23.out.set_ 3 rfl 0 (.int .i64 0)).set_ 3 rfl 1 (.int .i64 0)).set_ 3 rfl 2 (.int .i64 0)).set_ 3 rfl 3 (.string ⟨#[]⟩)).set_ 3 rfl 4 (.int .i64 0)).set_ 3 rfl 5 (.int .i64 0)).set_ 3 rfl 6 (.int .i64 0)))
    clear HK23
    have HK51 := Lib.hid (show Held w [] X ((((((((((wd.setCell ⟨w.heap.size + 1, 0, none⟩ (.int .i64 0)).setCell ⟨w.heap.size + 1, 1, none⟩ (.int .i64 0)).setCell ⟨w.heap.size + 1, 2, none⟩ (.int .i64 0)).setCell ⟨w.heap.size + 1, 3, none⟩ (.string ⟨#[]⟩)).setCell ⟨w.heap.size + 1, 4, none⟩ (.int .i64 0)).setCell ⟨w.heap.size + 1, 5, none⟩ (.int .i64 0)).setCell ⟨w.heap.size + 1, 6, none⟩ (.int .i64 0)).setCell ⟨w.heap.size + 2, 0, none⟩ (.int .i64 q)).setCell ⟨w.heap.size + 2, 1, none⟩ (.int .i64 a)).setCell ⟨w.heap.size + 2, 2, none⟩ (.slice An nn cn)) [.box (gb) 34 #[.int .i64 q, .int .i64 a, .slice An nn cn], .box (ge) 44 #[.int .i64 eq, .int .i64 ea, .int .i64 ek, .string cm, .int .i64 ex, .int .i64 ey, .int .i64 ez], .box (w.heap.size + 2) 34 #[.int .i64 q, .int .i64 a, .slice An nn cn], .box (w.heap.size + 1) 44 #[.int .i64 0, .int .i64 0, .int .i64 0, .string ⟨#[]⟩, .int .i64 0, .int .i64 0, .int .i64 0], .box (w.heap.size) 34 #[.int .i64 q, .int .i64 a, .slice An nn cn]] [Sl.fact nameSh An nn cn ns] from (((HK50.out.set_ 2 rfl 0 (.int .i64 q)).set_ 2 rfl 1 (.int .i64 a)).set_ 2 rfl 2 (.slice An nn cn)))
    clear HK50
    go_wp2
    exact bodyPost_ret (res_dec (HK51.out.blk 3 rfl) (HK51.out.blk 2 rfl) (u := .int .i64 (11)) _ rfl rfl rfl) rfl ⟨HK51.out.below, .inl ⟨by rw [HD.out]; exact (by decide : (11 : Int) ≠ 0), by rw [HD.out]⟩⟩
  obtain ⟨he, A3, n3, c3, A2, n2, c2, rfl, hsb, hsn⟩ := h1
  subst he
  clear c_c_0_8 c_c_1_9 c_c_2_10 c_e_0_11 c_e_1_12 c_e_2_13 c_e_3_14 c_e_4_15 c_e_5_16 c_e_6_17
  have HK18 := Lib.hid (show Held w [] X w4 [.box (ge) 44 #[.int .i64 eq, .int .i64 ea, .int .i64 ek, .string cm, .int .i64 ex, .int .i64 ey, .int .i64 ez], .box (w.heap.size + 2) 34 #[.int .i64 0, .int .i64 0, .slice none 0 0], .box (w.heap.size + 1) 44 #[.int .i64 0, .int .i64 0, .int .i64 0, .string ⟨#[]⟩, .int .i64 0, .int .i64 0, .int .i64 0], .box (w.heap.size) 34 #[.int .i64 q, .int .i64 a, .slice An nn cn]] [Sl.fact nameSh A2 n2 c2 nx.ns, Sl.fact byteSh A3 n3 c3 eb, Sl.fact nameSh An nn cn ns] from (((HK7.out.on hb).know (Sl.fact byteSh A3 n3 c3 eb) hsb).know (Sl.fact nameSh A2 n2 c2 nx.ns) hsn))
  clear HK7
  clear hb
  clear hsb hsn
  have HK19 := Lib.hid (show Held w [] X (w4.alloc (.cells #[.int .i64 eq, .int .i64 ea, .slice A2 n2 c2] 34)) [.box (w4.heap.size) 34 #[.int .i64 eq, .int .i64 ea, .slice A2 n2 c2], .box (ge) 44 #[.int .i64 eq, .int .i64 ea, .int .i64 ek, .string cm, .int .i64 ex, .int .i64 ey, .int .i64 ez], .box (w.heap.size + 2) 34 #[.int .i64 0, .int .i64 0, .slice none 0 0], .box (w.heap.size + 1) 44 #[.int .i64 0, .int .i64 0, .int .i64 0, .string ⟨#[]⟩, .int .i64 0, .int .i64 0, .int .i64 0], .box (w.heap.size) 34 #[.int .i64 q, .int .i64 a, .slice An nn cn]] [Sl.fact nameSh A2 n2 c2 nx.ns, Sl.fact byteSh A3 n3 c3 eb, Sl.fact nameSh An nn cn ns] from HK18.out.alloc_at 34 #[.int .i64 eq, .int .i64 ea, .slice A2 n2 c2] (w4.heap.size) (by simp))
  clear HK18
  go_upto_region 7 with (fail)
  generalize w4.alloc (.cells #[.int .i64 eq, .int .i64 ea, .slice A2 n2 c2] 34) = w5 at HK19 ⊢
  generalize w4.heap.size = gb at HK19 ⊢
  go_wp2_with fail
  with_reducible refine (Equal_c A3 A n3 c3 n c _ _ eb bs _ (HK19.out.sl 1 rfl).bytes (HR0.out.below (HK19.out.below.mono hB))).mono ?_
  rintro e w6 ⟨rfl, rfl⟩
  by_cases hb : eb = bs
  · skip
    rw [if_neg (by simp [hb])] at HD
    rw [show (eb == bs) = true from by rw [beq_iff_eq]; exact hb]
    clear hb
    have c_e_0_20 : w5.cell? ⟨ge, 0, none⟩ = some (.int .i64 eq) := HK19.out.cell 1 rfl 0
    have c_e_1_21 : w5.cell? ⟨ge, 1, none⟩ = some (.int .i64 ea) := HK19.out.cell 1 rfl 1
    have c_e_2_22 : w5.cell? ⟨ge, 2, none⟩ = some (.int .i64 ek) := HK19.out.cell 1 rfl 2
    have c_e_3_23 : w5.cell? ⟨ge, 3, none⟩ = some (.string cm) := HK19.out.cell 1 rfl 3
    have c_e_4_24 : w5.cell? ⟨ge, 4, none⟩ = some (.int .i64 ex) := HK19.out.cell 1 rfl 4
    have c_e_5_25 : w5.cell? ⟨ge, 5, none⟩ = some (.int .i64 ey) := HK19.out.cell 1 rfl 5
    have c_e_6_26 : w5.cell? ⟨ge, 6, none⟩ = some (.int .i64 ez) := HK19.out.cell 1 rfl 6
    have c_b_0_27 : w5.cell? ⟨gb, 0, none⟩ = some (.int .i64 eq) := HK19.out.cell 0 rfl 0
    have c_b_1_28 : w5.cell? ⟨gb, 1, none⟩ = some (.int .i64 ea) := HK19.out.cell 0 rfl 1
    have c_b_2_29 : w5.cell? ⟨gb, 2, none⟩ = some (.slice A2 n2 c2) := HK19.out.cell 0 rfl 2
    go_wp2_with fail
    clear c_e_0_20 c_e_1_21 c_e_2_22 c_e_3_23 c_e_4_24 c_e_5_25 c_e_6_26 c_b_0_27 c_b_1_28 c_b_2_29
    refine wp_region_noPanic ?_
    refine wp_region_held_drew (S := fun W' => Blk W' (ge) 44 #[.int .i64 eq, .int .i64 ea, .int .i64 ek, .string cm, .int .i64 ex, .int .i64 ey, .int .i64 ez] ∧ Blk W' (gb) 34 #[.int .i64 eq, .int .i64 ea, .slice A2 n2 c2]) (by kernel_rfl) ⟨(HK19.out.blk 1 rfl).drew, (HK19.out.blk 0 rfl).drew⟩ (fun hHeld => ?_)
    have HK30 := Lib.hid (show Held w [] X w5.drew [.box (gb) 34 #[.int .i64 eq, .int .i64 ea, .slice A2 n2 c2], .box (ge) 44 #[.int .i64 eq, .int .i64 ea, .int .i64 ek, .string cm, .int .i64 ex, .int .i64 ey, .int .i64 ez], .box (w.heap.size + 2) 34 #[.int .i64 0, .int .i64 0, .slice none 0 0], .box (w.heap.size + 1) 44 #[.int .i64 0, .int .i64 0, .int .i64 0, .string ⟨#[]⟩, .int .i64 0, .int .i64 0, .int .i64 0], .box (w.heap.size) 34 #[.int .i64 q, .int .i64 a, .slice An nn cn]] [Sl.fact nameSh A2 n2 c2 nx.ns, Sl.fact byteSh A3 n3 c3 eb, Sl.fact nameSh An nn cn ns] from HK19.out.drew)
    clear HK19
    generalize w5.drew = wd at hHeld HK30 ⊢
    have c_re_0_31 : wd.cell? ⟨w.heap.size + 1, 0, none⟩ = some (.int .i64 0) := HK30.out.cell 3 rfl 0
    have z_re_0_32 : wd.frozen? ⟨w.heap.size + 1, 0, none⟩ = false := HK30.out.frozen 3 rfl 0
    have c_re_1_33 : wd.cell? ⟨w.heap.size + 1, 1, none⟩ = some (.int .i64 0) := HK30.out.cell 3 rfl 1
    have z_re_1_34 : wd.frozen? ⟨w.heap.size + 1, 1, none⟩ = false := HK30.out.frozen 3 rfl 1
    have c_re_2_35 : wd.cell? ⟨w.heap.size + 1, 2, none⟩ = some (.int .i64 0) := HK30.out.cell 3 rfl 2
    have z_re_2_36 : wd.frozen? ⟨w.heap.size + 1, 2, none⟩ = false := HK30.out.frozen 3 rfl 2
    have c_re_3_37 : wd.cell? ⟨w.heap.size + 1, 3, none⟩ = some (.string ⟨#[]⟩) := HK30.out.cell 3 rfl 3
    have z_re_3_38 : wd.frozen? ⟨w.heap.size + 1, 3, none⟩ = false := HK30.out.frozen 3 rfl 3
    have c_re_4_39 : wd.cell? ⟨w.heap.size + 1, 4, none⟩ = some (.int .i64 0) := HK30.out.cell 3 rfl 4
    have z_re_4_40 : wd.frozen? ⟨w.heap.size + 1, 4, none⟩ = false := HK30.out.frozen 3 rfl 4
    have c_re_5_41 : wd.cell? ⟨w.heap.size + 1, 5, none⟩ = some (.int .i64 0) := HK30.out.cell 3 rfl 5
    have z_re_5_42 : wd.frozen? ⟨w.heap.size + 1, 5, none⟩ = false := HK30.out.frozen 3 rfl 5
    have c_re_6_43 : wd.cell? ⟨w.heap.size + 1, 6, none⟩ = some (.int .i64 0) := HK30.out.cell 3 rfl 6
    have z_re_6_44 : wd.frozen? ⟨w.heap.size + 1, 6, none⟩ = false := HK30.out.frozen 3 rfl 6
    have c_rc_0_45 : wd.cell? ⟨w.heap.size + 2, 0, none⟩ = some (.int .i64 0) := HK30.out.cell 2 rfl 0
    have z_rc_0_46 : wd.frozen? ⟨w.heap.size + 2, 0, none⟩ = false := HK30.out.frozen 2 rfl 0
    have c_rc_1_47 : wd.cell? ⟨w.heap.size + 2, 1, none⟩ = some (.int .i64 0) := HK30.out.cell 2 rfl 1
    have z_rc_1_48 : wd.frozen? ⟨w.heap.size + 2, 1, none⟩ = false := HK30.out.frozen 2 rfl 1
    have c_rc_2_49 : wd.cell? ⟨w.heap.size + 2, 2, none⟩ = some (.slice none 0 0) := HK30.out.cell 2 rfl 2
    have z_rc_2_50 : wd.frozen? ⟨w.heap.size + 2, 2, none⟩ = false := HK30.out.frozen 2 rfl 2
    have ne_51 : ¬ (w.heap.size + 1 = w.heap.size + 2) := HK30.out.ne 3 2 (by decide) rfl rfl
    have ne_52 : ¬ (w.heap.size + 2 = w.heap.size + 1) := HK30.out.ne 2 3 (by decide) rfl rfl
    have ne_53 : ¬ (w.heap.size + 1 = ge) := HK30.out.ne 3 1 (by decide) rfl rfl
    have ne_54 : ¬ (ge = w.heap.size + 1) := HK30.out.ne 1 3 (by decide) rfl rfl
    have ne_55 : ¬ (w.heap.size + 1 = gb) := HK30.out.ne 3 0 (by decide) rfl rfl
    have ne_56 : ¬ (gb = w.heap.size + 1) := HK30.out.ne 0 3 (by decide) rfl rfl
    have ne_57 : ¬ (w.heap.size + 2 = ge) := HK30.out.ne 2 1 (by decide) rfl rfl
    have ne_58 : ¬ (ge = w.heap.size + 2) := HK30.out.ne 1 2 (by decide) rfl rfl
    have ne_59 : ¬ (w.heap.size + 2 = gb) := HK30.out.ne 2 0 (by decide) rfl rfl
    have ne_60 : ¬ (gb = w.heap.size + 2) := HK30.out.ne 0 2 (by decide) rfl rfl
    refine takeH 0 (v := ?v0u10) rfl (by kernel_rfl) (by kernel_rfl) (by kernel_rfl) rfl (fun _ _ _ h => h) (Or.inl ⟨by rfl, ?y0u10⟩) hHeld ?r0u10
    case y0u10 => (intro W hSW; (try dsimp only at hSW); have q0 : W.cell? ⟨ge, 0, none⟩ = some (.int .i64 eq) := hSW.1.cell 0; have q1 : W.cell? ⟨ge, 1, none⟩ = some (.int .i64 ea) := hSW.1.cell 1; have q2 : W.cell? ⟨ge, 2, none⟩ = some (.int .i64 ek) := hSW.1.cell 2; have q3 : W.cell? ⟨ge, 3, none⟩ = some (.string cm) := hSW.1.cell 3; have q4 : W.cell? ⟨ge, 4, none⟩ = some (.int .i64 ex) := hSW.1.cell 4; have q5 : W.cell? ⟨ge, 5, none⟩ = some (.int .i64 ey) := hSW.1.cell 5; have q6 : W.cell? ⟨ge, 6, none⟩ = some (.int .i64 ez) := hSW.1.cell 6; go_simp; try with_reducible rfl)
    simp only [Act.put, sI, sZ, sS]
    refine takeH 1 (v := ?v1u11) rfl (by kernel_rfl) (by kernel_rfl) (by kernel_rfl) rfl (fun _ _ _ h => h) (Or.inl ⟨by rfl, ?y1u11⟩) hHeld ?r1u11
    case y1u11 => (intro W hSW; (try dsimp only at hSW); have q0 : W.cell? ⟨gb, 0, none⟩ = some (.int .i64 eq) := hSW.2.cell 0; have q1 : W.cell? ⟨gb, 1, none⟩ = some (.int .i64 ea) := hSW.2.cell 1; have q2 : W.cell? ⟨gb, 2, none⟩ = some (.slice A2 n2 c2) := hSW.2.cell 2; go_simp; try with_reducible rfl)
    simp only [Act.put, sI, sZ, sS]
    refine wpAnyH_ready (rs := [2]) (by kernel_rfl) (by simp) ?_
    refine AllReadyH.cons rfl (fun K hK => ?_) AllReadyH.nil
    go_simp
    refine hK.out _ _ ⟨(((((((hHeld.1.far (p := ⟨w.heap.size + 1, 0, none⟩) (HK30.out.ne 1 3 (by decide) rfl rfl) (.int .i64 eq)).far (p := ⟨w.heap.size + 1, 1, none⟩) (HK30.out.ne 1 3 (by decide) rfl rfl) (.int .i64 ea)).far (p := ⟨w.heap.size + 1, 2, none⟩) (HK30.out.ne 1 3 (by decide) rfl rfl) (.int .i64 ek)).far (p := ⟨w.heap.size + 1, 3, none⟩) (HK30.out.ne 1 3 (by decide) rfl rfl) (.string cm)).far (p := ⟨w.heap.size + 1, 4, none⟩) (HK30.out.ne 1 3 (by decide) rfl rfl) (.int .i64 ex)).far (p := ⟨w.heap.size + 1, 5, none⟩) (HK30.out.ne 1 3 (by decide) rfl rfl) (.int .i64 ey)).far (p := ⟨w.heap.size + 1, 6, none⟩) (HK30.out.ne 1 3 (by decide) rfl rfl) (.int .i64 ez)), (((((((hHeld.2.far (p := ⟨w.heap.size + 1, 0, none⟩) (HK30.out.ne 0 3 (by decide) rfl rfl) (.int .i64 eq)).far (p := ⟨w.heap.size + 1, 1, none⟩) (HK30.out.ne 0 3 (by decide) rfl rfl) (.int .i64 ea)).far (p := ⟨w.heap.size + 1, 2, none⟩) (HK30.out.ne 0 3 (by decide) rfl rfl) (.int .i64 ek)).far (p := ⟨w.heap.size + 1, 3, none⟩) (HK30.out.ne 0 3 (by decide) rfl rfl) (.string cm)).far (p := ⟨w.heap.size + 1, 4, none⟩) (HK30.out.ne 0 3 (by decide) rfl rfl) (.int .i64 ex)).far (p := ⟨w.heap.size + 1, 5, none⟩) (HK30.out.ne 0 3 (by decide) rfl rfl) (.int .i64 ey)).far (p := ⟨w.heap.size + 1, 6, none⟩) (HK30.out.ne 0 3 (by decide) rfl rfl) (.int .i64 ez))⟩ (fun hHeld => ?_)
    clear hK K
    try simp only [Act.put, sI, sZ, sS]
    refine wpAnyH_ready (rs := [3]) (by kernel_rfl) (by simp) ?_
    refine AllReadyH.cons rfl (fun K hK => ?_) AllReadyH.nil
    go_simp
    refine hK.out _ _ ⟨(((hHeld.1.far (p := ⟨w.heap.size + 2, 0, none⟩) (HK30.out.ne 1 2 (by decide) rfl rfl) (.int .i64 eq)).far (p := ⟨w.heap.size + 2, 1, none⟩) (HK30.out.ne 1 2 (by decide) rfl rfl) (.int .i64 ea)).far (p := ⟨w.heap.size + 2, 2, none⟩) (HK30.out.ne 1 2 (by decide) rfl rfl) (.slice A2 n2 c2)), (((hHeld.2.far (p := ⟨w.heap.size + 2, 0, none⟩) (HK30.out.ne 0 2 (by decide) rfl rfl) (.int .i64 eq)).far (p := ⟨w.heap.size + 2, 1, none⟩) (HK30.out.ne 0 2 (by decide) rfl rfl) (.int .i64 ea)).far (p := ⟨w.heap.size + 2, 2, none⟩) (HK30.out.ne 0 2 (by decide) rfl rfl) (.slice A2 n2 c2))⟩ (fun hHeld => ?_)
    clear hK K
    try simp only [Act.put, sI, sZ, sS]
    refine takeH 4 (v := ?v4u12) rfl (by kernel_rfl) (by kernel_rfl) (by kernel_rfl) rfl (fun _ _ _ h => h) (Or.inl ⟨by rfl, ?y4u12⟩) hHeld ?r4u12
    case y4u12 => (intro W hSW; (try dsimp only at hSW); go_simp; try with_reducible rfl)
    simp only [Act.put, sI, sZ, sS]
    refine wpAnyH_done (by kernel_rfl) ?_ _
    refine NoPanic.normal ?_
    clear c_re_0_31 z_re_0_32 c_re_1_33 z_re_1_34 c_re_2_35 z_re_2_36 c_re_3_37 z_re_3_38 c_re_4_39 z_re_4_40 c_re_5_41 z_re_5_42 c_re_6_43 z_re_6_44 c_rc_0_45 z_rc_0_46 c_rc_1_47 z_rc_1_48 c_rc_2_49 z_rc_2_50 ne_51 ne_52 ne_53 ne_54 ne_55 ne_56 ne_57 ne_58 ne_59 ne_60
    have HK61 := Lib.hid (show Held w [] X (((((((wd.setCell ⟨w.heap.size + 1, 0, none⟩ (.int .i64 eq)).setCell ⟨w.heap.size + 1, 1, none⟩ (.int .i64 ea)).setCell ⟨w.heap.size + 1, 2, none⟩ (.int .i64 ek)).setCell ⟨w.heap.size + 1, 3, none⟩ (.string cm)).setCell ⟨w.heap.size + 1, 4, none⟩ (.int .i64 ex)).setCell ⟨w.heap.size + 1, 5, none⟩ (.int .i64 ey)).setCell ⟨w.heap.size + 1, 6, none⟩ (.int .i64 ez)) [.box (gb) 34 #[.int .i64 eq, .int .i64 ea, .slice A2 n2 c2], .box (ge) 44 #[.int .i64 eq, .int .i64 ea, .int .i64 ek, .string cm, .int .i64 ex, .int .i64 ey, .int .i64 ez], .box (w.heap.size + 2) 34 #[.int .i64 0, .int .i64 0, .slice none 0 0], .box (w.heap.size + 1) 44 #[.int .i64 eq, .int .i64 ea, .int .i64 ek, .string cm, .int .i64 ex, .int .i64 ey, .int .i64 ez], .box (w.heap.size) 34 #[.int .i64 q, .int .i64 a, .slice An nn cn]] [Sl.fact nameSh A2 n2 c2 nx.ns, Sl.fact byteSh A3 n3 c3 eb, Sl.fact nameSh An nn cn ns] from (((((((HK30.out.set_ 3 rfl 0 (.int .i64 eq)).set_ 3 rfl 1 (.int .i64 ea)).set_ 3 rfl 2 (.int .i64 ek)).set_ 3 rfl 3 (.string cm)).set_ 3 rfl 4 (.int .i64 ex)).set_ 3 rfl 5 (.int .i64 ey)).set_ 3 rfl 6 (.int .i64 ez)))
    clear HK30
    have HK62 := Lib.hid (show Held w [] X ((((((((((wd.setCell ⟨w.heap.size + 1, 0, none⟩ (.int .i64 eq)).setCell ⟨w.heap.size + 1, 1, none⟩ (.int .i64 ea)).setCell ⟨w.heap.size + 1, 2, none⟩ (.int .i64 ek)).setCell ⟨w.heap.size + 1, 3, none⟩ (.string cm)).setCell ⟨w.heap.size + 1, 4, none⟩ (.int .i64 ex)).setCell ⟨w.heap.size + 1, 5, none⟩ (.int .i64 ey)).setCell ⟨w.heap.size + 1, 6, none⟩ (.int .i64 ez)).setCell ⟨w.heap.size + 2, 0, none⟩ (.int .i64 eq)).setCell ⟨w.heap.size + 2, 1, none⟩ (.int .i64 ea)).setCell ⟨w.heap.size + 2, 2, none⟩ (.slice A2 n2 c2)) [.box (gb) 34 #[.int .i64 eq, .int .i64 ea, .slice A2 n2 c2], .box (ge) 44 #[.int .i64 eq, .int .i64 ea, .int .i64 ek, .string cm, .int .i64 ex, .int .i64 ey, .int .i64 ez], .box (w.heap.size + 2) 34 #[.int .i64 eq, .int .i64 ea, .slice A2 n2 c2], .box (w.heap.size + 1) 44 #[.int .i64 eq, .int .i64 ea, .int .i64 ek, .string cm, .int .i64 ex, .int .i64 ey, .int .i64 ez], .box (w.heap.size) 34 #[.int .i64 q, .int .i64 a, .slice An nn cn]] [Sl.fact nameSh A2 n2 c2 nx.ns, Sl.fact byteSh A3 n3 c3 eb, Sl.fact nameSh An nn cn ns] from (((HK61.out.set_ 2 rfl 0 (.int .i64 eq)).set_ 2 rfl 1 (.int .i64 ea)).set_ 2 rfl 2 (.slice A2 n2 c2)))
    clear HK61
    go_wp2
    exact bodyPost_ret (res_dec (HK62.out.blk 3 rfl) (HK62.out.blk 2 rfl) (u := .int .i64 0) _ rfl rfl rfl) rfl ⟨HK62.out.below, .inr ⟨by rw [HD.out], A2, n2, c2, by rw [HD.out], by rw [HD.out]; exact HK62.out.back' 0 rfl⟩⟩
  · skip
    rw [if_pos (.inr hb)] at HD
    rw [show (eb == bs) = false from by rw [beq_eq_false_iff_ne]; exact hb]
    clear hb
    have c_c_0_20 : w5.cell? ⟨w.heap.size, 0, none⟩ = some (.int .i64 q) := HK19.out.cell 4 rfl 0
    have c_c_1_21 : w5.cell? ⟨w.heap.size, 1, none⟩ = some (.int .i64 a) := HK19.out.cell 4 rfl 1
    have c_c_2_22 : w5.cell? ⟨w.heap.size, 2, none⟩ = some (.slice An nn cn) := HK19.out.cell 4 rfl 2
    go_wp2_with fail
    clear c_c_0_20 c_c_1_21 c_c_2_22
    refine wp_region_noPanic ?_
    refine wp_region_held_drew (S := fun W' => Blk W' (w.heap.size) 34 #[.int .i64 q, .int .i64 a, .slice An nn cn]) (by kernel_rfl) (HK19.out.blk 4 rfl).drew (fun hHeld => ?_)
    have HK23 := Lib.hid (show Held w [] X w5.drew [.box (gb) 34 #[.int .i64 eq, .int .i64 ea, .slice A2 n2 c2], .box (ge) 44 #[.int .i64 eq, .int .i64 ea, .int .i64 ek, .string cm, .int .i64 ex, .int .i64 ey, .int .i64 ez], .box (w.heap.size + 2) 34 #[.int .i64 0, .int .i64 0, .slice none 0 0], .box (w.heap.size + 1) 44 #[.int .i64 0, .int .i64 0, .int .i64 0, .string ⟨#[]⟩, .int .i64 0, .int .i64 0, .int .i64 0], .box (w.heap.size) 34 #[.int .i64 q, .int .i64 a, .slice An nn cn]] [Sl.fact nameSh A2 n2 c2 nx.ns, Sl.fact byteSh A3 n3 c3 eb, Sl.fact nameSh An nn cn ns] from HK19.out.drew)
    clear HK19
    generalize w5.drew = wd at hHeld HK23 ⊢
    have c_re_0_24 : wd.cell? ⟨w.heap.size + 1, 0, none⟩ = some (.int .i64 0) := HK23.out.cell 3 rfl 0
    have z_re_0_25 : wd.frozen? ⟨w.heap.size + 1, 0, none⟩ = false := HK23.out.frozen 3 rfl 0
    have c_re_1_26 : wd.cell? ⟨w.heap.size + 1, 1, none⟩ = some (.int .i64 0) := HK23.out.cell 3 rfl 1
    have z_re_1_27 : wd.frozen? ⟨w.heap.size + 1, 1, none⟩ = false := HK23.out.frozen 3 rfl 1
    have c_re_2_28 : wd.cell? ⟨w.heap.size + 1, 2, none⟩ = some (.int .i64 0) := HK23.out.cell 3 rfl 2
    have z_re_2_29 : wd.frozen? ⟨w.heap.size + 1, 2, none⟩ = false := HK23.out.frozen 3 rfl 2
    have c_re_3_30 : wd.cell? ⟨w.heap.size + 1, 3, none⟩ = some (.string ⟨#[]⟩) := HK23.out.cell 3 rfl 3
    have z_re_3_31 : wd.frozen? ⟨w.heap.size + 1, 3, none⟩ = false := HK23.out.frozen 3 rfl 3
    have c_re_4_32 : wd.cell? ⟨w.heap.size + 1, 4, none⟩ = some (.int .i64 0) := HK23.out.cell 3 rfl 4
    have z_re_4_33 : wd.frozen? ⟨w.heap.size + 1, 4, none⟩ = false := HK23.out.frozen 3 rfl 4
    have c_re_5_34 : wd.cell? ⟨w.heap.size + 1, 5, none⟩ = some (.int .i64 0) := HK23.out.cell 3 rfl 5
    have z_re_5_35 : wd.frozen? ⟨w.heap.size + 1, 5, none⟩ = false := HK23.out.frozen 3 rfl 5
    have c_re_6_36 : wd.cell? ⟨w.heap.size + 1, 6, none⟩ = some (.int .i64 0) := HK23.out.cell 3 rfl 6
    have z_re_6_37 : wd.frozen? ⟨w.heap.size + 1, 6, none⟩ = false := HK23.out.frozen 3 rfl 6
    have c_rc_0_38 : wd.cell? ⟨w.heap.size + 2, 0, none⟩ = some (.int .i64 0) := HK23.out.cell 2 rfl 0
    have z_rc_0_39 : wd.frozen? ⟨w.heap.size + 2, 0, none⟩ = false := HK23.out.frozen 2 rfl 0
    have c_rc_1_40 : wd.cell? ⟨w.heap.size + 2, 1, none⟩ = some (.int .i64 0) := HK23.out.cell 2 rfl 1
    have z_rc_1_41 : wd.frozen? ⟨w.heap.size + 2, 1, none⟩ = false := HK23.out.frozen 2 rfl 1
    have c_rc_2_42 : wd.cell? ⟨w.heap.size + 2, 2, none⟩ = some (.slice none 0 0) := HK23.out.cell 2 rfl 2
    have z_rc_2_43 : wd.frozen? ⟨w.heap.size + 2, 2, none⟩ = false := HK23.out.frozen 2 rfl 2
    have ne_44 : ¬ (w.heap.size + 1 = w.heap.size + 2) := HK23.out.ne 3 2 (by decide) rfl rfl
    have ne_45 : ¬ (w.heap.size + 2 = w.heap.size + 1) := HK23.out.ne 2 3 (by decide) rfl rfl
    have ne_46 : ¬ (w.heap.size + 1 = w.heap.size) := HK23.out.ne 3 4 (by decide) rfl rfl
    have ne_47 : ¬ (w.heap.size = w.heap.size + 1) := HK23.out.ne 4 3 (by decide) rfl rfl
    have ne_48 : ¬ (w.heap.size = w.heap.size + 2) := HK23.out.ne 4 2 (by decide) rfl rfl
    have ne_49 : ¬ (w.heap.size + 2 = w.heap.size) := HK23.out.ne 2 4 (by decide) rfl rfl
    refine takeH 0 (v := ?v0u13) rfl (by kernel_rfl) (by kernel_rfl) (by kernel_rfl) rfl (fun _ _ _ h => h) (Or.inl ⟨by rfl, ?y0u13⟩) hHeld ?r0u13
    case y0u13 => (intro W hSW; (try dsimp only at hSW); go_simp; try with_reducible rfl)
    simp only [Act.put, sI, sZ, sS]
    refine takeH 1 (v := ?v1u14) rfl (by kernel_rfl) (by kernel_rfl) (by kernel_rfl) rfl (fun _ _ _ h => h) (Or.inl ⟨by rfl, ?y1u14⟩) hHeld ?r1u14
    case y1u14 => (intro W hSW; (try dsimp only at hSW); have q0 : W.cell? ⟨w.heap.size, 0, none⟩ = some (.int .i64 q) := hSW.cell 0; have q1 : W.cell? ⟨w.heap.size, 1, none⟩ = some (.int .i64 a) := hSW.cell 1; have q2 : W.cell? ⟨w.heap.size, 2, none⟩ = some (.slice An nn cn) := hSW.cell 2; go_simp; try with_reducible rfl)
    simp only [Act.put, sI, sZ, sS]
    refine wpAnyH_ready (rs := [2]) (by kernel_rfl) (by simp) ?_
    refine AllReadyH.cons rfl (fun K hK => ?_) AllReadyH.nil
    go_simp
    refine hK.out _ _ (((((((hHeld.far (p := ⟨w.heap.size + 1, 0, none⟩) (HK23.out.ne 4 3 (by decide) rfl rfl) (.int .i64 0)).far (p := ⟨w.heap.size + 1, 1, none⟩) (HK23.out.ne 4 3 (by decide) rfl rfl) (.int .i64 0)).far (p := ⟨w.heap.size + 1, 2, none⟩) (HK23.out.ne 4 3 (by decide) rfl rfl) (.int .i64 0)).far (p := ⟨w.heap.size + 1, 3, none⟩) (HK23.out.ne 4 3 (by decide) rfl rfl) (.string ⟨#[]⟩)).far (p := ⟨w.heap.size + 1, 4, none⟩) (HK23.out.ne 4 3 (by decide) rfl rfl) (.int .i64 0)).far (p := ⟨w.heap.size + 1, 5, none⟩) (HK23.out.ne 4 3 (by decide) rfl rfl) (.int .i64 0)).far (p := ⟨w.heap.size + 1, 6, none⟩) (HK23.out.ne 4 3 (by decide) rfl rfl) (.int .i64 0)) (fun hHeld => ?_)
    clear hK K
    try simp only [Act.put, sI, sZ, sS]
    refine wpAnyH_ready (rs := [3]) (by kernel_rfl) (by simp) ?_
    refine AllReadyH.cons rfl (fun K hK => ?_) AllReadyH.nil
    go_simp
    refine hK.out _ _ (((hHeld.far (p := ⟨w.heap.size + 2, 0, none⟩) (HK23.out.ne 4 2 (by decide) rfl rfl) (.int .i64 q)).far (p := ⟨w.heap.size + 2, 1, none⟩) (HK23.out.ne 4 2 (by decide) rfl rfl) (.int .i64 a)).far (p := ⟨w.heap.size + 2, 2, none⟩) (HK23.out.ne 4 2 (by decide) rfl rfl) (.slice An nn cn)) (fun hHeld => ?_)
    clear hK K
    try simp only [Act.put, sI, sZ, sS]
    refine takeH 4 (v := ?v4u15) rfl (by kernel_rfl) (by kernel_rfl) (by kernel_rfl) rfl (fun _ _ _ h => h) (Or.inl ⟨by rfl, ?y4u15⟩) hHeld ?r4u15
    case y4u15 => (intro W hSW; (try dsimp only at hSW); go_simp; try with_reducible rfl)
    simp only [Act.put, sI, sZ, sS]
    refine wpAnyH_done (by kernel_rfl) ?_ _
    refine NoPanic.normal ?_
    clear c_re_0_24 z_re_0_25 c_re_1_26 z_re_1_27 c_re_2_28 z_re_2_29 c_re_3_30 z_re_3_31 c_re_4_32 z_re_4_33 c_re_5_34 z_re_5_35 c_re_6_36 z_re_6_37 c_rc_0_38 z_rc_0_39 c_rc_1_40 z_rc_1_41 c_rc_2_42 z_rc_2_43 ne_44 ne_45 ne_46 ne_47 ne_48 ne_49
    have HK50 := Lib.hid (show Held w [] X (((((((wd.setCell ⟨w.heap.size + 1, 0, none⟩ (.int .i64 0)).setCell ⟨w.heap.size + 1, 1, none⟩ (.int .i64 0)).setCell ⟨w.heap.size + 1, 2, none⟩ (.int .i64 0)).setCell ⟨w.heap.size + 1, 3, none⟩ (.string ⟨#[]⟩)).setCell ⟨w.heap.size + 1, 4, none⟩ (.int .i64 0)).setCell ⟨w.heap.size + 1, 5, none⟩ (.int .i64 0)).setCell ⟨w.heap.size + 1, 6, none⟩ (.int .i64 0)) [.box (gb) 34 #[.int .i64 eq, .int .i64 ea, .slice A2 n2 c2], .box (ge) 44 #[.int .i64 eq, .int .i64 ea, .int .i64 ek, .string cm, .int .i64 ex, .int .i64 ey, .int .i64 ez], .box (w.heap.size + 2) 34 #[.int .i64 0, .int .i64 0, .slice none 0 0], .box (w.heap.size + 1) 44 #[.int .i64 0, .int .i64 0, .int .i64 0, .string ⟨#[]⟩, .int .i64 0, .int .i64 0, .int .i64 0], .box (w.heap.size) 34 #[.int .i64 q, .int .i64 a, .slice An nn cn]] [Sl.fact nameSh A2 n2 c2 nx.ns, Sl.fact byteSh A3 n3 c3 eb, Sl.fact nameSh An nn cn ns] from (((((((HK23.out.set_ 3 rfl 0 (.int .i64 0)).set_ 3 rfl 1 (.int .i64 0)).set_ 3 rfl 2 (.int .i64 0)).set_ 3 rfl 3 (.string ⟨#[]⟩)).set_ 3 rfl 4 (.int .i64 0)).set_ 3 rfl 5 (.int .i64 0)).set_ 3 rfl 6 (.int .i64 0)))
    clear HK23
    have HK51 := Lib.hid (show Held w [] X ((((((((((wd.setCell ⟨w.heap.size + 1, 0, none⟩ (.int .i64 0)).setCell ⟨w.heap.size + 1, 1, none⟩ (.int .i64 0)).setCell ⟨w.heap.size + 1, 2, none⟩ (.int .i64 0)).setCell ⟨w.heap.size + 1, 3, none⟩ (.string ⟨#[]⟩)).setCell ⟨w.heap.size + 1, 4, none⟩ (.int .i64 0)).setCell ⟨w.heap.size + 1, 5, none⟩ (.int .i64 0)).setCell ⟨w.heap.size + 1, 6, none⟩ (.int .i64 0)).setCell ⟨w.heap.size + 2, 0, none⟩ (.int .i64 q)).setCell ⟨w.heap.size + 2, 1, none⟩ (.int .i64 a)).setCell ⟨w.heap.size + 2, 2, none⟩ (.slice An nn cn)) [.box (gb) 34 #[.int .i64 eq, .int .i64 ea, .slice A2 n2 c2], .box (ge) 44 #[.int .i64 eq, .int .i64 ea, .int .i64 ek, .string cm, .int .i64 ex, .int .i64 ey, .int .i64 ez], .box (w.heap.size + 2) 34 #[.int .i64 q, .int .i64 a, .slice An nn cn], .box (w.heap.size + 1) 44 #[.int .i64 0, .int .i64 0, .int .i64 0, .string ⟨#[]⟩, .int .i64 0, .int .i64 0, .int .i64 0], .box (w.heap.size) 34 #[.int .i64 q, .int .i64 a, .slice An nn cn]] [Sl.fact nameSh A2 n2 c2 nx.ns, Sl.fact byteSh A3 n3 c3 eb, Sl.fact nameSh An nn cn ns] from (((HK50.out.set_ 2 rfl 0 (.int .i64 q)).set_ 2 rfl 1 (.int .i64 a)).set_ 2 rfl 2 (.slice An nn cn)))
    clear HK50
    go_wp2
    exact bodyPost_ret (res_dec (HK51.out.blk 3 rfl) (HK51.out.blk 2 rfl) (u := .int .i64 (11)) _ rfl rfl rfl) rfl ⟨HK51.out.below, .inl ⟨by rw [HD.out]; exact (by decide : (11 : Int) ≠ 0), by rw [HD.out]⟩⟩
end
section
set_option maxRecDepth 100000
open Go.RowKit
structure Only (M : List Nat) (w w' : World) : Prop where
  os : w'.os = w.os
  tape : w'.tape = w.tape
  output : w'.output = w.output
  size : w.heap.size ≤ w'.heap.size
  block : ∀ b, b < w.heap.size → b ∉ M → w'.heap[b]? = w.heap[b]?
structure Given (w : World) (X : List Nat) (L : List Itm) : Prop where
  ok : ∀ x ∈ L, x.ok w ∧ ∀ g, x.blk = some g → g < w.heap.size
  apart : L.Pairwise (fun x y => ∀ g, x.blk = some g → y.blk ≠ some g)
  mem : ∀ g ∈ Exs L, g ∈ X
section
variable {w0 W W' w w' : World} {M X0 X : List Nat} {L L0 : List Itm} {F : List Fact}
theorem Only.of_below (h : Below w.heap.size w w') : Only M w w' := ⟨h.os, h.tape, h.output, h.size, fun b hb _ => h.block b hb⟩
theorem Only.below {B : Nat} (h : Only M w w') (hB : B ≤ w.heap.size) (hM : ∀ g ∈ M, B ≤ g) : Below B w w' := ⟨h.os, h.tape, h.output, h.size, fun b hb => h.block b (Nat.lt_of_lt_of_le hb hB) (fun hm => by have := hM b hm; omega)⟩
theorem Only.nil (h : Only [] w w') : Below w.heap.size w w' := h.below (Nat.le_refl _) (by simp)
theorem Only.more {N : List Nat} (h : Only M w w') (hs : ∀ b ∈ M, b ∈ N) : Only N w w' := ⟨h.os, h.tape, h.output, h.size, fun b hb hn => h.block b hb (fun hm => hn (hs b hm))⟩
theorem Held.only (h : Held w0 M X0 W L F) : Only M w0 W := ⟨h.same.1, h.same.2.1, h.same.2.2, h.size, h.block⟩
theorem Held.startG (hX : XOk X w) (hG : Given w X L0) : Held w (Exs L0) X w L0 [] :=
  ⟨⟨rfl, rfl, rfl⟩, Nat.le_refl _, fun _ _ _ => rfl, hG.mem, hX, fun x hx => ⟨(hG.ok x hx).1, fun g e => ⟨.inr (mem_exs.2 ⟨x, hx, e⟩), (hG.ok x hx).2 g e⟩⟩, hG.apart, by simp⟩
theorem Held.give1 (h : Held w0 M X0 W L F) (i : Nat) {x : Itm} (hi : L[i]? = some x) : Given W (Exs L ++ X0) [x] := by
  have hx := List.mem_of_getElem? hi
  refine ⟨fun y hy => ?_, List.pairwise_singleton _ _, fun g hg => ?_⟩
  · rw [List.mem_singleton] at hy
    subst hy
    exact ⟨(h.ents y hx).1, fun g e => ((h.ents y hx).2 g e).2⟩
  · obtain ⟨y, hy, e⟩ := mem_exs.1 hg
    rw [List.mem_singleton] at hy
    subst hy
    exact List.mem_append_left _ (mem_exs.2 ⟨y, hx, e⟩)
theorem Held.apart_ (h : Held w0 M X0 W L F) {i j : Nat} (hij : i ≠ j) {x y : Itm} (hi : L[i]? = some x) (hj : L[j]? = some y) : ∀ g, x.blk = some g → y.blk ≠ some g := by
  intro g e e'
  obtain ⟨hi', hxe⟩ := List.getElem?_eq_some_iff.1 hi
  obtain ⟨hj', hye⟩ := List.getElem?_eq_some_iff.1 hj
  rcases Nat.lt_or_ge i j with hlt | hge
  · exact List.pairwise_iff_getElem.1 h.apart i j hi' hj' hlt g (hxe ▸ e) (hye ▸ e')
  · exact List.pairwise_iff_getElem.1 h.apart j i hj' hi' (by omega) g (hye ▸ e') (hxe ▸ e)
theorem Held.give2 (h : Held w0 M X0 W L F) {i j : Nat} (hij : i ≠ j) {x y : Itm} (hi : L[i]? = some x) (hj : L[j]? = some y) : Given W (Exs L ++ X0) [x, y] := by
  have hx := List.mem_of_getElem? hi
  have hy := List.mem_of_getElem? hj
  refine ⟨fun z hz => ?_, List.Pairwise.cons (fun z hz => ?_) (List.pairwise_singleton _ _), fun g hg => ?_⟩
  · rcases List.mem_cons.1 hz with rfl | hz
    · exact ⟨(h.ents z hx).1, fun g e => ((h.ents z hx).2 g e).2⟩
    · rw [List.mem_singleton] at hz
      subst hz
      exact ⟨(h.ents z hy).1, fun g e => ((h.ents z hy).2 g e).2⟩
  · rw [List.mem_singleton] at hz
    subst hz
    exact h.apart_ hij hi hj
  · obtain ⟨z, hz, e⟩ := mem_exs.1 hg
    rcases List.mem_cons.1 hz with rfl | hz
    · exact List.mem_append_left _ (mem_exs.2 ⟨z, hx, e⟩)
    · rw [List.mem_singleton] at hz
      subst hz
      exact List.mem_append_left _ (mem_exs.2 ⟨z, hy, e⟩)
theorem Held.wrote1 (h : Held w0 M X0 W L F) (i : Nat) {g : Nat} {t : TypeId} {cs cs' : Array Value} (hi : L[i]? = some (.box g t cs)) (ho : Only [g] W W') (hb : Blk W' g t cs') : Held w0 M X0 W' (L.set i (.box g t cs')) F :=
  h.turn i hi ho.size ⟨ho.os, ho.tape, ho.output⟩ (fun b hb' hne => ho.block b hb' (fun hm => by rw [List.mem_singleton] at hm; exact hne (by rw [hm]; rfl))) hb (fun g' e => ⟨.inl e, by injection e with e; subst e; exact hb.lt⟩)
theorem Held.wrote2 (h : Held w0 M X0 W L F) {i j : Nat} (hij : i ≠ j) {g : Nat} {t : TypeId} {cs cs' : Array Value} {e : TypeId} {size n n' : Nat} {v v' : Value} {xs xs' : List Value} (hi : L[i]? = some (.box g t cs)) (hj : L[j]? = some (.row e size v n xs))
    (ho : Only (Exs [.box g t cs, .row e size v n xs]) W W') (hb : Blk W' g t cs') (hr : W'.ownsRow 0 e size v' n' xs') (hat : ∀ b, v'.ownBlock = some b → v.ownBlock = some b ∨ W.heap.size ≤ b) : Held w0 M X0 W' ((L.set j (.row e size v' n' xs')).set i (.box g t cs')) F := by
  have hgl := h.lt i hi
  have hgo : ∃ o, W.heap[g]? = some o := ⟨_, h.blk i hi⟩
  obtain ⟨o, ho1⟩ := hgo
  have hne : ∀ b, v.ownBlock = some b → g ≠ b := fun b e1 e2 => by
    subst e2
    exact h.apart_ hij hi hj g rfl e1
  have hne' : ∀ b, v'.ownBlock = some b → g ≠ b := fun b e1 => by
    rcases hat b e1 with h1 | h1
    · exact hne b h1
    · omega
  let Wm : World := { W' with heap := W'.heap.setIfInBounds g o }
  have hs : Wm.heap.size = W'.heap.size := by simp [Wm]
  have hm : ∀ b, b ≠ g → Wm.heap[b]? = W'.heap[b]? := fun b hb => by simp only [Wm]; rw [Array.getElem?_setIfInBounds_ne (fun e => hb e.symm)]
  have hmg : Wm.heap[g]? = some o := by
    simp only [Wm]
    rw [Array.getElem?_setIfInBounds_self_of_lt (Nat.lt_of_lt_of_le hgl ho.size)]
  have h1 : Held w0 M X0 Wm (L.set j (.row e size v' n' xs')) F := by
    refine h.turn j hj (by rw [hs]; exact ho.size) ⟨ho.os, ho.tape, ho.output⟩ (fun b hb1 hn => ?_) ?_ (fun b e1 => ⟨hat b e1, by rw [hs]; exact (own_lt hr b e1).2⟩)
    · by_cases hbg : b = g
      · subst hbg; rw [hmg, ho1]
      · rw [hm b hbg]
        refine ho.block b hb1 (fun hmem => ?_)
        obtain ⟨x, hx, ex⟩ := mem_exs.1 hmem
        rcases List.mem_cons.1 hx with rfl | hx
        · injection ex with ex; exact hbg ex.symm
        · rw [List.mem_singleton] at hx
          subst hx
          exact hn ex
    · exact own_frame hr (fun b e1 => hm b (fun e2 => hne' b e1 e2.symm))
  refine h1.turn i (x := .box g t cs) (by rw [List.getElem?_set_ne (fun e => hij e.symm)]; exact hi) (by rw [hs]; exact Nat.le_refl _) ⟨rfl, rfl, rfl⟩ (fun b _ hn => (hm b (fun e2 => hn (by rw [e2]; rfl))).symm) hb (fun g' e1 => ⟨.inl e1, by injection e1 with e1; subst e1; exact hb.lt⟩)
end
end
section
set_option maxRecDepth 100000
open Go.RowKit
structure Scn where
  num : Int
  bq : Int
  ba : Int
  evs : List Evt
  c : Cx
  size : Int
  sealed : Bool
abbrev scnA (s : Scn) (ve : Value) (An : Option Addr) (nn cn : Nat) : Array Value := #[.int .i64 s.num, .int .i64 s.bq, .int .i64 s.ba, .slice none 0 0, ve, .int .i64 s.c.q, .int .i64 s.c.a, .slice An nn cn, .int .i64 0, .int .i64 s.size, .bool s.sealed]
def endsS (what : Int) (sealed : Bool) : Int := if what = 1 then (if sealed then 4 else 1) else if what = 2 ∧ sealed = false then 2 else 3
set_option maxHeartbeats 2000000 in
theorem ends_c (what : Int) (sealed : Bool) (g : Nat) (w : World) (hc : w.cell? ⟨g, 10, none⟩ = some (.bool sealed)) : Calls Tryz.prog 52 #[.pointer (some ⟨g, 0, none⟩), .int .i64 what] w fun e w' => e = .returned (.int .i64 (endsS what sealed)) ∧ w = w' := by
  by_cases h1 : what = 1
  · subst h1
    cases sealed <;>
    (go_enter Tryz.func52, Tryz.ntmps52
     go_wp2
     go_ret
     exact ⟨rfl, rfl⟩)
  have b1 : (what == 1) = false := by rw [beq_eq_false_iff_ne]; exact h1
  by_cases h2 : what = 2
  · subst h2
    cases sealed <;>
    (go_enter Tryz.func52, Tryz.ntmps52
     go_wp2
     go_ret
     exact ⟨rfl, rfl⟩)
  have b2 : (what == 2) = false := by rw [beq_eq_false_iff_ne]; exact h2
  have HE := Lib.hid (show endsS what sealed = 3 from by unfold endsS; rw [if_neg h1, if_neg (fun h => h2 h.1)])
  clear h1 h2
  go_enter Tryz.func52, Tryz.ntmps52
  go_wp2
  go_ret
  exact ⟨ret_i (by rw [HE.out]), rfl⟩
theorem HasPrefix_c (A A2 : Option Addr) (n c m c2 B B2 : Nat) (bs ps : List UInt8) (w : World) (hr : Reads w B 1 A n (byteCells bs)) (hr2 : Reads w B2 1 A2 m (byteCells ps)) (hnc : n ≤ c) (hcm : c ≤ 9223372036854775807) :
    Calls Tryz.prog 227 #[.slice A n c, .slice A2 m c2] w fun e w' => e = .returned (.bool (ps.isPrefixOf bs)) ∧ w = w' := by
  have h1 := hr.lenB
  have h2 := hr2.lenB
  by_cases hm : m ≤ n
  · have HE := Lib.hid (Equal_c A A2 m c m c2 B B2 (bs.take m) ps w (hr.preB hm) hr2)
    have HV := Lib.hid (show (bs.take m == ps) = ps.isPrefixOf bs from by
      rw [Bool.eq_iff_iff, beq_iff_eq, List.isPrefixOf_iff_prefix, List.prefix_iff_eq_take, h2]
      exact ⟨fun h => h.symm, fun h => h.symm⟩)
    generalize ps.isPrefixOf bs = r at HV ⊢
    rw [HV.out] at HE
    clear h1 h2 HV hr hr2
    go_enter Tryz.func227, Tryz.ntmps227
    go_wp2_with (go_at_call 113; refine (HE.out).mono ?_; rintro e w' ⟨rfl, rfl⟩)
    go_ret
    exact ⟨rfl, rfl⟩
  · have HV := Lib.hid (show ps.isPrefixOf bs = false from by
      cases h : ps.isPrefixOf bs with
      | false => rfl
      | true =>
        have h3 := List.IsPrefix.length_le (List.isPrefixOf_iff_prefix.1 h)
        omega)
    clear h1 h2 hr hr2
    go_enter Tryz.func227, Tryz.ntmps227
    go_wp2
    go_ret
    exact ⟨ret_b (by rw [HV.out]), rfl⟩
theorem CutPrefix_no (A A2 : Option Addr) (n c m c2 B B2 : Nat) (bs ps : List UInt8) (w : World) (hr : Reads w B 1 A n (byteCells bs)) (hr2 : Reads w B2 1 A2 m (byteCells ps)) (hnc : n ≤ c) (hcm : c ≤ 9223372036854775807) (hp : ps.isPrefixOf bs = false) :
    Calls Tryz.prog 175 #[.slice A n c, .slice A2 m c2] w fun e w' => e = .returned (.tuple #[.slice A n c, .bool false]) ∧ w = w' := by
  have HE := Lib.hid (HasPrefix_c A A2 n c m c2 B B2 bs ps w hr hr2 hnc hcm)
  rw [hp] at HE
  clear hr hr2 hp
  go_enter Tryz.func175, Tryz.ntmps175
  go_wp2_with (go_at_call 227; refine (HE.out).mono ?_; rintro e w' ⟨rfl, rfl⟩)
  go_ret2
  exact ⟨rfl, rfl⟩
theorem CutPrefix_yes (ad : Addr) (A2 : Option Addr) (n c m c2 B B2 : Nat) (bs ps : List UInt8) (w : World) (hr : Reads w B 1 (some ad) n (byteCells bs)) (hr2 : Reads w B2 1 A2 m (byteCells ps)) (hnc : n ≤ c) (hcm : c ≤ 9223372036854775807) (hp : ps.isPrefixOf bs = true) :
    Calls Tryz.prog 175 #[.slice (some ad) n c, .slice A2 m c2] w fun e w' => (∃ A' c', e = .returned (.tuple #[.slice A' (n - m) c', .bool true]) ∧ Reads w B 1 A' (n - m) (byteCells (bs.drop m)) ∧ n - m ≤ c' ∧ c' ≤ 9223372036854775807) ∧ w = w' := by
  have hmn : m ≤ n := by
    have h3 := List.IsPrefix.length_le (List.isPrefixOf_iff_prefix.1 hp)
    have h1 := hr.lenB
    have h2 := hr2.lenB
    omega
  have HS := Lib.hid (hr.sufB hmn hnc)
  have HE := Lib.hid (HasPrefix_c (some ad) A2 n c m c2 B B2 bs ps w hr hr2 hnc hcm)
  rw [hp] at HE
  clear hr hr2 hp
  by_cases hc : c = m
  · subst hc
    have HS' := Lib.hid (show Reads w B 1 (some ad) (n - c) (byteCells (bs.drop c)) from by have := HS.out; rwa [if_pos rfl] at this)
    clear HS
    go_enter Tryz.func175, Tryz.ntmps175
    go_wp2_with (go_at_call 227; refine (HE.out).mono ?_; rintro e w' ⟨rfl, rfl⟩)
    go_ret2
    exact ⟨⟨some ad, c - c, by first | rfl | (simp; omega), HS'.out, by omega, by omega⟩, rfl⟩
  · have HS' := Lib.hid (show Reads w B 1 (some (ad.add m)) (n - m) (byteCells (bs.drop m)) from by have := HS.out; rwa [if_neg hc] at this)
    have hc2 : ¬ m = c := fun h => hc h.symm
    have hc3 : m < c := by omega
    clear HS
    go_enter Tryz.func175, Tryz.ntmps175
    go_wp2_with (go_at_call 227; refine (HE.out).mono ?_; rintro e w' ⟨rfl, rfl⟩)
    go_ret2
    exact ⟨⟨_, _, rfl, HS'.out, by omega, by omega⟩, rfl⟩
def three (bs : List UInt8) : (Int × Int × Nat) × (Int × Int × Nat) × (Int × Int × Nat) :=
  let r1 := uRes bs 0 0
  let r2 := uRes bs r1.1 r1.2.1
  (r1, r2, uRes bs r2.1 r2.2.1)
def headS (s : Scn) (p : List UInt8) : Option Scn :=
  if markS.isPrefixOf p then
    let t := three (p.drop 4)
    let b : Cx := ⟨wrap64 (t.2.1.2.2 : Int), wrap64 (t.2.2.2.2 : Int), []⟩
    if t.2.2.2.1 ≠ 0 ∨ t.2.2.1 < ((p.drop 4).length : Int) ∨ numB (wrap64 (t.1.2.2 : Int)) = false ∨ rightC b = false then none
    else some { s with num := wrap64 (t.1.2.2 : Int), bq := b.q, ba := b.a, c := b }
  else none
end
section
set_option maxRecDepth 100000
open Go.RowKit
set_option maxHeartbeats 8000000 in
theorem head_s (s : Scn) (ve : Value) (An : Option Addr) (nn cn g : Nat) (A : Option Addr) (n c B : Nat) (p : List UInt8) (X : List Nat) (w : World) (hX : XOk X w) (hG : Given w X [.box g 115 (scnA s ve An nn cn)]) (hr : Reads w B 1 A n (byteCells p)) (hB : B ≤ w.heap.size) (hBg : B ≤ g) (hnc : n ≤ c) (hcm : c ≤ 9223372036854775807) (hn : n ≤ 200) :
    Calls Tryz.prog 111 #[.pointer (some ⟨g, 0, none⟩), .slice A n c] w fun e w' =>
      (headS s p = none ∧ e = .returned (.bool false) ∧ Only [g] w w' ∧ Blk w' g 115 (scnA s ve An nn cn)) ∨
      (∃ s', headS s p = some s' ∧ e = .returned (.bool true) ∧ Only [g] w w' ∧ Blk w' g 115 (scnA s' ve none 0 0)) := by
  have HR := Lib.hid hr
  have HLB := Lib.hid hr.lenB
  have HHd := Lib.hid (show ∀ b, markS.isPrefixOf p = b → headS s p = if b = true then (if (three (p.drop 4)).2.2.2.1 ≠ 0 ∨ (three (p.drop 4)).2.2.1 < ((p.drop 4).length : Int) ∨ numB (wrap64 ((three (p.drop 4)).1.2.2 : Int)) = false ∨ rightC ⟨wrap64 ((three (p.drop 4)).2.1.2.2 : Int), wrap64 ((three (p.drop 4)).2.2.2.2 : Int), []⟩ = false then none
    else some { s with num := wrap64 ((three (p.drop 4)).1.2.2 : Int), bq := wrap64 ((three (p.drop 4)).2.1.2.2 : Int), ba := wrap64 ((three (p.drop 4)).2.2.2.2 : Int), c := ⟨wrap64 ((three (p.drop 4)).2.1.2.2 : Int), wrap64 ((three (p.drop 4)).2.2.2.2 : Int), []⟩ }) else none from fun b h => by unfold headS; simp only [h])
  clear hr
  have HK1 := Lib.hid (show Held w (Exs [.box g 115 (scnA s ve An nn cn)]) X w [.box (g) 115 (scnA s ve An nn cn)] [] from (Held.startG hX hG))
  clear hG
  have kc := Lib.run_convert_bytes_const (P := Tryz.prog) w 50 5 #[.int .u8 102, .int .u8 98, .int .u8 120, .int .u8 49] 4 4 Tryz.underlying50 Tryz.underlying5
  go_enter Tryz.func111, Tryz.ntmps111
  go_wp2_with fail
  clear kc
  have HK2 := Lib.hid (show Held w (Exs [.box g 115 (scnA s ve An nn cn)]) X (w.alloc (.cells #[.int .u8 102, .int .u8 98, .int .u8 120, .int .u8 49] 5 (4, 5))) [.box (g) 115 (scnA s ve An nn cn)] [Sl.fact byteSh (some ⟨w.heap.size, 0, none⟩) 4 4 markS] from HK1.out.marked #[.int .u8 102, .int .u8 98, .int .u8 120, .int .u8 49] 5 (4, 5) markS rfl (by unfold maxLen; decide))
  clear HK1
  have HMb := Lib.hid (show ∀ g' ∈ Exs [.box g 115 (scnA s ve An nn cn)], B ≤ g' from by intro g' h; obtain ⟨x, hx, e⟩ := mem_exs.1 h; rw [List.mem_singleton] at hx; subst hx; injection e with e; omega)
  have HBl := Lib.hid (HK2.out.belowB hB HMb.out)
  cases hp : markS.isPrefixOf p
  · skip
    have HHd' := Lib.hid (HHd.out _ hp)
    clear HHd
    with_reducible refine (CutPrefix_no A (some ⟨w.heap.size, 0, none⟩) n c 4 4 _ _ p markS _ (HR.out.below HBl.out) (HK2.out.sl 0 rfl).bytes hnc hcm hp).mono ?_
    rintro e w' ⟨rfl, rfl⟩
    clear hp
    go_wp2
    go_ret
    exact .inl ⟨HHd'.out, rfl, HK2.out.only, HK2.out.blk 0 rfl⟩
  have HHd' := Lib.hid (HHd.out _ hp)
  clear HHd
  have hn4 : 4 ≤ n := by have h1 := List.IsPrefix.length_le (List.isPrefixOf_iff_prefix.1 hp); have h2 := HLB.out; simp [markS] at h1; omega
  obtain ⟨ad, rfl, -, -⟩ := HR.out.2 (by omega)
  with_reducible refine (CutPrefix_yes ad (some ⟨w.heap.size, 0, none⟩) n c 4 4 _ _ p markS _ (HR.out.below HBl.out) (HK2.out.sl 0 rfl).bytes hnc hcm hp).mono ?_
  rintro e w' ⟨⟨A1, c1, rfl, hr1, hc1, hc2⟩, rfl⟩
  clear hp HBl
  generalize w.alloc (.cells #[.int .u8 102, .int .u8 98, .int .u8 120, .int .u8 49] 5 (4, 5)) = w1 at HK2 hr1 ⊢
  have HR1 := Lib.hid (show Reads w B 1 A1 (n - 4) (byteCells (p.drop 4)) from hr1.keep (fun q hq => ((HK2.out.belowB hB HMb.out).cell hq).symm))
  clear hr1
  have hm : n - 4 ≤ 200 := by omega
  have HP := Lib.hid (show three (p.drop 4) = (uRes (p.drop 4) 0 0, uRes (p.drop 4) (uRes (p.drop 4) 0 0).1 (uRes (p.drop 4) 0 0).2.1, uRes (p.drop 4) (uRes (p.drop 4) (uRes (p.drop 4) 0 0).1 (uRes (p.drop 4) 0 0).2.1).1 (uRes (p.drop 4) (uRes (p.drop 4) 0 0).1 (uRes (p.drop 4) 0 0).2.1).2.1) from rfl)
  have HL4 := Lib.hid (show (p.drop 4).length = n - 4 from by rw [List.length_drop, HLB.out])
  rw [HP.out] at HHd'
  clear HP
  generalize p.drop 4 = r at HHd' HR1 HL4
  generalize n - 4 = m at HR1 HL4 hc1 hm ⊢
  clear HR HLB
  obtain ⟨⟨x1, y1, v1⟩, h1⟩ : ∃ u, uRes r 0 0 = u := ⟨_, rfl⟩
  rw [h1] at HHd'
  simp only at HHd'
  obtain ⟨⟨x2, y2, v2⟩, h2⟩ : ∃ u, uRes r x1 y1 = u := ⟨_, rfl⟩
  rw [h2] at HHd'
  simp only at HHd'
  obtain ⟨⟨x3, y3, v3⟩, h3⟩ : ∃ u, uRes r x2 y2 = u := ⟨_, rfl⟩
  rw [h3] at HHd'
  simp only at HHd'
  have HU := Lib.hid (uRes_ok r x2 y2 x3 v3)
  rw [h3] at HU
  rw [HL4.out] at HU HHd'
  have H1 := Lib.hid h1
  have H2 := Lib.hid h2
  have H3 := Lib.hid h3
  clear h1 h2 h3
  rw [if_pos trivial] at HHd'
  go_wp2_with fail
  with_reducible refine (Start_c A1 m c1 _ hc1).mono ?_
  rintro e w2 ⟨rfl, hb⟩
  have HK3 := Lib.hid (show Held w (Exs [.box g 115 (scnA s ve An nn cn)]) X w2 [.box (g) 115 (scnA s ve An nn cn)] [Sl.fact byteSh (some ⟨w.heap.size, 0, none⟩) 4 4 markS] from (HK2.out.on hb))
  clear HK2
  clear hb
  go_wp2_with fail
  with_reducible refine (Uint_c A1 m m 0 0 r _ _ (HR1.out.below (HK3.out.belowB hB HMb.out)) (Nat.le_trans hB HK3.out.size) (Nat.le_refl _) (by omega) (by omega)).mono ?_
  rw [H1.out]
  rintro e w3 ⟨rfl, hb⟩
  have HK4 := Lib.hid (show Held w (Exs [.box g 115 (scnA s ve An nn cn)]) X w3 [.box (g) 115 (scnA s ve An nn cn)] [Sl.fact byteSh (some ⟨w.heap.size, 0, none⟩) 4 4 markS] from (HK3.out.on hb))
  clear HK3
  clear hb
  have HK5 := Lib.hid (show Held w (Exs [.box g 115 (scnA s ve An nn cn)]) X (w3.alloc (.cells #[.slice A1 m m, .int .i64 x1, .int .i64 y1] 252)) [.box (w3.heap.size) 252 #[.slice A1 m m, .int .i64 x1, .int .i64 y1], .box (g) 115 (scnA s ve An nn cn)] [Sl.fact byteSh (some ⟨w.heap.size, 0, none⟩) 4 4 markS] from HK4.out.alloc_at 252 #[.slice A1 m m, .int .i64 x1, .int .i64 y1] (w3.heap.size) (by simp))
  clear HK4
  go_upto_region 5 with (fail)
  generalize w3.alloc (.cells #[.slice A1 m m, .int .i64 x1, .int .i64 y1] 252) = w4 at HK5 ⊢
  generalize w3.heap.size = gk at HK5 ⊢
  have c_k_0_6 : w4.cell? ⟨gk, 0, none⟩ = some (.slice A1 m m) := HK5.out.cell 0 rfl 0
  have z_k_0_7 : w4.frozen? ⟨gk, 0, none⟩ = false := HK5.out.frozen 0 rfl 0
  have c_k_1_8 : w4.cell? ⟨gk, 1, none⟩ = some (.int .i64 x1) := HK5.out.cell 0 rfl 1
  have z_k_1_9 : w4.frozen? ⟨gk, 1, none⟩ = false := HK5.out.frozen 0 rfl 1
  have c_k_2_10 : w4.cell? ⟨gk, 2, none⟩ = some (.int .i64 y1) := HK5.out.cell 0 rfl 2
  have z_k_2_11 : w4.frozen? ⟨gk, 2, none⟩ = false := HK5.out.frozen 0 rfl 2
  go_wp2_with fail
  with_reducible refine (Uint_c A1 m m x1 y1 r _ _ (HR1.out.below (HK5.out.belowB hB HMb.out)) (Nat.le_trans hB HK5.out.size) (Nat.le_refl _) (by omega) (by omega)).mono ?_
  rw [H2.out]
  rintro e w5 ⟨rfl, hb⟩
  clear c_k_0_6 z_k_0_7 c_k_1_8 z_k_1_9 c_k_2_10 z_k_2_11
  have HK12 := Lib.hid (show Held w (Exs [.box g 115 (scnA s ve An nn cn)]) X w5 [.box (gk) 252 #[.slice A1 m m, .int .i64 x1, .int .i64 y1], .box (g) 115 (scnA s ve An nn cn)] [Sl.fact byteSh (some ⟨w.heap.size, 0, none⟩) 4 4 markS] from (HK5.out.on hb))
  clear HK5
  clear hb
  have c_k_0_13 : w5.cell? ⟨gk, 0, none⟩ = some (.slice A1 m m) := HK12.out.cell 0 rfl 0
  have z_k_0_14 : w5.frozen? ⟨gk, 0, none⟩ = false := HK12.out.frozen 0 rfl 0
  have c_k_1_15 : w5.cell? ⟨gk, 1, none⟩ = some (.int .i64 x1) := HK12.out.cell 0 rfl 1
  have z_k_1_16 : w5.frozen? ⟨gk, 1, none⟩ = false := HK12.out.frozen 0 rfl 1
  have c_k_2_17 : w5.cell? ⟨gk, 2, none⟩ = some (.int .i64 y1) := HK12.out.cell 0 rfl 2
  have z_k_2_18 : w5.frozen? ⟨gk, 2, none⟩ = false := HK12.out.frozen 0 rfl 2
  go_upto_region 6 with (fail)
  clear c_k_0_13 z_k_0_14 c_k_1_15 z_k_1_16 c_k_2_17 z_k_2_18
  have HK19 := Lib.hid (show Held w (Exs [.box g 115 (scnA s ve An nn cn)]) X (((w5.setCell ⟨gk, 0, none⟩ (.slice A1 m m)).setCell ⟨gk, 1, none⟩ (.int .i64 x2)).setCell ⟨gk, 2, none⟩ (.int .i64 y2)) [.box (gk) 252 #[.slice A1 m m, .int .i64 x2, .int .i64 y2], .box (g) 115 (scnA s ve An nn cn)] [Sl.fact byteSh (some ⟨w.heap.size, 0, none⟩) 4 4 markS] from (((HK12.out.set_ 0 rfl 0 (.slice A1 m m)).set_ 0 rfl 1 (.int .i64 x2)).set_ 0 rfl 2 (.int .i64 y2)))
  clear HK12
  generalize ((w5.setCell ⟨gk, 0, none⟩ (.slice A1 m m)).setCell ⟨gk, 1, none⟩ (.int .i64 x2)).setCell ⟨gk, 2, none⟩ (.int .i64 y2) = w6 at HK19 ⊢
  have c_k_0_20 : w6.cell? ⟨gk, 0, none⟩ = some (.slice A1 m m) := HK19.out.cell 0 rfl 0
  have z_k_0_21 : w6.frozen? ⟨gk, 0, none⟩ = false := HK19.out.frozen 0 rfl 0
  have c_k_1_22 : w6.cell? ⟨gk, 1, none⟩ = some (.int .i64 x2) := HK19.out.cell 0 rfl 1
  have z_k_1_23 : w6.frozen? ⟨gk, 1, none⟩ = false := HK19.out.frozen 0 rfl 1
  have c_k_2_24 : w6.cell? ⟨gk, 2, none⟩ = some (.int .i64 y2) := HK19.out.cell 0 rfl 2
  have z_k_2_25 : w6.frozen? ⟨gk, 2, none⟩ = false := HK19.out.frozen 0 rfl 2
  go_wp2_with fail
  with_reducible refine (Uint_c A1 m m x2 y2 r _ _ (HR1.out.below (HK19.out.belowB hB HMb.out)) (Nat.le_trans hB HK19.out.size) (Nat.le_refl _) (by omega) (by omega)).mono ?_
  rw [H3.out]
  rintro e w7 ⟨rfl, hb⟩
  clear c_k_0_20 z_k_0_21 c_k_1_22 z_k_1_23 c_k_2_24 z_k_2_25
  have HK26 := Lib.hid (show Held w (Exs [.box g 115 (scnA s ve An nn cn)]) X w7 [.box (gk) 252 #[.slice A1 m m, .int .i64 x2, .int .i64 y2], .box (g) 115 (scnA s ve An nn cn)] [Sl.fact byteSh (some ⟨w.heap.size, 0, none⟩) 4 4 markS] from (HK19.out.on hb))
  clear HK19
  clear hb
  have c_k_0_27 : w7.cell? ⟨gk, 0, none⟩ = some (.slice A1 m m) := HK26.out.cell 0 rfl 0
  have z_k_0_28 : w7.frozen? ⟨gk, 0, none⟩ = false := HK26.out.frozen 0 rfl 0
  have c_k_1_29 : w7.cell? ⟨gk, 1, none⟩ = some (.int .i64 x2) := HK26.out.cell 0 rfl 1
  have z_k_1_30 : w7.frozen? ⟨gk, 1, none⟩ = false := HK26.out.frozen 0 rfl 1
  have c_k_2_31 : w7.cell? ⟨gk, 2, none⟩ = some (.int .i64 y2) := HK26.out.cell 0 rfl 2
  have z_k_2_32 : w7.frozen? ⟨gk, 2, none⟩ = false := HK26.out.frozen 0 rfl 2
  go_upto_region 7 with (fail)
  clear c_k_0_27 z_k_0_28 c_k_1_29 z_k_1_30 c_k_2_31 z_k_2_32
  have HK33 := Lib.hid (show Held w (Exs [.box g 115 (scnA s ve An nn cn)]) X (((w7.setCell ⟨gk, 0, none⟩ (.slice A1 m m)).setCell ⟨gk, 1, none⟩ (.int .i64 x3)).setCell ⟨gk, 2, none⟩ (.int .i64 y3)) [.box (gk) 252 #[.slice A1 m m, .int .i64 x3, .int .i64 y3], .box (g) 115 (scnA s ve An nn cn)] [Sl.fact byteSh (some ⟨w.heap.size, 0, none⟩) 4 4 markS] from (((HK26.out.set_ 0 rfl 0 (.slice A1 m m)).set_ 0 rfl 1 (.int .i64 x3)).set_ 0 rfl 2 (.int .i64 y3)))
  clear HK26
  generalize ((w7.setCell ⟨gk, 0, none⟩ (.slice A1 m m)).setCell ⟨gk, 1, none⟩ (.int .i64 x3)).setCell ⟨gk, 2, none⟩ (.int .i64 y3) = w8 at HK33 ⊢
  have HK34 := Lib.hid (show Held w (Exs [.box g 115 (scnA s ve An nn cn)]) X (w8.alloc (.cells #[.int .i64 (wrap64 (v2 : Int)), .int .i64 (wrap64 (v3 : Int)), .slice none 0 0] 34)) [.box (w8.heap.size) 34 #[.int .i64 (wrap64 (v2 : Int)), .int .i64 (wrap64 (v3 : Int)), .slice none 0 0], .box (gk) 252 #[.slice A1 m m, .int .i64 x3, .int .i64 y3], .box (g) 115 (scnA s ve An nn cn)] [Sl.fact byteSh (some ⟨w.heap.size, 0, none⟩) 4 4 markS] from HK33.out.alloc_at 34 #[.int .i64 (wrap64 (v2 : Int)), .int .i64 (wrap64 (v3 : Int)), .slice none 0 0] (w8.heap.size) (by simp))
  clear HK33
  go_upto_region 8 with (fail)
  generalize w8.alloc (.cells #[.int .i64 (wrap64 (v2 : Int)), .int .i64 (wrap64 (v3 : Int)), .slice none 0 0] 34) = w9 at HK34 ⊢
  generalize w8.heap.size = gb at HK34 ⊢
  have HN := fun W => Lib.hid (numbered_c (wrap64 (v1 : Int)) W)
  have HRt := fun (X : List Nat) (W : World) => Lib.hid (cRight_s (wrap64 (v2 : Int)) (wrap64 (v3 : Int)) [] none 0 0 X W Sl.nil_ (by omega))
  generalize numB _ = nb at HN HHd'
  generalize rightC _ = rc at HRt HHd'
  by_cases hy : y3 = 0
  rotate_left
  · skip
    rw [if_pos (.inl hy)] at HHd'
    have b1 : (y3 != 0) = true := by rw [bne_iff_ne]; exact hy
    clear hy
    have c_k_0_35 : w9.cell? ⟨gk, 0, none⟩ = some (.slice A1 m m) := HK34.out.cell 1 rfl 0
    have c_k_1_36 : w9.cell? ⟨gk, 1, none⟩ = some (.int .i64 x3) := HK34.out.cell 1 rfl 1
    have c_k_2_37 : w9.cell? ⟨gk, 2, none⟩ = some (.int .i64 y3) := HK34.out.cell 1 rfl 2
    go_wp2
    clear c_k_0_35 c_k_1_36 c_k_2_37
    go_ret
    exact .inl ⟨HHd'.out, rfl, HK34.out.only, HK34.out.blk 2 rfl⟩
  subst hy
  obtain ⟨-, hx0, hx1, -, -⟩ := HU.out rfl
  clear HU
  have c_k_0_35 : w9.cell? ⟨gk, 0, none⟩ = some (.slice A1 m m) := HK34.out.cell 1 rfl 0
  have c_k_1_36 : w9.cell? ⟨gk, 1, none⟩ = some (.int .i64 x3) := HK34.out.cell 1 rfl 1
  have c_k_2_37 : w9.cell? ⟨gk, 2, none⟩ = some (.int .i64 0) := HK34.out.cell 1 rfl 2
  go_wp2_with fail
  with_reducible refine (Left_yes A1 m m x3 _ hx0 hx1 (by omega)).mono ?_
  rintro e w10 ⟨rfl, hb⟩
  clear c_k_0_35 c_k_1_36 c_k_2_37
  have HK38 := Lib.hid (show Held w (Exs [.box g 115 (scnA s ve An nn cn)]) X w10 [.box (gb) 34 #[.int .i64 (wrap64 (v2 : Int)), .int .i64 (wrap64 (v3 : Int)), .slice none 0 0], .box (gk) 252 #[.slice A1 m m, .int .i64 x3, .int .i64 0], .box (g) 115 (scnA s ve An nn cn)] [Sl.fact byteSh (some ⟨w.heap.size, 0, none⟩) 4 4 markS] from (HK34.out.on hb))
  clear HK34
  clear hb
  by_cases hx : x3 < (m : Int)
  · skip
    rw [if_pos (.inr (.inl hx))] at HHd'
    have b1 : decide (0 < (m : Int) - x3) = true := by simp; omega
    have c_k_0_39 : w10.cell? ⟨gk, 0, none⟩ = some (.slice A1 m m) := HK38.out.cell 1 rfl 0
    have c_k_1_40 : w10.cell? ⟨gk, 1, none⟩ = some (.int .i64 x3) := HK38.out.cell 1 rfl 1
    have c_k_2_41 : w10.cell? ⟨gk, 2, none⟩ = some (.int .i64 0) := HK38.out.cell 1 rfl 2
    go_wp2
    clear c_k_0_39 c_k_1_40 c_k_2_41
    go_ret
    exact .inl ⟨HHd'.out, rfl, HK38.out.only, HK38.out.blk 2 rfl⟩
  have b1 : decide (0 < (m : Int) - x3) = false := by simp; omega
  cases nb
  · skip
    rw [if_pos (.inr (.inr (.inl rfl)))] at HHd'
    go_wp2_with (go_at_call 53; refine ((HN _).out).mono ?_; rintro e w' ⟨rfl, rfl⟩)
    go_ret
    exact .inl ⟨HHd'.out, rfl, HK38.out.only, HK38.out.blk 2 rfl⟩
  have c_b_0_39 : w10.cell? ⟨gb, 0, none⟩ = some (.int .i64 (wrap64 (v2 : Int))) := HK38.out.cell 0 rfl 0
  have c_b_1_40 : w10.cell? ⟨gb, 1, none⟩ = some (.int .i64 (wrap64 (v3 : Int))) := HK38.out.cell 0 rfl 1
  have c_b_2_41 : w10.cell? ⟨gb, 2, none⟩ = some (.slice none 0 0) := HK38.out.cell 0 rfl 2
  go_wp2_with (first | (go_at_call 53; refine ((HN _).out).mono ?_; rintro e w' ⟨rfl, rfl⟩) | fail)
  with_reducible refine ((HRt [] _).out).mono ?_
  rintro e w11 ⟨rfl, hb⟩
  clear c_b_0_39 c_b_1_40 c_b_2_41
  have HK42 := Lib.hid (show Held w (Exs [.box g 115 (scnA s ve An nn cn)]) X w11 [.box (gb) 34 #[.int .i64 (wrap64 (v2 : Int)), .int .i64 (wrap64 (v3 : Int)), .slice none 0 0], .box (gk) 252 #[.slice A1 m m, .int .i64 x3, .int .i64 0], .box (g) 115 (scnA s ve An nn cn)] [Sl.fact byteSh (some ⟨w.heap.size, 0, none⟩) 4 4 markS] from (HK38.out.on hb))
  clear HK38
  clear hb
  cases rc
  · skip
    rw [if_pos (.inr (.inr (.inr rfl)))] at HHd'
    go_wp2
    go_ret
    exact .inl ⟨HHd'.out, rfl, HK42.out.only, HK42.out.blk 2 rfl⟩
  rw [if_neg (by simpa using hx)] at HHd'
  go_wp2_with fail
  refine wp_region_noPanic ?_
  refine wp_region_held_drew (S := fun W' => Blk W' (gb) 34 #[.int .i64 (wrap64 (v2 : Int)), .int .i64 (wrap64 (v3 : Int)), .slice none 0 0]) (by kernel_rfl) (HK42.out.blk 0 rfl).drew (fun hHeld => ?_)
  have HK43 := Lib.hid (show Held w (Exs [.box g 115 (scnA s ve An nn cn)]) X w11.drew [.box (gb) 34 #[.int .i64 (wrap64 (v2 : Int)), .int .i64 (wrap64 (v3 : Int)), .slice none 0 0], .box (gk) 252 #[.slice A1 m m, .int .i64 x3, .int .i64 0], .box (g) 115 (scnA s ve An nn cn)] [Sl.fact byteSh (some ⟨w.heap.size, 0, none⟩) 4 4 markS] from HK42.out.drew)
  clear HK42
  generalize w11.drew = wd at hHeld HK43 ⊢
  have c_s_0_44 : wd.cell? ⟨g, 0, none⟩ = some (.int .i64 s.num) := HK43.out.cell 2 rfl 0
  have z_s_0_45 : wd.frozen? ⟨g, 0, none⟩ = false := HK43.out.frozen 2 rfl 0
  have c_s_1_46 : wd.cell? ⟨g, 1, none⟩ = some (.int .i64 s.bq) := HK43.out.cell 2 rfl 1
  have z_s_1_47 : wd.frozen? ⟨g, 1, none⟩ = false := HK43.out.frozen 2 rfl 1
  have c_s_2_48 : wd.cell? ⟨g, 2, none⟩ = some (.int .i64 s.ba) := HK43.out.cell 2 rfl 2
  have z_s_2_49 : wd.frozen? ⟨g, 2, none⟩ = false := HK43.out.frozen 2 rfl 2
  have c_s_3_50 : wd.cell? ⟨g, 3, none⟩ = some (.slice none 0 0) := HK43.out.cell 2 rfl 3
  have z_s_3_51 : wd.frozen? ⟨g, 3, none⟩ = false := HK43.out.frozen 2 rfl 3
  have c_s_4_52 : wd.cell? ⟨g, 4, none⟩ = some (ve) := HK43.out.cell 2 rfl 4
  have z_s_4_53 : wd.frozen? ⟨g, 4, none⟩ = false := HK43.out.frozen 2 rfl 4
  have c_s_5_54 : wd.cell? ⟨g, 5, none⟩ = some (.int .i64 s.c.q) := HK43.out.cell 2 rfl 5
  have z_s_5_55 : wd.frozen? ⟨g, 5, none⟩ = false := HK43.out.frozen 2 rfl 5
  have c_s_6_56 : wd.cell? ⟨g, 6, none⟩ = some (.int .i64 s.c.a) := HK43.out.cell 2 rfl 6
  have z_s_6_57 : wd.frozen? ⟨g, 6, none⟩ = false := HK43.out.frozen 2 rfl 6
  have c_s_7_58 : wd.cell? ⟨g, 7, none⟩ = some (.slice An nn cn) := HK43.out.cell 2 rfl 7
  have z_s_7_59 : wd.frozen? ⟨g, 7, none⟩ = false := HK43.out.frozen 2 rfl 7
  have c_s_8_60 : wd.cell? ⟨g, 8, none⟩ = some (.int .i64 0) := HK43.out.cell 2 rfl 8
  have z_s_8_61 : wd.frozen? ⟨g, 8, none⟩ = false := HK43.out.frozen 2 rfl 8
  have c_s_9_62 : wd.cell? ⟨g, 9, none⟩ = some (.int .i64 s.size) := HK43.out.cell 2 rfl 9
  have z_s_9_63 : wd.frozen? ⟨g, 9, none⟩ = false := HK43.out.frozen 2 rfl 9
  have c_s_10_64 : wd.cell? ⟨g, 10, none⟩ = some (.bool s.sealed) := HK43.out.cell 2 rfl 10
  have z_s_10_65 : wd.frozen? ⟨g, 10, none⟩ = false := HK43.out.frozen 2 rfl 10
  have ne_66 : ¬ (g = gb) := HK43.out.ne 2 0 (by decide) rfl rfl
  have ne_67 : ¬ (gb = g) := HK43.out.ne 0 2 (by decide) rfl rfl
  refine takeH 0 (v := ?v0u1) rfl (by kernel_rfl) (by kernel_rfl) (by kernel_rfl) rfl (fun _ _ _ h => h) (Or.inl ⟨by rfl, ?y0u1⟩) hHeld ?r0u1
  case y0u1 => (intro W hSW; (try dsimp only at hSW); go_simp; try with_reducible rfl)
  simp only [Act.put, sI, sZ, sS]
  refine takeH 1 (v := ?v1u2) rfl (by kernel_rfl) (by kernel_rfl) (by kernel_rfl) rfl (fun _ _ _ h => h) (Or.inl ⟨by rfl, ?y1u2⟩) hHeld ?r1u2
  case y1u2 => (intro W hSW; (try dsimp only at hSW); go_simp; try with_reducible rfl)
  simp only [Act.put, sI, sZ, sS]
  refine takeH 2 (v := ?v2u3) rfl (by kernel_rfl) (by kernel_rfl) (by kernel_rfl) rfl (fun _ _ _ h => h) (Or.inl ⟨by rfl, ?y2u3⟩) hHeld ?r2u3
  case y2u3 => (intro W hSW; (try dsimp only at hSW); go_simp; try with_reducible rfl)
  simp only [Act.put, sI, sZ, sS]
  refine takeH 3 (v := ?v3u4) rfl (by kernel_rfl) (by kernel_rfl) (by kernel_rfl) rfl (fun _ _ _ h => h) (Or.inl ⟨by rfl, ?y3u4⟩) hHeld ?r3u4
  case y3u4 => (intro W hSW; (try dsimp only at hSW); go_simp; try with_reducible rfl)
  simp only [Act.put, sI, sZ, sS]
  refine takeH 4 (v := ?v4u5) rfl (by kernel_rfl) (by kernel_rfl) (by kernel_rfl) rfl (fun _ _ _ h => h) (Or.inl ⟨by rfl, ?y4u5⟩) hHeld ?r4u5
  case y4u5 => (intro W hSW; (try dsimp only at hSW); go_simp; try with_reducible rfl)
  simp only [Act.put, sI, sZ, sS]
  refine takeH 5 (v := ?v5u6) rfl (by kernel_rfl) (by kernel_rfl) (by kernel_rfl) rfl (fun _ _ _ h => h) (Or.inl ⟨by rfl, ?y5u6⟩) hHeld ?r5u6
  case y5u6 => (intro W hSW; (try dsimp only at hSW); have q0 : W.cell? ⟨gb, 0, none⟩ = some (.int .i64 (wrap64 (v2 : Int))) := hSW.cell 0; have q1 : W.cell? ⟨gb, 1, none⟩ = some (.int .i64 (wrap64 (v3 : Int))) := hSW.cell 1; have q2 : W.cell? ⟨gb, 2, none⟩ = some (.slice none 0 0) := hSW.cell 2; go_simp; try with_reducible rfl)
  simp only [Act.put, sI, sZ, sS]
  refine takeH 6 (v := ?v6u7) rfl (by kernel_rfl) (by kernel_rfl) (by kernel_rfl) rfl (fun _ _ _ h => h) (Or.inl ⟨by rfl, ?y6u7⟩) hHeld ?r6u7
  case y6u7 => (intro W hSW; (try dsimp only at hSW); have q0 : W.cell? ⟨gb, 0, none⟩ = some (.int .i64 (wrap64 (v2 : Int))) := hSW.cell 0; have q1 : W.cell? ⟨gb, 1, none⟩ = some (.int .i64 (wrap64 (v3 : Int))) := hSW.cell 1; have q2 : W.cell? ⟨gb, 2, none⟩ = some (.slice none 0 0) := hSW.cell 2; go_simp; try with_reducible rfl)
  simp only [Act.put, sI, sZ, sS]
  refine takeH 7 (v := ?v7u8) rfl (by kernel_rfl) (by kernel_rfl) (by kernel_rfl) rfl (fun _ _ _ h => h) (Or.inl ⟨by rfl, ?y7u8⟩) hHeld ?r7u8
  case y7u8 => (intro W hSW; (try dsimp only at hSW); go_simp; try with_reducible rfl)
  simp only [Act.put, sI, sZ, sS]
  refine takeH 8 (v := ?v8u9) rfl (by kernel_rfl) (by kernel_rfl) (by kernel_rfl) rfl (fun _ _ _ h => h) (Or.inl ⟨by rfl, ?y8u9⟩) hHeld ?r8u9
  case y8u9 => (intro W hSW; (try dsimp only at hSW); go_simp; try with_reducible rfl)
  simp only [Act.put, sI, sZ, sS]
  refine takeH 9 (v := ?v9u10) rfl (by kernel_rfl) (by kernel_rfl) (by kernel_rfl) rfl (fun _ _ _ h => h) (Or.inl ⟨by rfl, ?y9u10⟩) hHeld ?r9u10
  case y9u10 => (intro W hSW; (try dsimp only at hSW); go_simp; try with_reducible rfl)
  simp only [Act.put, sI, sZ, sS]
  refine wpAnyH_ready (rs := [10]) (by kernel_rfl) (by simp) ?_
  refine AllReadyH.cons rfl (fun K hK => ?_) AllReadyH.nil
  go_simp
  refine hK.out _ _ (hHeld.far (p := ⟨g, 0, none⟩) (HK43.out.ne 0 2 (by decide) rfl rfl) ((.int .i64 (IntKind.i64.wrap (v1 : Int))))) (fun hHeld => ?_)
  clear hK K
  try simp only [Act.put, sI, sZ, sS]
  refine takeH 11 (v := ?v11u11) rfl (by kernel_rfl) (by kernel_rfl) (by kernel_rfl) rfl (fun _ _ _ h => h) (Or.inl ⟨by rfl, ?y11u11⟩) hHeld ?r11u11
  case y11u11 => (intro W hSW; (try dsimp only at hSW); go_simp; try with_reducible rfl)
  simp only [Act.put, sI, sZ, sS]
  refine takeH 12 (v := ?v12u12) rfl (by kernel_rfl) (by kernel_rfl) (by kernel_rfl) rfl (fun _ _ _ h => h) (Or.inl ⟨by rfl, ?y12u12⟩) hHeld ?r12u12
  case y12u12 => (intro W hSW; (try dsimp only at hSW); go_simp; try with_reducible rfl)
  simp only [Act.put, sI, sZ, sS]
  refine takeH 13 (v := ?v13u13) rfl (by kernel_rfl) (by kernel_rfl) (by kernel_rfl) rfl (fun _ _ _ h => h) (Or.inl ⟨by rfl, ?y13u13⟩) hHeld ?r13u13
  case y13u13 => (intro W hSW; (try dsimp only at hSW); go_simp; try with_reducible rfl)
  simp only [Act.put, sI, sZ, sS]
  refine wpAnyH_ready (rs := [14]) (by kernel_rfl) (by simp) ?_
  refine AllReadyH.cons rfl (fun K hK => ?_) AllReadyH.nil
  go_simp
  refine hK.out _ _ (((hHeld.far (p := ⟨g, 1, none⟩) (HK43.out.ne 0 2 (by decide) rfl rfl) (.int .i64 (wrap64 (v2 : Int)))).far (p := ⟨g, 2, none⟩) (HK43.out.ne 0 2 (by decide) rfl rfl) (.int .i64 (wrap64 (v3 : Int)))).far (p := ⟨g, 3, none⟩) (HK43.out.ne 0 2 (by decide) rfl rfl) (.slice none 0 0)) (fun hHeld => ?_)
  clear hK K
  try simp only [Act.put, sI, sZ, sS]
  refine takeH 15 (v := ?v15u14) rfl (by kernel_rfl) (by kernel_rfl) (by kernel_rfl) rfl (fun _ _ _ h => h) (Or.inl ⟨by rfl, ?y15u14⟩) hHeld ?r15u14
  case y15u14 => (intro W hSW; (try dsimp only at hSW); go_simp; try with_reducible rfl)
  simp only [Act.put, sI, sZ, sS]
  refine takeH 16 (v := ?v16u15) rfl (by kernel_rfl) (by kernel_rfl) (by kernel_rfl) rfl (fun _ _ _ h => h) (Or.inl ⟨by rfl, ?y16u15⟩) hHeld ?r16u15
  case y16u15 => (intro W hSW; (try dsimp only at hSW); go_simp; try with_reducible rfl)
  simp only [Act.put, sI, sZ, sS]
  refine takeH 17 (v := ?v17u16) rfl (by kernel_rfl) (by kernel_rfl) (by kernel_rfl) rfl (fun _ _ _ h => h) (Or.inl ⟨by rfl, ?y17u16⟩) hHeld ?r17u16
  case y17u16 => (intro W hSW; (try dsimp only at hSW); go_simp; try with_reducible rfl)
  simp only [Act.put, sI, sZ, sS]
  refine wpAnyH_ready (rs := [18]) (by kernel_rfl) (by simp) ?_
  refine AllReadyH.cons rfl (fun K hK => ?_) AllReadyH.nil
  go_simp
  refine hK.out _ _ (((hHeld.far (p := ⟨g, 5, none⟩) (HK43.out.ne 0 2 (by decide) rfl rfl) (.int .i64 (wrap64 (v2 : Int)))).far (p := ⟨g, 6, none⟩) (HK43.out.ne 0 2 (by decide) rfl rfl) (.int .i64 (wrap64 (v3 : Int)))).far (p := ⟨g, 7, none⟩) (HK43.out.ne 0 2 (by decide) rfl rfl) (.slice none 0 0)) (fun hHeld => ?_)
  clear hK K
  try simp only [Act.put, sI, sZ, sS]
  refine wpAnyH_done (by kernel_rfl) ?_ _
  refine NoPanic.normal ?_
  clear c_s_0_44 z_s_0_45 c_s_1_46 z_s_1_47 c_s_2_48 z_s_2_49 c_s_3_50 z_s_3_51 c_s_4_52 z_s_4_53 c_s_5_54 z_s_5_55 c_s_6_56 z_s_6_57 c_s_7_58 z_s_7_59 c_s_8_60 z_s_8_61 c_s_9_62 z_s_9_63 c_s_10_64 z_s_10_65 ne_66 ne_67
  have HKe := Lib.hid (((((((HK43.out.set_ 2 rfl 0 ((.int .i64 (IntKind.i64.wrap (v1 : Int))))).set_ 2 rfl 1 (.int .i64 (wrap64 (v2 : Int)))).set_ 2 rfl 2 (.int .i64 (wrap64 (v3 : Int)))).set_ 2 rfl 3 (.slice none 0 0)).set_ 2 rfl 5 (.int .i64 (wrap64 (v2 : Int)))).set_ 2 rfl 6 (.int .i64 (wrap64 (v3 : Int)))).set_ 2 rfl 7 (.slice none 0 0))
  have hw1 : IntKind.i64.wrap (v1 : Int) = wrap64 (v1 : Int) := by unfold wrap64; exact IntKind.wrap_i64 _
  rw [hw1] at HKe ⊢
  clear hw1
  go_wp2
  go_ret
  exact .inr ⟨_, HHd'.out, rfl, HKe.out.only, HKe.out.blk 2 rfl⟩
end
section
set_option maxRecDepth 100000
open Go.ChangeShapes Go.WideShapes Go.ChangeAt Go.RowKit Go.Deep
def evCells (evs : List Evt) : List Value := evs.flatMap (fun e => (evA e).toList)
theorem evCells_cons (e : Evt) (l : List Evt) : evCells (e :: l) = (evA e).toList ++ evCells l := by simp [evCells]
theorem evCells_append (a b : List Evt) : evCells (a ++ b) = evCells a ++ evCells b := by simp [evCells]
theorem evCells_length (evs : List Evt) : (evCells evs).length = evs.length * 7 := by
  induction evs with
  | nil => rfl
  | cons e l ih => rw [evCells_cons, List.length_append, ih, List.length_cons]; simp; omega
theorem ev_get : ∀ (evs : List Evt) (i : Nat) (e : Evt), evs[i]? = some e → ∀ j u, (evA e)[j]? = some u → (evCells evs)[i * 7 + j]? = some u
  | [], i, e, h, _, _, _ => by simp at h
  | x :: l, 0, e, h, j, u, hu => by
    simp at h; subst h
    rw [evCells_cons, Nat.zero_mul, Nat.zero_add]
    have hj : j < 7 := by
      rcases Nat.lt_or_ge j 7 with h | h
      · exact h
      · rw [Array.getElem?_eq_none (by simpa using h)] at hu; cases hu
    rw [List.getElem?_append_left (by simpa using hj)]
    simpa using hu
  | x :: l, i + 1, e, h, j, u, hu => by
    rw [evCells_cons, List.getElem?_append_right (by simp; omega)]
    rw [show (i + 1) * 7 + j - (evA x).toList.length = i * 7 + j from by simp; omega]
    exact ev_get l i e (by simpa using h) j u hu
theorem ev_in {w : World} {B n i : Nat} {A : Option Addr} {evs : List Evt} (h : Reads w B 7 A n (evCells evs)) (hi : i < n) :
    ∃ (ad : Addr) (e : Evt), A = some ad ∧ ad.block < B ∧ evs[i]? = some e ∧ w.cell? (ad.add (i * 7)) = some (.int .i64 e.q) ∧ w.cell? ⟨(ad.add (i * 7)).block, (ad.add (i * 7)).off + 1, none⟩ = some (.int .i64 e.a) ∧ w.cell? ⟨(ad.add (i * 7)).block, (ad.add (i * 7)).off + 2, none⟩ = some (.int .i64 e.k) ∧ w.cell? ⟨(ad.add (i * 7)).block, (ad.add (i * 7)).off + 3, none⟩ = some (.string e.cm) ∧ w.cell? ⟨(ad.add (i * 7)).block, (ad.add (i * 7)).off + 4, none⟩ = some (.int .i64 e.x) ∧ w.cell? ⟨(ad.add (i * 7)).block, (ad.add (i * 7)).off + 5, none⟩ = some (.int .i64 e.y) ∧ w.cell? ⟨(ad.add (i * 7)).block, (ad.add (i * 7)).off + 6, none⟩ = some (.int .i64 e.z) := by
  have hl : evs.length = n := by have := h.1; rw [evCells_length] at this; omega
  obtain ⟨ad, rfl, hb, hc⟩ := h.2 (by omega)
  obtain ⟨e, he⟩ : ∃ e, evs[i]? = some e := ⟨_, List.getElem?_eq_getElem (by omega)⟩
  have q : ∀ j u, (evA e)[j]? = some u → w.cell? ((ad.add (i * 7)).add j) = some u := fun j u hu => by rw [add_of_add]; exact hc _ u (ev_get evs i e he j u hu)
  have q1 := q 1 _ rfl
  rw [add_pos _ 1 (by omega)] at q1
  have q2 := q 2 _ rfl
  rw [add_pos _ 2 (by omega)] at q2
  have q3 := q 3 _ rfl
  rw [add_pos _ 3 (by omega)] at q3
  have q4 := q 4 _ rfl
  rw [add_pos _ 4 (by omega)] at q4
  have q5 := q 5 _ rfl
  rw [add_pos _ 5 (by omega)] at q5
  have q6 := q 6 _ rfl
  rw [add_pos _ 6 (by omega)] at q6
  exact ⟨ad, e, rfl, hb, he, q 0 _ rfl, q1, q2, q3, q4, q5, q6⟩
theorem Reads.ev_len {w : World} {B n : Nat} {A : Option Addr} {evs : List Evt} (h : Reads w B 7 A n (evCells evs)) : evs.length = n := by have := h.1; rw [evCells_length] at this; omega
section
variable {H : Type} {enc : TypeId × Value → H}
end
end
section
set_option maxRecDepth 100000
open Go.RowKit
theorem decC_ctx {c : Cx} {bs : List UInt8} (h : (decC c bs).2.2 = 0) : (decC c bs).2.1.q = (decC c bs).1.q ∧ (decC c bs).2.1.a = (decC c bs).1.a ∧ rightC c = true ∧ errC c (decC c bs).1 = 0 ∧ bytesC c (decC c bs).1 = bs ∧ (decC c bs).2.1 = nextC c (decC c bs).1 := by
  unfold decC at h ⊢
  by_cases h1 : rightC c = false
  · rw [if_pos h1] at h; cases h
  rw [if_neg h1] at h ⊢
  by_cases h2 : (readC c bs).2 = false
  · rw [if_pos h2] at h; cases h
  rw [if_neg h2] at h ⊢
  by_cases h3 : errC c (readC c bs).1 ≠ 0 ∨ bytesC c (readC c bs).1 ≠ bs
  · rw [if_pos h3] at h; cases h
  rw [if_neg h3]
  exact ⟨rfl, rfl, by simpa using h1, Classical.not_not.1 (fun h => h3 (.inl h)), Classical.not_not.1 (fun h => h3 (.inr h)), rfl⟩
section
variable {P : Program} {w0 W : World} {M X0 : List Nat} {L : List Itm} {F : List Fact}
theorem step_append_new {ops : Array Oper} {o : Oper} {a : Act} {K : Act → World → Prop} {Q : Exit → Act → World → Prop} {E : Prop} (HK : Held w0 M X0 W L F) (k : Nat) (hgd : o.guard = none) (s x : Operand) (t : TypeId)
    (ho : o.op = .call { callee := .builtin .append, args := #[s, x], argTypes := #[t, t] }) {e : TypeId} {size bytes : Nat} (hT : AppOk P t e size bytes)
    {v : Value} {n : Nat} {xs : List Value} (hk : L[k]? = some (.row e size v n xs)) (hs : a.eval s = v)
    {cs : Array Value} (hx : a.eval x = .slice (some ⟨W.heap.size, 0, none⟩) 1 1) (hcs : cs.size = size) (h1 : ∀ u ∈ cs.toList, u.oneCell' = true)
    (h63 : n + 1 ≤ maxLen) (hbytes : (n + 1) * bytes ≤ 140737488355328)
    (h : ∀ v' w', Held w0 M X0 w' (L.set k (.row e size v' (n + 1) (xs ++ cs.toList))) F → K (a.put o.dst v') w') : if Region.wanted o (yielded ops a.tmps) = true then Oper.wp P o a (W.alloc (.cells cs e)) K Q else E := by
  obtain ⟨ht, i, z, hi, hz, hsize, hby, hzs, hsz⟩ := hT
  refine step_append_any _ hgd s x t ho 0 e i z size bytes ht hi hz hsize hby hzs hsz v n xs hs ((HK.alloc_off _).ent k hk) (W.heap.size + 1) _ 1 1 cs.toList hx ?_ h1 h63 hbytes (Nat.zero_le _) (fun v' w' h2 h3 h4 => h v' w' ((HK.alloc_off _).appended k hk h2 h3 h4))
  refine ⟨by simp [hcs], fun _ => ⟨_, rfl, Nat.lt_succ_self _, fun j u hu => ?_⟩⟩
  rw [add_plain, Nat.zero_add, (Blk.new W e cs).cell j]
  simpa using hu
theorem sub_exs {L : List Itm} {x x' y y' : Itm} {X : List Nat} (i j : Nat) (hi : L[i]? = some x') (hj : L[j]? = some y') (hx : x.blk = x'.blk := by rfl) (hy : y.blk = y'.blk := by rfl) : ∀ b ∈ Exs [x, y] ++ X, b ∈ Exs L ++ X := by
  intro b hb
  rcases List.mem_append.1 hb with hb | hb
  · obtain ⟨z, hz, e⟩ := mem_exs.1 hb
    rcases List.mem_cons.1 hz with rfl | hz
    · exact List.mem_append_left _ (mem_exs.2 ⟨x', List.mem_of_getElem? hi, hx ▸ e⟩)
    · rw [List.mem_singleton] at hz
      subst hz
      exact List.mem_append_left _ (mem_exs.2 ⟨y', List.mem_of_getElem? hj, hy ▸ e⟩)
  · exact List.mem_append_right _ hb
theorem own_sl {base : Nat} {e : TypeId} {size n : Nat} {v : Value} {xs : List Value} (h : W.ownsRow base e size v n xs) : ∃ A c, v = .slice A n c := by
  rcases h.2 with ⟨h1, h2⟩ | ⟨g, cap, cur, h1, _⟩
  · exact ⟨none, 0, by rw [h1, h2]⟩
  · exact ⟨_, cap, h1⟩
theorem Held.row_near {g : Nat} {t : TypeId} {cs cs' : Array Value} {e : TypeId} {size n n' : Nat} {v v' : Value} {xs xs' : List Value} (h : Held w0 (Exs [.box g t cs, .row e size v n xs]) X0 W L F) {i j : Nat} (hij : i ≠ j) (hi : L[i]? = some (.box g t cs')) (hj : L[j]? = some (.row e size v' n' xs')) : ∀ b, v'.ownBlock = some b → v.ownBlock = some b ∨ w0.heap.size ≤ b := fun b hb => by
  rcases ((h.ents _ (List.mem_of_getElem? hj)).2 b hb).1 with h1 | h1
  · exact .inr h1
  obtain ⟨x, hx, ex⟩ := mem_exs.1 h1
  rcases List.mem_cons.1 hx with rfl | hx
  · exact absurd hb (h.apart_ hij hi hj b ex)
  · rw [List.mem_singleton] at hx
    subst hx
    exact .inl ex
end
theorem rightB_len6 {l : List (List UInt8)} (h : rightB l = true) : l.length ≤ 32 := by
  unfold rightB at h; rw [decide_eq_true_eq] at h; exact h.1
def recS (s : Scn) (p : List UInt8) : Option Scn := if (decC s.c p).2.2 = 0 then some { s with evs := s.evs ++ [(decC s.c p).1], c := (decC s.c p).2.1 } else none
theorem appEv : AppOk Tryz.prog 24 44 7 64 := appOk Tryz.underlying24 (z := .agg #[.int .i64 0, .int .i64 0, .int .i64 0, .string ⟨#[]⟩, .int .i64 0, .int .i64 0, .int .i64 0]) (by kernel_rfl) rfl (by omega)
abbrev evRow (ve : Value) (evs : List Evt) : Itm := .row 44 7 ve evs.length (evCells evs)
def RecPost (r : Option Scn) (s : Scn) (ve : Value) (An : Option Addr) (nn cn g : Nat) (X : List Nat) (w : World) (e : Ending) (w' : World) : Prop :=
  Only (Exs [.box g 115 (scnA s ve An nn cn), evRow ve s.evs]) w w' ∧
  ((r = none ∧ e = .returned (.bool false) ∧ Blk w' g 115 (scnA s ve An nn cn) ∧ (evRow ve s.evs).ok w') ∨
   (∃ s' ve' A2 n2 c2, r = some s' ∧ e = .returned (.bool true) ∧ Blk w' g 115 (scnA s' ve' A2 n2 c2) ∧ (evRow ve' s'.evs).ok w' ∧ (∀ b, ve'.ownBlock = some b → ve.ownBlock = some b ∨ w.heap.size ≤ b) ∧ Sl nameSh w' (Exs [.box g 115 (scnA s' ve' A2 n2 c2), evRow ve' s'.evs] ++ X) A2 n2 c2 s'.c.ns ∧ n2 ≤ 1000))
set_option maxHeartbeats 8000000 in
theorem record_s (s : Scn) (ve : Value) (An : Option Addr) (nn cn g : Nat) (A : Option Addr) (n c B : Nat) (p : List UInt8) (X : List Nat) (w : World) (hX : XOk X w) (hG : Given w X [.box g 115 (scnA s ve An nn cn), evRow ve s.evs]) (hs : Sl nameSh w X An nn cn s.c.ns) (hnn : nn ≤ 1000) (hr : Reads w B 1 A n (byteCells p)) (hB : B ≤ w.heap.size) (hBg : B ≤ g) (hBr : ∀ b, ve.ownBlock = some b → B ≤ b) (hnc : n ≤ c) (hcm : c ≤ 9223372036854775807) (hn : n ≤ 200) (hev : s.evs.length ≤ 100000) :
    Calls Tryz.prog 112 #[.pointer (some ⟨g, 0, none⟩), .slice A n c] w (RecPost (recS s p) s ve An nn cn g X w) := by
  have HR := Lib.hid hr
  have HD := fun (X : List Nat) (W : World) (hX : XOk X W) (hs : Sl nameSh W X An nn cn s.c.ns) (hr : Reads W B 1 A n (byteCells p)) (hB : B ≤ W.heap.size) => Lib.hid (Decode_s s.c.q s.c.a s.c.ns An nn cn A n c p X W hX hs B hr hB hnc hcm hnn (by omega))
  have HS : Hid (recS s p = if (decC s.c p).2.2 = 0 then some { s with evs := s.evs ++ [(decC s.c p).1], c := (decC s.c p).2.1 } else none) := rfl
  have HC := Lib.hid (@decC_ctx s.c p)
  rw [show (⟨s.c.q, s.c.a, s.c.ns⟩ : Cx) = s.c from rfl] at HD
  unfold DecPost at HD
  generalize recS s p = r at HS ⊢
  generalize hd : decC s.c p = d at HD HS HC
  clear hd hr
  have HK1 := Lib.hid (show Held w (Exs [.box g 115 (scnA s ve An nn cn), evRow ve s.evs]) X w [.box (g) 115 (scnA s ve An nn cn), .row 44 7 (ve) (s.evs.length) (evCells s.evs)] [] from (Held.startG hX hG))
  have HK2 := Lib.hid (show Held w (Exs [.box g 115 (scnA s ve An nn cn), evRow ve s.evs]) X w [.box (g) 115 (scnA s ve An nn cn), .row 44 7 (ve) (s.evs.length) (evCells s.evs)] [Sl.fact nameSh An nn cn s.c.ns] from HK1.out.know0 (Sl.fact nameSh An nn cn s.c.ns) hs)
  clear HK1
  clear hG hs
  have HMb := Lib.hid (show ∀ g' ∈ Exs [.box g 115 (scnA s ve An nn cn), evRow ve s.evs], B ≤ g' from by
    intro g' h; obtain ⟨x, hx, e⟩ := mem_exs.1 h
    rcases List.mem_cons.1 hx with rfl | hx
    · injection e with e; omega
    · rw [List.mem_singleton] at hx; subst hx; exact hBr g' e)
  have c_s_0_3 : w.cell? ⟨g, 0, none⟩ = some (.int .i64 s.num) := HK2.out.cell 0 rfl 0
  have c_s_1_4 : w.cell? ⟨g, 1, none⟩ = some (.int .i64 s.bq) := HK2.out.cell 0 rfl 1
  have c_s_2_5 : w.cell? ⟨g, 2, none⟩ = some (.int .i64 s.ba) := HK2.out.cell 0 rfl 2
  have c_s_3_6 : w.cell? ⟨g, 3, none⟩ = some (.slice none 0 0) := HK2.out.cell 0 rfl 3
  have c_s_4_7 : w.cell? ⟨g, 4, none⟩ = some (ve) := HK2.out.cell 0 rfl 4
  have c_s_5_8 : w.cell? ⟨g, 5, none⟩ = some (.int .i64 s.c.q) := HK2.out.cell 0 rfl 5
  have c_s_6_9 : w.cell? ⟨g, 6, none⟩ = some (.int .i64 s.c.a) := HK2.out.cell 0 rfl 6
  have c_s_7_10 : w.cell? ⟨g, 7, none⟩ = some (.slice An nn cn) := HK2.out.cell 0 rfl 7
  have c_s_8_11 : w.cell? ⟨g, 8, none⟩ = some (.int .i64 0) := HK2.out.cell 0 rfl 8
  have c_s_9_12 : w.cell? ⟨g, 9, none⟩ = some (.int .i64 s.size) := HK2.out.cell 0 rfl 9
  have c_s_10_13 : w.cell? ⟨g, 10, none⟩ = some (.bool s.sealed) := HK2.out.cell 0 rfl 10
  go_enter Tryz.func112, Tryz.ntmps112
  go_wp2_with fail
  with_reducible refine ((HD _ _ HK2.out.xok' (HK2.out.sl 0 rfl) (HR.out.below (HK2.out.belowB hB HMb.out)) (Nat.le_trans hB HK2.out.size)).out).mono ?_
  rintro e w1 ⟨hb, h1 | h1⟩
  · skip
    obtain ⟨he, rfl⟩ := h1
    have b1 : (d.2.2 != 0) = true := by rw [bne_iff_ne]; exact he
    rw [if_neg he] at HS
    clear he
    clear c_s_0_3 c_s_1_4 c_s_2_5 c_s_3_6 c_s_4_7 c_s_5_8 c_s_6_9 c_s_7_10 c_s_8_11 c_s_9_12 c_s_10_13
    have HK14 := Lib.hid (show Held w (Exs [.box g 115 (scnA s ve An nn cn), evRow ve s.evs]) X w1 [.box (g) 115 (scnA s ve An nn cn), .row 44 7 (ve) (s.evs.length) (evCells s.evs)] [Sl.fact nameSh An nn cn s.c.ns] from (HK2.out.on hb))
    clear HK2
    clear hb
    go_wp2
    have HK15 := Lib.hid (show Held w (Exs [.box g 115 (scnA s ve An nn cn), evRow ve s.evs]) X (w1.alloc (.cells #[.int .i64 0, .int .i64 0, .int .i64 0, .string ⟨#[]⟩, .int .i64 0, .int .i64 0, .int .i64 0] 44)) [.box (w1.heap.size) 44 #[.int .i64 0, .int .i64 0, .int .i64 0, .string ⟨#[]⟩, .int .i64 0, .int .i64 0, .int .i64 0], .box (g) 115 (scnA s ve An nn cn), .row 44 7 (ve) (s.evs.length) (evCells s.evs)] [Sl.fact nameSh An nn cn s.c.ns] from HK14.out.alloc_at 44 #[.int .i64 0, .int .i64 0, .int .i64 0, .string ⟨#[]⟩, .int .i64 0, .int .i64 0, .int .i64 0] (w1.heap.size) (by simp))
    clear HK14
    generalize w1.alloc (.cells #[.int .i64 0, .int .i64 0, .int .i64 0, .string ⟨#[]⟩, .int .i64 0, .int .i64 0, .int .i64 0] 44) = w2 at HK15 ⊢
    have HK16 := Lib.hid (show Held w (Exs [.box g 115 (scnA s ve An nn cn), evRow ve s.evs]) X (w2.alloc (.cells #[.int .i64 s.c.q, .int .i64 s.c.a, .slice An nn cn] 34)) [.box (w2.heap.size) 34 #[.int .i64 s.c.q, .int .i64 s.c.a, .slice An nn cn], .box (w1.heap.size) 44 #[.int .i64 0, .int .i64 0, .int .i64 0, .string ⟨#[]⟩, .int .i64 0, .int .i64 0, .int .i64 0], .box (g) 115 (scnA s ve An nn cn), .row 44 7 (ve) (s.evs.length) (evCells s.evs)] [Sl.fact nameSh An nn cn s.c.ns] from HK15.out.alloc_at 34 #[.int .i64 s.c.q, .int .i64 s.c.a, .slice An nn cn] (w2.heap.size) (by simp))
    clear HK15
    go_ret
    exact ⟨HK16.out.only, .inl ⟨HS.out, rfl, HK16.out.blk 2 rfl, HK16.out.ent 3 rfl⟩⟩
  obtain ⟨he, A2, n2, c2, rfl, hsl⟩ := h1
  obtain ⟨hq, ha, hrt, hok, hby, hnx⟩ := HC.out he
  have hn2 : n2 ≤ 1000 := by have h1 := nextC_right hok; rw [← hnx] at h1; have h2 := rightB_len6 (show rightB d.2.1.ns = true from by unfold rightC at h1; simp only [Bool.and_eq_true] at h1; exact h1.2); have h3 := hsl.len; omega
  obtain ⟨d0, ⟨q1, a1, ns1⟩, er⟩ := d
  obtain ⟨q, a, k, cm, x, y, z⟩ := d0
  simp only at he hq ha hsl HS
  subst he hq ha
  rw [if_pos rfl] at HS
  clear HC hrt hok hby hnx
  clear c_s_0_3 c_s_1_4 c_s_2_5 c_s_3_6 c_s_4_7 c_s_5_8 c_s_6_9 c_s_7_10 c_s_8_11 c_s_9_12 c_s_10_13
  have HK14 := Lib.hid (show Held w (Exs [.box g 115 (scnA s ve An nn cn), evRow ve s.evs]) X w1 [.box (g) 115 (scnA s ve An nn cn), .row 44 7 (ve) (s.evs.length) (evCells s.evs)] [Sl.fact nameSh A2 n2 c2 ns1, Sl.fact nameSh An nn cn s.c.ns] from ((HK2.out.on hb).know (Sl.fact nameSh A2 n2 c2 ns1) hsl))
  clear HK2
  clear hb
  go_upto_region 4 with (fail)
  have HK15 := Lib.hid (show Held w (Exs [.box g 115 (scnA s ve An nn cn), evRow ve s.evs]) X (w1.alloc (.cells #[.int .i64 q1, .int .i64 a1, .int .i64 k, .string cm, .int .i64 x, .int .i64 y, .int .i64 z] 44)) [.box (w1.heap.size) 44 #[.int .i64 q1, .int .i64 a1, .int .i64 k, .string cm, .int .i64 x, .int .i64 y, .int .i64 z], .box (g) 115 (scnA s ve An nn cn), .row 44 7 (ve) (s.evs.length) (evCells s.evs)] [Sl.fact nameSh A2 n2 c2 ns1, Sl.fact nameSh An nn cn s.c.ns] from HK14.out.alloc_at 44 #[.int .i64 q1, .int .i64 a1, .int .i64 k, .string cm, .int .i64 x, .int .i64 y, .int .i64 z] (w1.heap.size) (by simp))
  clear HK14
  have HK16 := Lib.hid (show Held w (Exs [.box g 115 (scnA s ve An nn cn), evRow ve s.evs]) X ((w1.alloc (.cells #[.int .i64 q1, .int .i64 a1, .int .i64 k, .string cm, .int .i64 x, .int .i64 y, .int .i64 z] 44)).alloc (.cells #[.int .i64 q1, .int .i64 a1, .slice A2 n2 c2] 34)) [.box (w1.heap.size + 1) 34 #[.int .i64 q1, .int .i64 a1, .slice A2 n2 c2], .box (w1.heap.size) 44 #[.int .i64 q1, .int .i64 a1, .int .i64 k, .string cm, .int .i64 x, .int .i64 y, .int .i64 z], .box (g) 115 (scnA s ve An nn cn), .row 44 7 (ve) (s.evs.length) (evCells s.evs)] [Sl.fact nameSh A2 n2 c2 ns1, Sl.fact nameSh An nn cn s.c.ns] from HK15.out.alloc_at 34 #[.int .i64 q1, .int .i64 a1, .slice A2 n2 c2] (w1.heap.size + 1) (by simp))
  clear HK15
  generalize (w1.alloc (.cells #[.int .i64 q1, .int .i64 a1, .int .i64 k, .string cm, .int .i64 x, .int .i64 y, .int .i64 z] 44)).alloc (.cells #[.int .i64 q1, .int .i64 a1, .slice A2 n2 c2] 34) = w3 at HK16 ⊢
  generalize hgb : w1.heap.size + 1 = gb at HK16 ⊢
  clear hgb
  generalize w1.heap.size = ge at HK16 ⊢
  refine wp_region_noPanic ?_
  refine wp_region_held_drew (S := fun W' => Blk W' (ge) 44 #[.int .i64 q1, .int .i64 a1, .int .i64 k, .string cm, .int .i64 x, .int .i64 y, .int .i64 z]) (by kernel_rfl) (HK16.out.blk 1 rfl).drew (fun hHeld => ?_)
  have HK17 := Lib.hid (show Held w (Exs [.box g 115 (scnA s ve An nn cn), evRow ve s.evs]) X w3.drew [.box (gb) 34 #[.int .i64 q1, .int .i64 a1, .slice A2 n2 c2], .box (ge) 44 #[.int .i64 q1, .int .i64 a1, .int .i64 k, .string cm, .int .i64 x, .int .i64 y, .int .i64 z], .box (g) 115 (scnA s ve An nn cn), .row 44 7 (ve) (s.evs.length) (evCells s.evs)] [Sl.fact nameSh A2 n2 c2 ns1, Sl.fact nameSh An nn cn s.c.ns] from HK16.out.drew)
  clear HK16
  generalize w3.drew = wd at hHeld HK17 ⊢
  have c_s_0_18 : wd.cell? ⟨g, 0, none⟩ = some (.int .i64 s.num) := HK17.out.cell 2 rfl 0
  have z_s_0_19 : wd.frozen? ⟨g, 0, none⟩ = false := HK17.out.frozen 2 rfl 0
  have c_s_1_20 : wd.cell? ⟨g, 1, none⟩ = some (.int .i64 s.bq) := HK17.out.cell 2 rfl 1
  have z_s_1_21 : wd.frozen? ⟨g, 1, none⟩ = false := HK17.out.frozen 2 rfl 1
  have c_s_2_22 : wd.cell? ⟨g, 2, none⟩ = some (.int .i64 s.ba) := HK17.out.cell 2 rfl 2
  have z_s_2_23 : wd.frozen? ⟨g, 2, none⟩ = false := HK17.out.frozen 2 rfl 2
  have c_s_3_24 : wd.cell? ⟨g, 3, none⟩ = some (.slice none 0 0) := HK17.out.cell 2 rfl 3
  have z_s_3_25 : wd.frozen? ⟨g, 3, none⟩ = false := HK17.out.frozen 2 rfl 3
  have c_s_4_26 : wd.cell? ⟨g, 4, none⟩ = some (ve) := HK17.out.cell 2 rfl 4
  have z_s_4_27 : wd.frozen? ⟨g, 4, none⟩ = false := HK17.out.frozen 2 rfl 4
  have c_s_5_28 : wd.cell? ⟨g, 5, none⟩ = some (.int .i64 s.c.q) := HK17.out.cell 2 rfl 5
  have z_s_5_29 : wd.frozen? ⟨g, 5, none⟩ = false := HK17.out.frozen 2 rfl 5
  have c_s_6_30 : wd.cell? ⟨g, 6, none⟩ = some (.int .i64 s.c.a) := HK17.out.cell 2 rfl 6
  have z_s_6_31 : wd.frozen? ⟨g, 6, none⟩ = false := HK17.out.frozen 2 rfl 6
  have c_s_7_32 : wd.cell? ⟨g, 7, none⟩ = some (.slice An nn cn) := HK17.out.cell 2 rfl 7
  have z_s_7_33 : wd.frozen? ⟨g, 7, none⟩ = false := HK17.out.frozen 2 rfl 7
  have c_s_8_34 : wd.cell? ⟨g, 8, none⟩ = some (.int .i64 0) := HK17.out.cell 2 rfl 8
  have z_s_8_35 : wd.frozen? ⟨g, 8, none⟩ = false := HK17.out.frozen 2 rfl 8
  have c_s_9_36 : wd.cell? ⟨g, 9, none⟩ = some (.int .i64 s.size) := HK17.out.cell 2 rfl 9
  have z_s_9_37 : wd.frozen? ⟨g, 9, none⟩ = false := HK17.out.frozen 2 rfl 9
  have c_s_10_38 : wd.cell? ⟨g, 10, none⟩ = some (.bool s.sealed) := HK17.out.cell 2 rfl 10
  have z_s_10_39 : wd.frozen? ⟨g, 10, none⟩ = false := HK17.out.frozen 2 rfl 10
  have ne_40 : ¬ (g = ge) := HK17.out.ne 2 1 (by decide) rfl rfl
  have ne_41 : ¬ (ge = g) := HK17.out.ne 1 2 (by decide) rfl rfl
  refine takeH 0 (v := ?v0u1) rfl (by kernel_rfl) (by kernel_rfl) (by kernel_rfl) rfl (fun _ _ _ h => h) (Or.inl ⟨by rfl, ?y0u1⟩) hHeld ?r0u1
  case y0u1 => (intro W hSW; (try dsimp only at hSW); go_simp; try with_reducible rfl)
  simp only [Act.put, sI, sZ, sS]
  refine takeH 1 (v := ?v1u2) rfl (by kernel_rfl) (by kernel_rfl) (by kernel_rfl) rfl (fun _ _ _ h => h) (Or.inl ⟨by rfl, ?y1u2⟩) hHeld ?r1u2
  case y1u2 => (intro W hSW; (try dsimp only at hSW); go_simp; try with_reducible rfl)
  simp only [Act.put, sI, sZ, sS]
  refine takeH 2 (v := ?v2u3) rfl (by kernel_rfl) (by kernel_rfl) (by kernel_rfl) rfl (fun _ _ _ h => h) (Or.inl ⟨by rfl, ?y2u3⟩) hHeld ?r2u3
  case y2u3 => (intro W hSW; (try dsimp only at hSW); go_simp; try with_reducible rfl)
  simp only [Act.put, sI, sZ, sS]
  refine takeH 3 (v := ?v3u4) rfl (by kernel_rfl) (by kernel_rfl) (by kernel_rfl) rfl (fun _ _ _ h => h) (Or.inl ⟨by rfl, ?y3u4⟩) hHeld ?r3u4
  case y3u4 => (intro W hSW; (try dsimp only at hSW); go_simp; try with_reducible rfl)
  simp only [Act.put, sI, sZ, sS]
  refine takeH 4 (v := ?v4u5) rfl (by kernel_rfl) (by kernel_rfl) (by kernel_rfl) rfl (fun _ _ _ h => h) (Or.inl ⟨by rfl, ?y4u5⟩) hHeld ?r4u5
  case y4u5 => (intro W hSW; (try dsimp only at hSW); go_simp; try with_reducible rfl)
  simp only [Act.put, sI, sZ, sS]
  refine takeH 6 (v := ?v6u6) rfl (by kernel_rfl) (by kernel_rfl) (by kernel_rfl) rfl (fun _ _ _ h => h) (Or.inl ⟨by rfl, ?y6u6⟩) hHeld ?r6u6
  case y6u6 => (intro W hSW; (try dsimp only at hSW); have q0 : W.cell? ⟨ge, 0, none⟩ = some (.int .i64 q1) := hSW.cell 0; have q1 : W.cell? ⟨ge, 1, none⟩ = some (.int .i64 a1) := hSW.cell 1; have q2 : W.cell? ⟨ge, 2, none⟩ = some (.int .i64 k) := hSW.cell 2; have q3 : W.cell? ⟨ge, 3, none⟩ = some (.string cm) := hSW.cell 3; have q4 : W.cell? ⟨ge, 4, none⟩ = some (.int .i64 x) := hSW.cell 4; have q5 : W.cell? ⟨ge, 5, none⟩ = some (.int .i64 y) := hSW.cell 5; have q6 : W.cell? ⟨ge, 6, none⟩ = some (.int .i64 z) := hSW.cell 6; go_simp; try with_reducible rfl)
  simp only [Act.put, sI, sZ, sS]
  refine by_key0 (G := ?G) ?main ?key
  case main =>
    intro hkey
    refine wpAnyH_ready (rs := [5, 7]) (by kernel_rfl) (by simp) ?_
    refine AllReadyH.cons rfl (fun K hK => ?_) (AllReadyH.cons rfl (fun K hK => ?_) AllReadyH.nil)
    · go_simp
      refine hK.out _ _ hHeld (fun hHeld => ?_)
      clear hK K
      try simp only [Act.put, sI, sZ, sS]
      refine wpAnyH_ready (rs := [7]) (by kernel_rfl) (by simp) ?_
      refine AllReadyH.cons rfl (fun K hK => ?_) AllReadyH.nil
      go_simp
      refine hK.out _ _ (hHeld.alloc (.cells #[.int .i64 q1, .int .i64 a1, .int .i64 k, .string cm, .int .i64 x, .int .i64 y, .int .i64 z] 44)) (fun hHeld => ?_)
      clear hK K
      try simp only [Act.put, sI, sZ, sS]
      clear hHeld
      exact hkey.out
    · go_simp
      refine hK.out _ _ (hHeld.alloc (.cells #[.int .i64 q1, .int .i64 a1, .int .i64 k, .string cm, .int .i64 x, .int .i64 y, .int .i64 z] 44)) (fun hHeld => ?_)
      clear hK K
      try simp only [Act.put, sI, sZ, sS]
      have c8 : (wd.alloc (.cells #[.int .i64 q1, .int .i64 a1, .int .i64 k, .string cm, .int .i64 x, .int .i64 y, .int .i64 z] 44)).cell? ⟨g, 4, none⟩ = some ve := (HK17.out.alloc_off (.cells #[.int .i64 q1, .int .i64 a1, .int .i64 k, .string cm, .int .i64 x, .int .i64 y, .int .i64 z] 44)).cell 2 rfl 4
      refine wpAnyH_ready (rs := [5]) (by kernel_rfl) (by simp) ?_
      refine AllReadyH.cons rfl (fun K hK => ?_) AllReadyH.nil
      go_simp
      refine hK.out _ _ hHeld (fun hHeld => ?_)
      clear hK K
      try simp only [Act.put, sI, sZ, sS]
      clear hHeld
      exact hkey.out
  case key =>
    clear c_s_0_18 z_s_0_19 c_s_1_20 z_s_1_21 c_s_2_22 z_s_2_23 c_s_3_24 z_s_3_25 c_s_4_26 z_s_4_27 c_s_5_28 z_s_5_29 c_s_6_30 z_s_6_31 c_s_7_32 z_s_7_33 c_s_8_34 z_s_8_35 c_s_9_36 z_s_9_37 c_s_10_38 z_s_10_39 ne_40 ne_41
    replace hHeld := (hHeld.alloc (.cells #[.int .i64 q1, .int .i64 a1, .int .i64 k, .string cm, .int .i64 x, .int .i64 y, .int .i64 z] 44))
    refine wpAnyH_ready (rs := [8]) (by kernel_rfl) (by simp) ?_
    refine AllReadyH.cons rfl (fun K hK => ?_) AllReadyH.nil
    refine step_append_new HK17.out 3 rfl (.tmp 26) (.tmp 28) 24 rfl appEv rfl rfl rfl (cs := #[.int .i64 q1, .int .i64 a1, .int .i64 k, .string cm, .int .i64 x, .int .i64 y, .int .i64 z]) rfl (by simp [Value.oneCell']) (by unfold maxLen; omega) (by omega) ?_
    intro v2 w4 hk4
    have HK42 := Lib.hid (show Held w (Exs [.box g 115 (scnA s ve An nn cn), evRow ve s.evs]) X w4 [.box (gb) 34 #[.int .i64 q1, .int .i64 a1, .slice A2 n2 c2], .box (ge) 44 #[.int .i64 q1, .int .i64 a1, .int .i64 k, .string cm, .int .i64 x, .int .i64 y, .int .i64 z], .box (g) 115 (scnA s ve An nn cn), .row 44 7 (v2) (s.evs.length + 1) (evCells s.evs ++ #[.int .i64 q1, .int .i64 a1, .int .i64 k, .string cm, .int .i64 x, .int .i64 y, .int .i64 z].toList)] [Sl.fact nameSh A2 n2 c2 ns1, Sl.fact nameSh An nn cn s.c.ns] from hk4)
    clear HK17
    clear hk4
    refine hK.out _ _ (HK42.out.blk 1 rfl) (fun hHeld => ?_)
    clear hK K
    try simp only [Act.put, sI, sZ, sS]
    refine takeH 9 (v := ?v9u7) rfl (by kernel_rfl) (by kernel_rfl) (by kernel_rfl) rfl (fun _ _ _ h => h) (Or.inl ⟨by rfl, ?y9u7⟩) hHeld ?r9u7
    case y9u7 => (intro W hSW; (try dsimp only at hSW); go_simp; try with_reducible rfl)
    simp only [Act.put, sI, sZ, sS]
    refine takeH 10 (v := ?v10u8) rfl (by kernel_rfl) (by kernel_rfl) (by kernel_rfl) rfl (fun _ _ _ h => h) (Or.inl ⟨by rfl, ?y10u8⟩) hHeld ?r10u8
    case y10u8 => (intro W hSW; (try dsimp only at hSW); go_simp; try with_reducible rfl)
    simp only [Act.put, sI, sZ, sS]
    refine takeH 11 (v := ?v11u9) rfl (by kernel_rfl) (by kernel_rfl) (by kernel_rfl) rfl (fun _ _ _ h => h) (Or.inl ⟨by rfl, ?y11u9⟩) hHeld ?r11u9
    case y11u9 => (intro W hSW; (try dsimp only at hSW); go_simp; try with_reducible rfl)
    simp only [Act.put, sI, sZ, sS]
    obtain ⟨Av, cv, rfl⟩ := own_sl (HK42.out.row 3 rfl)
    have c_s_0_43 : w4.cell? ⟨g, 0, none⟩ = some (.int .i64 s.num) := HK42.out.cell 2 rfl 0
    have z_s_0_44 : w4.frozen? ⟨g, 0, none⟩ = false := HK42.out.frozen 2 rfl 0
    have c_s_1_45 : w4.cell? ⟨g, 1, none⟩ = some (.int .i64 s.bq) := HK42.out.cell 2 rfl 1
    have z_s_1_46 : w4.frozen? ⟨g, 1, none⟩ = false := HK42.out.frozen 2 rfl 1
    have c_s_2_47 : w4.cell? ⟨g, 2, none⟩ = some (.int .i64 s.ba) := HK42.out.cell 2 rfl 2
    have z_s_2_48 : w4.frozen? ⟨g, 2, none⟩ = false := HK42.out.frozen 2 rfl 2
    have c_s_3_49 : w4.cell? ⟨g, 3, none⟩ = some (.slice none 0 0) := HK42.out.cell 2 rfl 3
    have z_s_3_50 : w4.frozen? ⟨g, 3, none⟩ = false := HK42.out.frozen 2 rfl 3
    have c_s_4_51 : w4.cell? ⟨g, 4, none⟩ = some (ve) := HK42.out.cell 2 rfl 4
    have z_s_4_52 : w4.frozen? ⟨g, 4, none⟩ = false := HK42.out.frozen 2 rfl 4
    have c_s_5_53 : w4.cell? ⟨g, 5, none⟩ = some (.int .i64 s.c.q) := HK42.out.cell 2 rfl 5
    have z_s_5_54 : w4.frozen? ⟨g, 5, none⟩ = false := HK42.out.frozen 2 rfl 5
    have c_s_6_55 : w4.cell? ⟨g, 6, none⟩ = some (.int .i64 s.c.a) := HK42.out.cell 2 rfl 6
    have z_s_6_56 : w4.frozen? ⟨g, 6, none⟩ = false := HK42.out.frozen 2 rfl 6
    have c_s_7_57 : w4.cell? ⟨g, 7, none⟩ = some (.slice An nn cn) := HK42.out.cell 2 rfl 7
    have z_s_7_58 : w4.frozen? ⟨g, 7, none⟩ = false := HK42.out.frozen 2 rfl 7
    have c_s_8_59 : w4.cell? ⟨g, 8, none⟩ = some (.int .i64 0) := HK42.out.cell 2 rfl 8
    have z_s_8_60 : w4.frozen? ⟨g, 8, none⟩ = false := HK42.out.frozen 2 rfl 8
    have c_s_9_61 : w4.cell? ⟨g, 9, none⟩ = some (.int .i64 s.size) := HK42.out.cell 2 rfl 9
    have z_s_9_62 : w4.frozen? ⟨g, 9, none⟩ = false := HK42.out.frozen 2 rfl 9
    have c_s_10_63 : w4.cell? ⟨g, 10, none⟩ = some (.bool s.sealed) := HK42.out.cell 2 rfl 10
    have z_s_10_64 : w4.frozen? ⟨g, 10, none⟩ = false := HK42.out.frozen 2 rfl 10
    have ne_65 : ¬ (g = ge) := HK42.out.ne 2 1 (by decide) rfl rfl
    have ne_66 : ¬ (ge = g) := HK42.out.ne 1 2 (by decide) rfl rfl
    refine wpAnyH_ready (rs := [12]) (by kernel_rfl) (by simp) ?_
    refine AllReadyH.cons rfl (fun K hK => ?_) AllReadyH.nil
    go_simp
    refine hK.out _ _ (hHeld.far (p := ⟨g, 4, none⟩) (HK42.out.ne 1 2 (by decide) rfl rfl) (.slice Av (s.evs.length + 1) cv)) (fun hHeld => ?_)
    clear hK K
    try simp only [Act.put, sI, sZ, sS]
    refine wpAnyH_done (by kernel_rfl) ?_ _
    refine NoPanic.normal ?_
    clear hHeld
    clear c_s_0_43 z_s_0_44 c_s_1_45 z_s_1_46 c_s_2_47 z_s_2_48 c_s_3_49 z_s_3_50 c_s_4_51 z_s_4_52 c_s_5_53 z_s_5_54 c_s_6_55 z_s_6_56 c_s_7_57 z_s_7_58 c_s_8_59 z_s_8_60 c_s_9_61 z_s_9_62 c_s_10_63 z_s_10_64 ne_65 ne_66
    have HK67 := Lib.hid (show Held w (Exs [.box g 115 (scnA s ve An nn cn), evRow ve s.evs]) X (w4.setCell ⟨g, 4, none⟩ (.slice Av (s.evs.length + 1) cv)) [.box (gb) 34 #[.int .i64 q1, .int .i64 a1, .slice A2 n2 c2], .box (ge) 44 #[.int .i64 q1, .int .i64 a1, .int .i64 k, .string cm, .int .i64 x, .int .i64 y, .int .i64 z], .box (g) 115 #[.int .i64 s.num, .int .i64 s.bq, .int .i64 s.ba, .slice none 0 0, .slice Av (s.evs.length + 1) cv, .int .i64 s.c.q, .int .i64 s.c.a, .slice An nn cn, .int .i64 0, .int .i64 s.size, .bool s.sealed], .row 44 7 ((.slice Av (s.evs.length + 1) cv)) (s.evs.length + 1) (evCells s.evs ++ #[.int .i64 q1, .int .i64 a1, .int .i64 k, .string cm, .int .i64 x, .int .i64 y, .int .i64 z].toList)] [Sl.fact nameSh A2 n2 c2 ns1, Sl.fact nameSh An nn cn s.c.ns] from HK42.out.set_ 2 rfl 4 (.slice Av (s.evs.length + 1) cv))
    clear HK42
    generalize w4.setCell ⟨g, 4, none⟩ (.slice Av (s.evs.length + 1) cv) = w5 at HK67 ⊢
    have c_b_0_68 : w5.cell? ⟨gb, 0, none⟩ = some (.int .i64 q1) := HK67.out.cell 0 rfl 0
    have c_b_1_69 : w5.cell? ⟨gb, 1, none⟩ = some (.int .i64 a1) := HK67.out.cell 0 rfl 1
    have c_b_2_70 : w5.cell? ⟨gb, 2, none⟩ = some (.slice A2 n2 c2) := HK67.out.cell 0 rfl 2
    have c_s_0_71 : w5.cell? ⟨g, 0, none⟩ = some (.int .i64 s.num) := HK67.out.cell 2 rfl 0
    have z_s_0_72 : w5.frozen? ⟨g, 0, none⟩ = false := HK67.out.frozen 2 rfl 0
    have c_s_1_73 : w5.cell? ⟨g, 1, none⟩ = some (.int .i64 s.bq) := HK67.out.cell 2 rfl 1
    have z_s_1_74 : w5.frozen? ⟨g, 1, none⟩ = false := HK67.out.frozen 2 rfl 1
    have c_s_2_75 : w5.cell? ⟨g, 2, none⟩ = some (.int .i64 s.ba) := HK67.out.cell 2 rfl 2
    have z_s_2_76 : w5.frozen? ⟨g, 2, none⟩ = false := HK67.out.frozen 2 rfl 2
    have c_s_3_77 : w5.cell? ⟨g, 3, none⟩ = some (.slice none 0 0) := HK67.out.cell 2 rfl 3
    have z_s_3_78 : w5.frozen? ⟨g, 3, none⟩ = false := HK67.out.frozen 2 rfl 3
    have c_s_4_79 : w5.cell? ⟨g, 4, none⟩ = some (.slice Av (s.evs.length + 1) cv) := HK67.out.cell 2 rfl 4
    have z_s_4_80 : w5.frozen? ⟨g, 4, none⟩ = false := HK67.out.frozen 2 rfl 4
    have c_s_5_81 : w5.cell? ⟨g, 5, none⟩ = some (.int .i64 s.c.q) := HK67.out.cell 2 rfl 5
    have z_s_5_82 : w5.frozen? ⟨g, 5, none⟩ = false := HK67.out.frozen 2 rfl 5
    have c_s_6_83 : w5.cell? ⟨g, 6, none⟩ = some (.int .i64 s.c.a) := HK67.out.cell 2 rfl 6
    have z_s_6_84 : w5.frozen? ⟨g, 6, none⟩ = false := HK67.out.frozen 2 rfl 6
    have c_s_7_85 : w5.cell? ⟨g, 7, none⟩ = some (.slice An nn cn) := HK67.out.cell 2 rfl 7
    have z_s_7_86 : w5.frozen? ⟨g, 7, none⟩ = false := HK67.out.frozen 2 rfl 7
    have c_s_8_87 : w5.cell? ⟨g, 8, none⟩ = some (.int .i64 0) := HK67.out.cell 2 rfl 8
    have z_s_8_88 : w5.frozen? ⟨g, 8, none⟩ = false := HK67.out.frozen 2 rfl 8
    have c_s_9_89 : w5.cell? ⟨g, 9, none⟩ = some (.int .i64 s.size) := HK67.out.cell 2 rfl 9
    have z_s_9_90 : w5.frozen? ⟨g, 9, none⟩ = false := HK67.out.frozen 2 rfl 9
    have c_s_10_91 : w5.cell? ⟨g, 10, none⟩ = some (.bool s.sealed) := HK67.out.cell 2 rfl 10
    have z_s_10_92 : w5.frozen? ⟨g, 10, none⟩ = false := HK67.out.frozen 2 rfl 10
    have ne_93 : ¬ (g = gb) := HK67.out.ne 2 0 (by decide) rfl rfl
    have ne_94 : ¬ (gb = g) := HK67.out.ne 0 2 (by decide) rfl rfl
    go_wp2
    clear c_b_0_68 c_b_1_69 c_b_2_70 c_s_0_71 z_s_0_72 c_s_1_73 z_s_1_74 c_s_2_75 z_s_2_76 c_s_3_77 z_s_3_78 c_s_4_79 z_s_4_80 c_s_5_81 z_s_5_82 c_s_6_83 z_s_6_84 c_s_7_85 z_s_7_86 c_s_8_87 z_s_8_88 c_s_9_89 z_s_9_90 c_s_10_91 z_s_10_92 ne_93 ne_94
    have HKe := Lib.hid (((HK67.out.set_ 2 rfl 5 (.int .i64 q1)).set_ 2 rfl 6 (.int .i64 a1)).set_ 2 rfl 7 (.slice A2 n2 c2))
    go_ret
    exact ⟨HKe.out.only, .inr ⟨_, _, A2, n2, c2, HS.out, rfl, HKe.out.blk 2 rfl, by have h1 := HKe.out.ent 3 rfl; simpa [evRow, evCells_append, evCells] using h1, HKe.out.row_near (i := 2) (j := 3) (by decide) rfl rfl, ((Sl.fact nameSh A2 n2 c2 ns1).more (HKe.out.fact 0 rfl) (fun b _ => sub_exs 2 3 rfl rfl (by rfl) (by rfl) b)), hn2⟩⟩
end
section
set_option maxRecDepth 100000
open Go.RowKit
theorem cell_below {w w' : World} {p : Addr} {u : Value} (hb : Below w.heap.size w w') (h : w.cell? p = some u) : w'.cell? p = some u := (hb.cell (World.block_lt_of_cell? _ _ h)).trans h
def takeS (s : Scn) (kind : Int) (p : List UInt8) : Option Scn :=
  if s.sealed = true then none else if s.num = 0 then (if kind = 1 then headS s p else none)
  else if kind = 2 then recS s p else if kind = 3 then (if (p == putS (s.evs.length : Int) s.c.q s.c.a) = true then some { s with sealed := true } else none) else none
theorem headS_keeps {s s' : Scn} {p : List UInt8} (h : headS s p = some s') : s'.evs = s.evs ∧ s'.c.ns = [] := by
  unfold headS at h
  split at h
  · simp only at h
    split at h
    · cases h
    · injection h with h; subst h; exact ⟨rfl, rfl⟩
  · cases h
set_option maxHeartbeats 8000000 in
theorem take_s (s : Scn) (ve : Value) (An : Option Addr) (nn cn g : Nat) (kind : Int) (A : Option Addr) (n c B : Nat) (p : List UInt8) (X : List Nat) (w : World) (hX : XOk X w) (hG : Given w X [.box g 115 (scnA s ve An nn cn), evRow ve s.evs]) (hs : Sl nameSh w X An nn cn s.c.ns) (hnn : nn ≤ 1000) (hr : Reads w B 1 A n (byteCells p)) (hB : B ≤ w.heap.size) (hBg : B ≤ g) (hBr : ∀ b, ve.ownBlock = some b → B ≤ b) (hnc : n ≤ c) (hcm : c ≤ 9223372036854775807) (hn : n ≤ 200) (hev : s.evs.length ≤ 100000) (hrt : s.num ≠ 0 → rightC s.c = true) :
    Calls Tryz.prog 51 #[.pointer (some ⟨g, 0, none⟩), .int .i64 kind, .slice A n c] w (RecPost (takeS s kind p) s ve An nn cn g X w) := by
  have HR := Lib.hid hr
  obtain ⟨num, bq, ba, evs, ⟨q, a, ns⟩, size, sealed⟩ := s
  simp only at hs hev hrt
  obtain ⟨Av, cv, rfl⟩ := own_sl (hG.ok (.row 44 7 ve evs.length (evCells evs)) (by simp [evRow])).1
  have HRec := Lib.hid (record_s ⟨num, bq, ba, evs, ⟨q, a, ns⟩, size, sealed⟩ (.slice Av evs.length cv) An nn cn g A n c B p X w hX hG hs hnn hr hB hBg hBr hnc hcm hn hev)
  cases sealed
  rotate_left
  · skip
    clear HRec
    have HS : Hid (takeS ⟨num, bq, ba, evs, ⟨q, a, ns⟩, size, true⟩ kind p = none) := by unfold Hid takeS; rw [if_pos rfl]
    have HK1 := Lib.hid (show Held w (Exs [.box g 115 (scnA ⟨num, bq, ba, evs, ⟨q, a, ns⟩, size, true⟩ (.slice Av evs.length cv) An nn cn), evRow (.slice Av evs.length cv) evs]) X w [.box (g) 115 (scnA ⟨num, bq, ba, evs, ⟨q, a, ns⟩, size, true⟩ (.slice Av evs.length cv) An nn cn), .row 44 7 ((.slice Av evs.length cv)) (evs.length) (evCells evs)] [] from (Held.startG hX hG))
    have HK2 := Lib.hid (show Held w (Exs [.box g 115 (scnA ⟨num, bq, ba, evs, ⟨q, a, ns⟩, size, true⟩ (.slice Av evs.length cv) An nn cn), evRow (.slice Av evs.length cv) evs]) X w [.box (g) 115 (scnA ⟨num, bq, ba, evs, ⟨q, a, ns⟩, size, true⟩ (.slice Av evs.length cv) An nn cn), .row 44 7 ((.slice Av evs.length cv)) (evs.length) (evCells evs)] [Sl.fact nameSh An nn cn ns] from HK1.out.know0 (Sl.fact nameSh An nn cn ns) hs)
    clear HK1
    have c_s_0_3 : w.cell? ⟨g, 0, none⟩ = some (.int .i64 num) := HK2.out.cell 0 rfl 0
    have c_s_1_4 : w.cell? ⟨g, 1, none⟩ = some (.int .i64 bq) := HK2.out.cell 0 rfl 1
    have c_s_2_5 : w.cell? ⟨g, 2, none⟩ = some (.int .i64 ba) := HK2.out.cell 0 rfl 2
    have c_s_3_6 : w.cell? ⟨g, 3, none⟩ = some (.slice none 0 0) := HK2.out.cell 0 rfl 3
    have c_s_4_7 : w.cell? ⟨g, 4, none⟩ = some (.slice Av evs.length cv) := HK2.out.cell 0 rfl 4
    have c_s_5_8 : w.cell? ⟨g, 5, none⟩ = some (.int .i64 q) := HK2.out.cell 0 rfl 5
    have c_s_6_9 : w.cell? ⟨g, 6, none⟩ = some (.int .i64 a) := HK2.out.cell 0 rfl 6
    have c_s_7_10 : w.cell? ⟨g, 7, none⟩ = some (.slice An nn cn) := HK2.out.cell 0 rfl 7
    have c_s_8_11 : w.cell? ⟨g, 8, none⟩ = some (.int .i64 0) := HK2.out.cell 0 rfl 8
    have c_s_9_12 : w.cell? ⟨g, 9, none⟩ = some (.int .i64 size) := HK2.out.cell 0 rfl 9
    have c_s_10_13 : w.cell? ⟨g, 10, none⟩ = some (.bool true) := HK2.out.cell 0 rfl 10
    go_enter Tryz.func51, Tryz.ntmps51
    go_wp2
    clear c_s_0_3 c_s_1_4 c_s_2_5 c_s_3_6 c_s_4_7 c_s_5_8 c_s_6_9 c_s_7_10 c_s_8_11 c_s_9_12 c_s_10_13
    go_ret
    exact ⟨HK2.out.only, .inl ⟨HS.out, rfl, HK2.out.blk 0 rfl, HK2.out.ent 1 rfl⟩⟩
  by_cases hn0 : num = 0
  · skip
    clear HRec
    subst hn0
    by_cases hk : kind = 1
    · skip
      subst hk
      have HS : Hid (takeS ⟨0, bq, ba, evs, ⟨q, a, ns⟩, size, false⟩ 1 p = headS ⟨0, bq, ba, evs, ⟨q, a, ns⟩, size, false⟩ p) := by unfold Hid takeS; rw [if_neg (by simp), if_pos rfl, if_pos rfl]
      have HK1 := Lib.hid (show Held w (Exs [.box g 115 (scnA ⟨0, bq, ba, evs, ⟨q, a, ns⟩, size, false⟩ (.slice Av evs.length cv) An nn cn), evRow (.slice Av evs.length cv) evs]) X w [.box (g) 115 (scnA ⟨0, bq, ba, evs, ⟨q, a, ns⟩, size, false⟩ (.slice Av evs.length cv) An nn cn), .row 44 7 ((.slice Av evs.length cv)) (evs.length) (evCells evs)] [] from (Held.startG hX hG))
      have HK2 := Lib.hid (show Held w (Exs [.box g 115 (scnA ⟨0, bq, ba, evs, ⟨q, a, ns⟩, size, false⟩ (.slice Av evs.length cv) An nn cn), evRow (.slice Av evs.length cv) evs]) X w [.box (g) 115 (scnA ⟨0, bq, ba, evs, ⟨q, a, ns⟩, size, false⟩ (.slice Av evs.length cv) An nn cn), .row 44 7 ((.slice Av evs.length cv)) (evs.length) (evCells evs)] [Sl.fact nameSh An nn cn ns] from HK1.out.know0 (Sl.fact nameSh An nn cn ns) hs)
      clear HK1
      have c_s_0_3 : w.cell? ⟨g, 0, none⟩ = some (.int .i64 0) := HK2.out.cell 0 rfl 0
      have c_s_1_4 : w.cell? ⟨g, 1, none⟩ = some (.int .i64 bq) := HK2.out.cell 0 rfl 1
      have c_s_2_5 : w.cell? ⟨g, 2, none⟩ = some (.int .i64 ba) := HK2.out.cell 0 rfl 2
      have c_s_3_6 : w.cell? ⟨g, 3, none⟩ = some (.slice none 0 0) := HK2.out.cell 0 rfl 3
      have c_s_4_7 : w.cell? ⟨g, 4, none⟩ = some (.slice Av evs.length cv) := HK2.out.cell 0 rfl 4
      have c_s_5_8 : w.cell? ⟨g, 5, none⟩ = some (.int .i64 q) := HK2.out.cell 0 rfl 5
      have c_s_6_9 : w.cell? ⟨g, 6, none⟩ = some (.int .i64 a) := HK2.out.cell 0 rfl 6
      have c_s_7_10 : w.cell? ⟨g, 7, none⟩ = some (.slice An nn cn) := HK2.out.cell 0 rfl 7
      have c_s_8_11 : w.cell? ⟨g, 8, none⟩ = some (.int .i64 0) := HK2.out.cell 0 rfl 8
      have c_s_9_12 : w.cell? ⟨g, 9, none⟩ = some (.int .i64 size) := HK2.out.cell 0 rfl 9
      have c_s_10_13 : w.cell? ⟨g, 10, none⟩ = some (.bool false) := HK2.out.cell 0 rfl 10
      have HHd := Lib.hid (head_s ⟨0, bq, ba, evs, ⟨q, a, ns⟩, size, false⟩ (.slice Av evs.length cv) An nn cn g A n c B p _ w HK2.out.xok' (HK2.out.give1 0 rfl) hr hB hBg hnc hcm hn)
      have HKp := Lib.hid (fun s' => @headS_keeps ⟨0, bq, ba, evs, ⟨q, a, ns⟩, size, false⟩ s' p)
      generalize headS _ p = r at HS HHd HKp
      go_enter Tryz.func51, Tryz.ntmps51
      go_wp2_with fail
      with_reducible refine (HHd.out).mono ?_
      clear HHd
      rintro e w1 (⟨rfl, rfl, ho, hb⟩ | ⟨s', rfl, rfl, ho, hb⟩)
      clear c_s_0_3 c_s_1_4 c_s_2_5 c_s_3_6 c_s_4_7 c_s_5_8 c_s_6_9 c_s_7_10 c_s_8_11 c_s_9_12 c_s_10_13
      · skip
        clear HKp
        have HK14 := Lib.hid (show Held w (Exs [.box g 115 (scnA ⟨0, bq, ba, evs, ⟨q, a, ns⟩, size, false⟩ (.slice Av evs.length cv) An nn cn), evRow (.slice Av evs.length cv) evs]) X w1 [.box (g) 115 (scnA ⟨0, bq, ba, evs, ⟨q, a, ns⟩, size, false⟩ (.slice Av evs.length cv) An nn cn), .row 44 7 ((.slice Av evs.length cv)) (evs.length) (evCells evs)] [Sl.fact nameSh An nn cn ns] from HK2.out.wrote1 0 rfl ho hb)
        clear HK2
        go_wp2
        go_ret
        exact ⟨HK14.out.only, .inl ⟨HS.out, rfl, HK14.out.blk 0 rfl, HK14.out.ent 1 rfl⟩⟩
      · skip
        obtain ⟨hk1, hk2⟩ := HKp.out _ rfl
        have HKn := Lib.hid (HK2.out.wrote1 0 rfl ho hb)
        clear HKp
        go_wp2
        go_ret
        exact ⟨HKn.out.only, .inr ⟨s', (.slice Av evs.length cv), none, 0, 0, HS.out, rfl, HKn.out.blk 0 rfl, (show (evRow (.slice Av evs.length cv) s'.evs).ok w1 from by rw [hk1]; exact HKn.out.ent 1 rfl), fun b hb => .inl hb, by rw [hk2]; exact Sl.nil_, by omega⟩⟩
    · skip
      have HS : Hid (takeS ⟨0, bq, ba, evs, ⟨q, a, ns⟩, size, false⟩ kind p = none) := by unfold Hid takeS; rw [if_neg (by simp), if_pos rfl, if_neg hk]
      have b1 : (kind == 1) = false := by rw [beq_eq_false_iff_ne]; exact hk
      have HK1 := Lib.hid (show Held w (Exs [.box g 115 (scnA ⟨0, bq, ba, evs, ⟨q, a, ns⟩, size, false⟩ (.slice Av evs.length cv) An nn cn), evRow (.slice Av evs.length cv) evs]) X w [.box (g) 115 (scnA ⟨0, bq, ba, evs, ⟨q, a, ns⟩, size, false⟩ (.slice Av evs.length cv) An nn cn), .row 44 7 ((.slice Av evs.length cv)) (evs.length) (evCells evs)] [] from (Held.startG hX hG))
      have HK2 := Lib.hid (show Held w (Exs [.box g 115 (scnA ⟨0, bq, ba, evs, ⟨q, a, ns⟩, size, false⟩ (.slice Av evs.length cv) An nn cn), evRow (.slice Av evs.length cv) evs]) X w [.box (g) 115 (scnA ⟨0, bq, ba, evs, ⟨q, a, ns⟩, size, false⟩ (.slice Av evs.length cv) An nn cn), .row 44 7 ((.slice Av evs.length cv)) (evs.length) (evCells evs)] [Sl.fact nameSh An nn cn ns] from HK1.out.know0 (Sl.fact nameSh An nn cn ns) hs)
      clear HK1
      have c_s_0_3 : w.cell? ⟨g, 0, none⟩ = some (.int .i64 0) := HK2.out.cell 0 rfl 0
      have c_s_1_4 : w.cell? ⟨g, 1, none⟩ = some (.int .i64 bq) := HK2.out.cell 0 rfl 1
      have c_s_2_5 : w.cell? ⟨g, 2, none⟩ = some (.int .i64 ba) := HK2.out.cell 0 rfl 2
      have c_s_3_6 : w.cell? ⟨g, 3, none⟩ = some (.slice none 0 0) := HK2.out.cell 0 rfl 3
      have c_s_4_7 : w.cell? ⟨g, 4, none⟩ = some (.slice Av evs.length cv) := HK2.out.cell 0 rfl 4
      have c_s_5_8 : w.cell? ⟨g, 5, none⟩ = some (.int .i64 q) := HK2.out.cell 0 rfl 5
      have c_s_6_9 : w.cell? ⟨g, 6, none⟩ = some (.int .i64 a) := HK2.out.cell 0 rfl 6
      have c_s_7_10 : w.cell? ⟨g, 7, none⟩ = some (.slice An nn cn) := HK2.out.cell 0 rfl 7
      have c_s_8_11 : w.cell? ⟨g, 8, none⟩ = some (.int .i64 0) := HK2.out.cell 0 rfl 8
      have c_s_9_12 : w.cell? ⟨g, 9, none⟩ = some (.int .i64 size) := HK2.out.cell 0 rfl 9
      have c_s_10_13 : w.cell? ⟨g, 10, none⟩ = some (.bool false) := HK2.out.cell 0 rfl 10
      go_enter Tryz.func51, Tryz.ntmps51
      go_wp2
      clear c_s_0_3 c_s_1_4 c_s_2_5 c_s_3_6 c_s_4_7 c_s_5_8 c_s_6_9 c_s_7_10 c_s_8_11 c_s_9_12 c_s_10_13
      go_ret
      exact ⟨HK2.out.only, .inl ⟨HS.out, rfl, HK2.out.blk 0 rfl, HK2.out.ent 1 rfl⟩⟩
  have b0 : (num == 0) = false := by rw [beq_eq_false_iff_ne]; exact hn0
  have hrt := hrt hn0
  by_cases hk2 : kind = 2
  · skip
    subst hk2
    have HS : Hid (takeS ⟨num, bq, ba, evs, ⟨q, a, ns⟩, size, false⟩ 2 p = recS ⟨num, bq, ba, evs, ⟨q, a, ns⟩, size, false⟩ p) := by unfold Hid takeS; rw [if_neg (by simp), if_neg hn0, if_pos rfl]
    rw [← HS.out] at HRec
    clear HS hn0
    have HK1 := Lib.hid (show Held w (Exs [.box g 115 (scnA ⟨num, bq, ba, evs, ⟨q, a, ns⟩, size, false⟩ (.slice Av evs.length cv) An nn cn), evRow (.slice Av evs.length cv) evs]) X w [.box (g) 115 (scnA ⟨num, bq, ba, evs, ⟨q, a, ns⟩, size, false⟩ (.slice Av evs.length cv) An nn cn), .row 44 7 ((.slice Av evs.length cv)) (evs.length) (evCells evs)] [] from (Held.startG hX hG))
    have HK2 := Lib.hid (show Held w (Exs [.box g 115 (scnA ⟨num, bq, ba, evs, ⟨q, a, ns⟩, size, false⟩ (.slice Av evs.length cv) An nn cn), evRow (.slice Av evs.length cv) evs]) X w [.box (g) 115 (scnA ⟨num, bq, ba, evs, ⟨q, a, ns⟩, size, false⟩ (.slice Av evs.length cv) An nn cn), .row 44 7 ((.slice Av evs.length cv)) (evs.length) (evCells evs)] [Sl.fact nameSh An nn cn ns] from HK1.out.know0 (Sl.fact nameSh An nn cn ns) hs)
    clear HK1
    have c_s_0_3 : w.cell? ⟨g, 0, none⟩ = some (.int .i64 num) := HK2.out.cell 0 rfl 0
    have c_s_1_4 : w.cell? ⟨g, 1, none⟩ = some (.int .i64 bq) := HK2.out.cell 0 rfl 1
    have c_s_2_5 : w.cell? ⟨g, 2, none⟩ = some (.int .i64 ba) := HK2.out.cell 0 rfl 2
    have c_s_3_6 : w.cell? ⟨g, 3, none⟩ = some (.slice none 0 0) := HK2.out.cell 0 rfl 3
    have c_s_4_7 : w.cell? ⟨g, 4, none⟩ = some (.slice Av evs.length cv) := HK2.out.cell 0 rfl 4
    have c_s_5_8 : w.cell? ⟨g, 5, none⟩ = some (.int .i64 q) := HK2.out.cell 0 rfl 5
    have c_s_6_9 : w.cell? ⟨g, 6, none⟩ = some (.int .i64 a) := HK2.out.cell 0 rfl 6
    have c_s_7_10 : w.cell? ⟨g, 7, none⟩ = some (.slice An nn cn) := HK2.out.cell 0 rfl 7
    have c_s_8_11 : w.cell? ⟨g, 8, none⟩ = some (.int .i64 0) := HK2.out.cell 0 rfl 8
    have c_s_9_12 : w.cell? ⟨g, 9, none⟩ = some (.int .i64 size) := HK2.out.cell 0 rfl 9
    have c_s_10_13 : w.cell? ⟨g, 10, none⟩ = some (.bool false) := HK2.out.cell 0 rfl 10
    skip
    go_enter Tryz.func51, Tryz.ntmps51
    go_wp2_with fail
    with_reducible refine (HRec.out).mono ?_
    clear HRec
    intro e w1 hp
    clear c_s_0_3 c_s_1_4 c_s_2_5 c_s_3_6 c_s_4_7 c_s_5_8 c_s_6_9 c_s_7_10 c_s_8_11 c_s_9_12 c_s_10_13
    rcases hp with ⟨ho, ⟨h1, rfl, h2⟩ | ⟨s', ve', A2, n2, c2, h1, rfl, h2⟩⟩
    · go_wp2
      go_ret
      exact ⟨ho, .inl ⟨h1, rfl, h2⟩⟩
    · go_wp2
      go_ret
      exact ⟨ho, .inr ⟨s', ve', A2, n2, c2, h1, rfl, h2⟩⟩
  have b2 : (kind == 2) = false := by rw [beq_eq_false_iff_ne]; exact hk2
  clear HRec
  by_cases hk3 : kind = 3
  rotate_left
  · skip
    have HS : Hid (takeS ⟨num, bq, ba, evs, ⟨q, a, ns⟩, size, false⟩ kind p = none) := by unfold Hid takeS; rw [if_neg (by simp), if_neg hn0, if_neg hk2, if_neg hk3]
    have b3 : (kind == 3) = false := by rw [beq_eq_false_iff_ne]; exact hk3
    clear hn0 hk2 hk3
    have HK1 := Lib.hid (show Held w (Exs [.box g 115 (scnA ⟨num, bq, ba, evs, ⟨q, a, ns⟩, size, false⟩ (.slice Av evs.length cv) An nn cn), evRow (.slice Av evs.length cv) evs]) X w [.box (g) 115 (scnA ⟨num, bq, ba, evs, ⟨q, a, ns⟩, size, false⟩ (.slice Av evs.length cv) An nn cn), .row 44 7 ((.slice Av evs.length cv)) (evs.length) (evCells evs)] [] from (Held.startG hX hG))
    have HK2 := Lib.hid (show Held w (Exs [.box g 115 (scnA ⟨num, bq, ba, evs, ⟨q, a, ns⟩, size, false⟩ (.slice Av evs.length cv) An nn cn), evRow (.slice Av evs.length cv) evs]) X w [.box (g) 115 (scnA ⟨num, bq, ba, evs, ⟨q, a, ns⟩, size, false⟩ (.slice Av evs.length cv) An nn cn), .row 44 7 ((.slice Av evs.length cv)) (evs.length) (evCells evs)] [Sl.fact nameSh An nn cn ns] from HK1.out.know0 (Sl.fact nameSh An nn cn ns) hs)
    clear HK1
    have c_s_0_3 : w.cell? ⟨g, 0, none⟩ = some (.int .i64 num) := HK2.out.cell 0 rfl 0
    have c_s_1_4 : w.cell? ⟨g, 1, none⟩ = some (.int .i64 bq) := HK2.out.cell 0 rfl 1
    have c_s_2_5 : w.cell? ⟨g, 2, none⟩ = some (.int .i64 ba) := HK2.out.cell 0 rfl 2
    have c_s_3_6 : w.cell? ⟨g, 3, none⟩ = some (.slice none 0 0) := HK2.out.cell 0 rfl 3
    have c_s_4_7 : w.cell? ⟨g, 4, none⟩ = some (.slice Av evs.length cv) := HK2.out.cell 0 rfl 4
    have c_s_5_8 : w.cell? ⟨g, 5, none⟩ = some (.int .i64 q) := HK2.out.cell 0 rfl 5
    have c_s_6_9 : w.cell? ⟨g, 6, none⟩ = some (.int .i64 a) := HK2.out.cell 0 rfl 6
    have c_s_7_10 : w.cell? ⟨g, 7, none⟩ = some (.slice An nn cn) := HK2.out.cell 0 rfl 7
    have c_s_8_11 : w.cell? ⟨g, 8, none⟩ = some (.int .i64 0) := HK2.out.cell 0 rfl 8
    have c_s_9_12 : w.cell? ⟨g, 9, none⟩ = some (.int .i64 size) := HK2.out.cell 0 rfl 9
    have c_s_10_13 : w.cell? ⟨g, 10, none⟩ = some (.bool false) := HK2.out.cell 0 rfl 10
    go_enter Tryz.func51, Tryz.ntmps51
    go_wp2
    clear c_s_0_3 c_s_1_4 c_s_2_5 c_s_3_6 c_s_4_7 c_s_5_8 c_s_6_9 c_s_7_10 c_s_8_11 c_s_9_12 c_s_10_13
    go_ret
    exact ⟨HK2.out.only, .inl ⟨HS.out, rfl, HK2.out.blk 0 rfl, HK2.out.ent 1 rfl⟩⟩
  subst hk3
  have HS : Hid (takeS ⟨num, bq, ba, evs, ⟨q, a, ns⟩, size, false⟩ 3 p = if (p == putS (evs.length : Int) q a) = true then some ⟨num, bq, ba, evs, ⟨q, a, ns⟩, size, true⟩ else none) := by unfold Hid takeS; rw [if_neg (by simp), if_neg hn0, if_neg hk2, if_pos rfl]
  clear hn0 hk2 b2
  obtain ⟨hq0, hq1, ha0, ha1⟩ := right_bd hrt
  simp only at hq0 hq1 ha0 ha1
  have HK1 := Lib.hid (show Held w (Exs [.box g 115 (scnA ⟨num, bq, ba, evs, ⟨q, a, ns⟩, size, false⟩ (.slice Av evs.length cv) An nn cn), evRow (.slice Av evs.length cv) evs]) X w [.box (g) 115 (scnA ⟨num, bq, ba, evs, ⟨q, a, ns⟩, size, false⟩ (.slice Av evs.length cv) An nn cn), .row 44 7 ((.slice Av evs.length cv)) (evs.length) (evCells evs)] [] from (Held.startG hX hG))
  have HK2 := Lib.hid (show Held w (Exs [.box g 115 (scnA ⟨num, bq, ba, evs, ⟨q, a, ns⟩, size, false⟩ (.slice Av evs.length cv) An nn cn), evRow (.slice Av evs.length cv) evs]) X w [.box (g) 115 (scnA ⟨num, bq, ba, evs, ⟨q, a, ns⟩, size, false⟩ (.slice Av evs.length cv) An nn cn), .row 44 7 ((.slice Av evs.length cv)) (evs.length) (evCells evs)] [Sl.fact nameSh An nn cn ns] from HK1.out.know0 (Sl.fact nameSh An nn cn ns) hs)
  clear HK1
  have HMb := Lib.hid (show ∀ g' ∈ (Exs [.box g 115 (scnA ⟨num, bq, ba, evs, ⟨q, a, ns⟩, size, false⟩ (.slice Av evs.length cv) An nn cn), evRow (.slice Av evs.length cv) evs]), B ≤ g' from by
    intro g' h; obtain ⟨x, hx, e⟩ := mem_exs.1 h
    rcases List.mem_cons.1 hx with rfl | hx
    · injection e with e; omega
    · rw [List.mem_singleton] at hx; subst hx; exact hBr g' e)
  have c_s_0_3 : w.cell? ⟨g, 0, none⟩ = some (.int .i64 num) := HK2.out.cell 0 rfl 0
  have c_s_1_4 : w.cell? ⟨g, 1, none⟩ = some (.int .i64 bq) := HK2.out.cell 0 rfl 1
  have c_s_2_5 : w.cell? ⟨g, 2, none⟩ = some (.int .i64 ba) := HK2.out.cell 0 rfl 2
  have c_s_3_6 : w.cell? ⟨g, 3, none⟩ = some (.slice none 0 0) := HK2.out.cell 0 rfl 3
  have c_s_4_7 : w.cell? ⟨g, 4, none⟩ = some (.slice Av evs.length cv) := HK2.out.cell 0 rfl 4
  have c_s_5_8 : w.cell? ⟨g, 5, none⟩ = some (.int .i64 q) := HK2.out.cell 0 rfl 5
  have c_s_6_9 : w.cell? ⟨g, 6, none⟩ = some (.int .i64 a) := HK2.out.cell 0 rfl 6
  have c_s_7_10 : w.cell? ⟨g, 7, none⟩ = some (.slice An nn cn) := HK2.out.cell 0 rfl 7
  have c_s_8_11 : w.cell? ⟨g, 8, none⟩ = some (.int .i64 0) := HK2.out.cell 0 rfl 8
  have c_s_9_12 : w.cell? ⟨g, 9, none⟩ = some (.int .i64 size) := HK2.out.cell 0 rfl 9
  have c_s_10_13 : w.cell? ⟨g, 10, none⟩ = some (.bool false) := HK2.out.cell 0 rfl 10
  go_enter Tryz.func51, Tryz.ntmps51
  go_upto_region 8 with (fail)
  clear c_s_0_3 c_s_1_4 c_s_2_5 c_s_3_6 c_s_4_7 c_s_5_8 c_s_6_9 c_s_7_10 c_s_8_11 c_s_9_12 c_s_10_13
  have k4 := HK2.out.cell 0 rfl 4
  have k5 := HK2.out.cell 0 rfl 5
  have k6 := HK2.out.cell 0 rfl 6
  have k7 := HK2.out.cell 0 rfl 7
  refine wp_region_noPanic ?_
  refine wp_region_held_drew (S := fun W' => W'.cell? ⟨g, 4, none⟩ = some (.slice Av evs.length cv) ∧ W'.cell? ⟨g, 5, none⟩ = some (.int .i64 q) ∧ W'.cell? ⟨g, 6, none⟩ = some (.int .i64 a) ∧ W'.cell? ⟨g, 7, none⟩ = some (.slice An nn cn)) (by kernel_rfl) ⟨k4, k5, k6, k7⟩ (fun hHeld => ?_)
  clear k4 k5 k6 k7
  have HK14 := Lib.hid (show Held w (Exs [.box g 115 (scnA ⟨num, bq, ba, evs, ⟨q, a, ns⟩, size, false⟩ (.slice Av evs.length cv) An nn cn), evRow (.slice Av evs.length cv) evs]) X w.drew [.box (g) 115 (scnA ⟨num, bq, ba, evs, ⟨q, a, ns⟩, size, false⟩ (.slice Av evs.length cv) An nn cn), .row 44 7 ((.slice Av evs.length cv)) (evs.length) (evCells evs)] [Sl.fact nameSh An nn cn ns] from HK2.out.drew)
  clear HK2
  generalize w.drew = wd at hHeld HK14 ⊢
  refine takeH 0 (v := ?v0u1) rfl (by kernel_rfl) (by kernel_rfl) (by kernel_rfl) rfl (fun _ _ _ h => h) (Or.inl ⟨by rfl, ?y0u1⟩) hHeld ?r0u1
  case y0u1 => (intro W hSW; (try dsimp only at hSW); go_simp; try with_reducible rfl)
  simp only [Act.put, sI, sZ, sS]
  refine takeH 1 (v := ?v1u2) rfl (by kernel_rfl) (by kernel_rfl) (by kernel_rfl) rfl (fun _ _ _ h => h) (Or.inl ⟨by rfl, ?y1u2⟩) hHeld ?r1u2
  case y1u2 => (intro W hSW; (try dsimp only at hSW); go_simp; try with_reducible rfl)
  simp only [Act.put, sI, sZ, sS]
  refine takeH 2 (v := ?v2u3) rfl (by kernel_rfl) (by kernel_rfl) (by kernel_rfl) rfl (fun _ _ _ h => h) (Or.inl ⟨by rfl, ?y2u3⟩) hHeld ?r2u3
  case y2u3 => (intro W hSW; (try dsimp only at hSW); go_simp; try with_reducible rfl)
  simp only [Act.put, sI, sZ, sS]
  refine takeH 3 (v := ?v3u4) rfl (by kernel_rfl) (by kernel_rfl) (by kernel_rfl) rfl (fun _ _ _ h => h) (Or.inl ⟨by rfl, ?y3u4⟩) hHeld ?r3u4
  case y3u4 => (intro W hSW; (try dsimp only at hSW); go_simp; try with_reducible rfl)
  simp only [Act.put, sI, sZ, sS]
  refine takeH 4 (v := ?v4u5) rfl (by kernel_rfl) (by kernel_rfl) (by kernel_rfl) rfl (fun _ _ _ h => h) (Or.inl ⟨by rfl, ?y4u5⟩) hHeld ?r4u5
  case y4u5 => (intro W hSW; (try dsimp only at hSW); go_simp; try with_reducible rfl)
  simp only [Act.put, sI, sZ, sS]
  refine takeH 5 (v := ?v5u6) rfl (by kernel_rfl) (by kernel_rfl) (by kernel_rfl) rfl (fun _ _ _ h => h) (Or.inl ⟨by rfl, ?y5u6⟩) hHeld ?r5u6
  case y5u6 => (intro W hSW; (try dsimp only at hSW); go_simp; try with_reducible rfl)
  simp only [Act.put, sI, sZ, sS]
  refine takeH 6 (v := ?v6u7) rfl (by kernel_rfl) (by kernel_rfl) (by kernel_rfl) rfl (fun _ _ _ h => h) (Or.inl ⟨by rfl, ?y6u7⟩) hHeld ?r6u7
  case y6u7 => (intro W hSW; (try dsimp only at hSW); obtain ⟨q4, q5, q6, q7⟩ := hSW; go_simp; try with_reducible rfl)
  simp only [Act.put, sI, sZ, sS]
  refine takeH 7 (v := ?v7u8) rfl (by kernel_rfl) (by kernel_rfl) (by kernel_rfl) rfl (fun _ _ _ h => h) (Or.inl ⟨by rfl, ?y7u8⟩) hHeld ?r7u8
  case y7u8 => (intro W hSW; (try dsimp only at hSW); go_simp; try with_reducible rfl)
  simp only [Act.put, sI, sZ, sS]
  refine takeH 8 (v := ?v8u9) rfl (by kernel_rfl) (by kernel_rfl) (by kernel_rfl) rfl (fun _ _ _ h => h) (Or.inl ⟨by rfl, ?y8u9⟩) hHeld ?r8u9
  case y8u9 => (intro W hSW; (try dsimp only at hSW); go_simp; try with_reducible rfl)
  simp only [Act.put, sI, sZ, sS]
  refine takeH 9 (v := ?v9u10) rfl (by kernel_rfl) (by kernel_rfl) (by kernel_rfl) rfl (fun _ _ _ h => h) (Or.inl ⟨by rfl, ?y9u10⟩) hHeld ?r9u10
  case y9u10 => (intro W hSW; (try dsimp only at hSW); go_simp; try with_reducible rfl)
  simp only [Act.put, sI, sZ, sS]
  refine takeH 10 (v := ?v10u11) rfl (by kernel_rfl) (by kernel_rfl) (by kernel_rfl) rfl (fun _ _ _ h => h) (Or.inl ⟨by rfl, ?y10u11⟩) hHeld ?r10u11
  case y10u11 => (intro W hSW; (try dsimp only at hSW); go_simp; try with_reducible rfl)
  simp only [Act.put, sI, sZ, sS]
  refine takeH 11 (v := ?v11u12) rfl (by kernel_rfl) (by kernel_rfl) (by kernel_rfl) rfl (fun _ _ _ h => h) (Or.inl ⟨by rfl, ?y11u12⟩) hHeld ?r11u12
  case y11u12 => (intro W hSW; (try dsimp only at hSW); go_simp; try with_reducible rfl)
  simp only [Act.put, sI, sZ, sS]
  refine takeH 12 (v := ?v12u13) rfl (by kernel_rfl) (by kernel_rfl) (by kernel_rfl) rfl (fun _ _ _ h => h) (Or.inl ⟨by rfl, ?y12u13⟩) hHeld ?r12u13
  case y12u13 => (intro W hSW; (try dsimp only at hSW); obtain ⟨q4, q5, q6, q7⟩ := hSW; go_simp; try with_reducible rfl)
  simp only [Act.put, sI, sZ, sS]
  refine wpAnyH_ready (rs := [13]) (by kernel_rfl) (by simp) ?_
  refine AllReadyH.cons rfl (fun K hK => ?_) AllReadyH.nil
  go_simp
  with_reducible refine (put_s none 0 0 [] (evs.length : Int) q a (.slice An nn cn) _ wd HK14.out.xok' Sl.nil_ (by omega) (by omega) (by omega) hq0 hq1 ha0 ha1).mono ?_
  rintro e w1 ⟨A1, c1, rfl, hsl, hb⟩
  have HL := Lib.hid (putS_len (n := (evs.length : Int)) (q := q) (a := a) (by omega) (by omega) (by omega))
  generalize putS (evs.length : Int) q a = pl at HS hsl HL ⊢
  rw [Nat.zero_add, List.nil_append] at hsl
  have hS2 := (⟨(cell_below hb hHeld.1), (cell_below hb hHeld.2.1), (cell_below hb hHeld.2.2.1), (cell_below hb hHeld.2.2.2)⟩ : _ ∧ _ ∧ _ ∧ _)
  have HK15 := Lib.hid (show Held w (Exs [.box g 115 (scnA ⟨num, bq, ba, evs, ⟨q, a, ns⟩, size, false⟩ (.slice Av evs.length cv) An nn cn), evRow (.slice Av evs.length cv) evs]) X w1 [.box (g) 115 (scnA ⟨num, bq, ba, evs, ⟨q, a, ns⟩, size, false⟩ (.slice Av evs.length cv) An nn cn), .row 44 7 ((.slice Av evs.length cv)) (evs.length) (evCells evs)] [Sl.fact byteSh A1 pl.length c1 pl, Sl.fact nameSh An nn cn ns] from ((HK14.out.on hb).know (Sl.fact byteSh A1 pl.length c1 pl) hsl))
  clear HK14
  clear hb
  refine hK.out _ _ hS2 (fun hHeld => ?_)
  clear hK K
  try simp only [Act.put, sI, sZ, sS]
  clear hS2
  refine wpAnyH_ready (rs := [14]) (by kernel_rfl) (by simp) ?_
  refine AllReadyH.cons rfl (fun K hK => ?_) AllReadyH.nil
  go_simp
  with_reducible refine (Equal_c A A1 n c pl.length c1 B w1.heap.size p pl w1 (HR.out.below (HK15.out.belowB hB HMb.out)) (HK15.out.sl 0 rfl).bytes).mono ?_
  rintro e w' ⟨rfl, rfl⟩
  refine hK.out _ _ hHeld (fun hHeld => ?_)
  clear hK K
  try simp only [Act.put, sI, sZ, sS]
  generalize (p == pl) = pb at HS ⊢
  refine takeH 15 (v := ?v15u14) rfl (by kernel_rfl) (by kernel_rfl) (by kernel_rfl) rfl (fun _ _ _ h => h) (Or.inl ⟨by rfl, ?y15u14⟩) hHeld ?r15u14
  case y15u14 => (intro W hSW; (try dsimp only at hSW); go_simp; try with_reducible rfl)
  simp only [Act.put, sI, sZ, sS]
  refine takeH 16 (v := ?v16u15) rfl (by kernel_rfl) (by kernel_rfl) (by kernel_rfl) rfl (fun _ _ _ h => h) (Or.inl ⟨by rfl, ?y16u15⟩) hHeld ?r16u15
  case y16u15 => (intro W hSW; (try dsimp only at hSW); go_simp; try with_reducible rfl)
  simp only [Act.put, sI, sZ, sS]
  have c_s_0_16 : w1.cell? ⟨g, 0, none⟩ = some (.int .i64 num) := HK15.out.cell 0 rfl 0
  have z_s_0_17 : w1.frozen? ⟨g, 0, none⟩ = false := HK15.out.frozen 0 rfl 0
  have c_s_1_18 : w1.cell? ⟨g, 1, none⟩ = some (.int .i64 bq) := HK15.out.cell 0 rfl 1
  have z_s_1_19 : w1.frozen? ⟨g, 1, none⟩ = false := HK15.out.frozen 0 rfl 1
  have c_s_2_20 : w1.cell? ⟨g, 2, none⟩ = some (.int .i64 ba) := HK15.out.cell 0 rfl 2
  have z_s_2_21 : w1.frozen? ⟨g, 2, none⟩ = false := HK15.out.frozen 0 rfl 2
  have c_s_3_22 : w1.cell? ⟨g, 3, none⟩ = some (.slice none 0 0) := HK15.out.cell 0 rfl 3
  have z_s_3_23 : w1.frozen? ⟨g, 3, none⟩ = false := HK15.out.frozen 0 rfl 3
  have c_s_4_24 : w1.cell? ⟨g, 4, none⟩ = some (.slice Av evs.length cv) := HK15.out.cell 0 rfl 4
  have z_s_4_25 : w1.frozen? ⟨g, 4, none⟩ = false := HK15.out.frozen 0 rfl 4
  have c_s_5_26 : w1.cell? ⟨g, 5, none⟩ = some (.int .i64 q) := HK15.out.cell 0 rfl 5
  have z_s_5_27 : w1.frozen? ⟨g, 5, none⟩ = false := HK15.out.frozen 0 rfl 5
  have c_s_6_28 : w1.cell? ⟨g, 6, none⟩ = some (.int .i64 a) := HK15.out.cell 0 rfl 6
  have z_s_6_29 : w1.frozen? ⟨g, 6, none⟩ = false := HK15.out.frozen 0 rfl 6
  have c_s_7_30 : w1.cell? ⟨g, 7, none⟩ = some (.slice An nn cn) := HK15.out.cell 0 rfl 7
  have z_s_7_31 : w1.frozen? ⟨g, 7, none⟩ = false := HK15.out.frozen 0 rfl 7
  have c_s_8_32 : w1.cell? ⟨g, 8, none⟩ = some (.int .i64 0) := HK15.out.cell 0 rfl 8
  have z_s_8_33 : w1.frozen? ⟨g, 8, none⟩ = false := HK15.out.frozen 0 rfl 8
  have c_s_9_34 : w1.cell? ⟨g, 9, none⟩ = some (.int .i64 size) := HK15.out.cell 0 rfl 9
  have z_s_9_35 : w1.frozen? ⟨g, 9, none⟩ = false := HK15.out.frozen 0 rfl 9
  have c_s_10_36 : w1.cell? ⟨g, 10, none⟩ = some (.bool false) := HK15.out.cell 0 rfl 10
  have z_s_10_37 : w1.frozen? ⟨g, 10, none⟩ = false := HK15.out.frozen 0 rfl 10
  refine wpAnyH_ready (rs := [17]) (by kernel_rfl) (by simp) ?_
  refine AllReadyH.cons rfl (fun K hK => ?_) AllReadyH.nil
  go_simp
  refine hK.out _ _ ⟨by rw [World.cell?_setCell_other _ _ _ _ (by simp)]; exact hHeld.1, by rw [World.cell?_setCell_other _ _ _ _ (by simp)]; exact hHeld.2.1, by rw [World.cell?_setCell_other _ _ _ _ (by simp)]; exact hHeld.2.2.1, by rw [World.cell?_setCell_other _ _ _ _ (by simp)]; exact hHeld.2.2.2⟩ (fun hHeld => ?_)
  clear hK K
  try simp only [Act.put, sI, sZ, sS]
  refine wpAnyH_done (by kernel_rfl) ?_ _
  refine NoPanic.normal ?_
  clear hHeld
  clear c_s_0_16 z_s_0_17 c_s_1_18 z_s_1_19 c_s_2_20 z_s_2_21 c_s_3_22 z_s_3_23 c_s_4_24 z_s_4_25 c_s_5_26 z_s_5_27 c_s_6_28 z_s_6_29 c_s_7_30 z_s_7_31 c_s_8_32 z_s_8_33 c_s_9_34 z_s_9_35 c_s_10_36 z_s_10_37
  have HK38 := Lib.hid (show Held w (Exs [.box g 115 (scnA ⟨num, bq, ba, evs, ⟨q, a, ns⟩, size, false⟩ (.slice Av evs.length cv) An nn cn), evRow (.slice Av evs.length cv) evs]) X (w1.setCell ⟨g, 10, none⟩ (.bool pb)) [.box (g) 115 ((scnA ⟨num, bq, ba, evs, ⟨q, a, ns⟩, size, false⟩ (.slice Av evs.length cv) An nn cn).setIfInBounds 10 (.bool pb)), .row 44 7 ((.slice Av evs.length cv)) (evs.length) (evCells evs)] [Sl.fact byteSh A1 pl.length c1 pl, Sl.fact nameSh An nn cn ns] from HK15.out.set_ 0 rfl 10 (.bool pb))
  clear HK15
  generalize w1.setCell ⟨g, 10, none⟩ (.bool pb) = w2 at HK38 ⊢
  have c_s_0_39 : w2.cell? ⟨g, 0, none⟩ = some (.int .i64 num) := HK38.out.cell 0 rfl 0
  have c_s_1_40 : w2.cell? ⟨g, 1, none⟩ = some (.int .i64 bq) := HK38.out.cell 0 rfl 1
  have c_s_2_41 : w2.cell? ⟨g, 2, none⟩ = some (.int .i64 ba) := HK38.out.cell 0 rfl 2
  have c_s_3_42 : w2.cell? ⟨g, 3, none⟩ = some (.slice none 0 0) := HK38.out.cell 0 rfl 3
  have c_s_4_43 : w2.cell? ⟨g, 4, none⟩ = some (.slice Av evs.length cv) := HK38.out.cell 0 rfl 4
  have c_s_5_44 : w2.cell? ⟨g, 5, none⟩ = some (.int .i64 q) := HK38.out.cell 0 rfl 5
  have c_s_6_45 : w2.cell? ⟨g, 6, none⟩ = some (.int .i64 a) := HK38.out.cell 0 rfl 6
  have c_s_7_46 : w2.cell? ⟨g, 7, none⟩ = some (.slice An nn cn) := HK38.out.cell 0 rfl 7
  have c_s_8_47 : w2.cell? ⟨g, 8, none⟩ = some (.int .i64 0) := HK38.out.cell 0 rfl 8
  have c_s_9_48 : w2.cell? ⟨g, 9, none⟩ = some (.int .i64 size) := HK38.out.cell 0 rfl 9
  have c_s_10_49 : w2.cell? ⟨g, 10, none⟩ = some (.bool pb) := HK38.out.cell 0 rfl 10
  go_wp2
  clear c_s_0_39 c_s_1_40 c_s_2_41 c_s_3_42 c_s_4_43 c_s_5_44 c_s_6_45 c_s_7_46 c_s_8_47 c_s_9_48 c_s_10_49
  cases pb
  · go_ret
    exact ⟨HK38.out.only, .inl ⟨HS.out, rfl, HK38.out.blk 0 rfl, HK38.out.ent 1 rfl⟩⟩
  · go_ret
    exact ⟨HK38.out.only, .inr ⟨_, (.slice Av evs.length cv), An, nn, cn, HS.out, rfl, HK38.out.blk 0 rfl, HK38.out.ent 1 rfl, fun b hb => .inl hb, ((Sl.fact nameSh An nn cn ns).more (HK38.out.fact 1 rfl) (fun b _ => sub_exs 0 1 rfl rfl (by rfl) (by rfl) b)), hnn⟩⟩
end
section
set_option maxRecDepth 100000
open Go.RowKit
theorem i64_or_nat (a b : Nat) (ha : a < 9223372036854775808) (hb : b < 9223372036854775808) : bits .or .i64 (a : Int) (b : Int) = ((a ||| b : Nat) : Int) := by
  have hx : a ||| b < 2 ^ 63 := Nat.or_lt_two_pow (by omega) (by omega)
  have hi : ∀ a : Nat, a < 9223372036854775808 → (BitVec.ofInt 64 (a : Int)).toNat = a := fun a ha => by
    rw [BitVec.ofInt_natCast, BitVec.toNat_ofNat]; exact Nat.mod_eq_of_lt (by omega)
  show IntKind.i64.wrap ((BitVec.ofInt 64 (a : Int) ||| BitVec.ofInt 64 (b : Int)).toNat : Int) = _
  rw [BitVec.toNat_or, hi a ha, hi b hb, IntKind.wrap_i64]
  omega
theorem or_low (a b : Nat) (hb : b < 256) : a * 256 ||| b = 256 * a + b := by
  have h := Nat.two_pow_add_eq_or_of_lt (i := 8) (b := b) (by omega) a
  rw [show a * 256 = 2 ^ 8 * a from by omega, ← h]
theorem two_bytes (x0 x1 : UInt8) : bits .or .i64 ((x0.toNat : Int) * 256) (x1.toNat : Int) = ((256 * x0.toNat + x1.toNat : Nat) : Int) := by
  have h0 := x0.toNat_lt
  have h1 := x1.toNat_lt
  rw [show (x0.toNat : Int) * 256 = ((x0.toNat * 256 : Nat) : Int) from by omega, i64_or_nat _ _ (by omega) (by omega), or_low _ _ h1]
theorem Next_out (A : Option Addr) (n c : Nat) (at_ : Int) (w : World) (h : at_ < 0 ∨ (n : Int) < at_) :
    Calls Tryz.prog 50 #[.slice A n c, .int .i64 at_] w fun e w' => e = .returned (.tuple #[.int .i64 3, .int .i64 0, .slice none 0 0, .int .i64 0]) ∧ w = w' := by
  by_cases h0 : at_ < 0
  · have hd : decide (at_ < 0) = true := by simpa using h0
    clear h
    go_enter Tryz.func50, Tryz.ntmps50
    go_wp2
    ((try simp only [Exit.inBlock, Exit.then]); refine bodyPost_ret (results_tmp4 rfl _ _ _) rfl ?_)
    exact ⟨rfl, rfl⟩
  · have hd : decide (at_ < 0) = false := by simpa using h0
    have hd2 : decide ((n : Int) < at_) = true := by simp; omega
    clear h
    go_enter Tryz.func50, Tryz.ntmps50
    go_wp2
    ((try simp only [Exit.inBlock, Exit.then]); refine bodyPost_ret (results_tmp4 rfl _ _ _) rfl ?_)
    exact ⟨rfl, rfl⟩
theorem Next_end (A : Option Addr) (n c : Nat) (w : World) (hnc : n ≤ c) :
    Calls Tryz.prog 50 #[.slice A n c, .int .i64 (n : Int)] w fun e w' => e = .returned (.tuple #[.int .i64 1, .int .i64 0, .slice none 0 0, .int .i64 0]) ∧ w = w' := by
  by_cases hc : c = n
  · subst hc
    go_enter Tryz.func50, Tryz.ntmps50
    go_wp2
    ((try simp only [Exit.inBlock, Exit.then]); refine bodyPost_ret (results_tmp4 rfl _ _ _) rfl ?_)
    exact ⟨rfl, rfl⟩
  · go_enter Tryz.func50, Tryz.ntmps50
    go_wp2
    ((try simp only [Exit.inBlock, Exit.then]); refine bodyPost_ret (results_tmp4 rfl _ _ _) rfl ?_)
    exact ⟨rfl, rfl⟩
theorem Next_few (A : Option Addr) (a m cm : Nat) (w : World) (h0 : 0 < m) (h7 : m < 7) (hnc : m ≤ cm) (hmc : a + cm ≤ 9223372036854775807) :
    Calls Tryz.prog 50 #[.slice A (a + m) (a + cm), .int .i64 (a : Int)] w fun e w' => e = .returned (.tuple #[.int .i64 2, .int .i64 0, .slice none 0 0, .int .i64 0]) ∧ w = w' := by
  have hcm : ¬ cm = 0 := by omega
  have hd : decide (((a + m : Nat) : Int) < (a : Int)) = false := by simp; omega
  have hm0 : ((m : Int) == 0) = false := by rw [beq_eq_false_iff_ne]; omega
  have hm7 : decide ((m : Int) < 7) = true := by simp; omega
  go_enter Tryz.func50, Tryz.ntmps50
  go_wp2
  ((try simp only [Exit.inBlock, Exit.then]); refine bodyPost_ret (results_tmp4 rfl _ _ _) rfl ?_)
  exact ⟨rfl, rfl⟩
set_option maxRecDepth 100000 in
theorem Next_big (ad : Addr) (a m cm : Nat) (bs : List UInt8) (x0 x1 x2 : UInt8) (B : Nat) (w : World) (h7 : 7 ≤ m) (hm : m ≤ 10000) (hnc : m ≤ cm) (hmc : a + cm ≤ 9223372036854775807)
    (hr : Reads w B 1 (some ad) (a + m) (byteCells bs)) (hB : B ≤ w.heap.size) (e0 : bs[a]? = some x0) (e1 : bs[a + 1]? = some x1) (e2 : bs[a + 2]? = some x2) (q : Nat) (hq : 256 * x0.toNat + x1.toNat = q) (hp : 200 < q) :
    Calls Tryz.prog 50 #[.slice (some ad) (a + m) (a + cm), .int .i64 (a : Int)] w fun e w' => e = .returned (.tuple #[.int .i64 3, .int .i64 0, .slice none 0 0, .int .i64 0]) ∧ Below w.heap.size w w' := by
  obtain ⟨ad', had⟩ : ∃ ad', ad.add a = ad' := ⟨_, rfl⟩
  obtain ⟨ad1, _, E1, _, hx0, c0⟩ := hr.byte_at (k := a) (by omega)
  cases E1
  rw [e0] at hx0; cases hx0
  obtain ⟨ad1, _, E1, _, hx1, c1⟩ := hr.byte_at (k := a + 1) (by omega)
  cases E1
  rw [e1] at hx1; cases hx1
  obtain ⟨ad1, _, E1, _, hx2, c2⟩ := hr.byte_at (k := a + 2) (by omega)
  cases E1
  rw [e2] at hx2; cases hx2
  rw [had] at c0
  rw [← add_of_add, had] at c1 c2
  have HR := Lib.hid hr
  clear hr e0 e1 e2
  have c1' : w.cell? ⟨ad'.block, ad'.off + 1, none⟩ = some (.int .u8 (x1.toNat : Int)) := c1
  have c2' : w.cell? ⟨ad'.block, ad'.off + 2, none⟩ = some (.int .u8 (x2.toNat : Int)) := c2
  clear c1 c2
  have hor := two_bytes x0 x1
  rw [hq] at hor
  have hx0 := x0.toNat_lt
  have hx1 := x1.toNat_lt
  have hx2 := x2.toNat_lt
  have hql : q < 65536 := by omega
  have HQ := Lib.hid hq
  clear hq
  have hcm : ¬ cm = 0 := by omega
  have hd : decide (((a + m : Nat) : Int) < (a : Int)) = false := by simp; omega
  have hm0 : ((m : Int) == 0) = false := by rw [beq_eq_false_iff_ne]; omega
  have hm7 : decide ((m : Int) < 7) = false := by simp; omega
  have h2 : decide ((200 : Int) < (q : Int)) = true := by simp; omega
  go_enter Tryz.func50, Tryz.ntmps50
  go_wp2
  go_quiet (fail)
  go_wp2
  ((try simp only [Exit.inBlock, Exit.then]); refine bodyPost_ret (results_tmp4 rfl _ _ _) rfl ?_)
  exact ⟨rfl, below_drewN (Below.refl _ _) _⟩
set_option maxRecDepth 100000 in
theorem Next_torn (ad : Addr) (a m cm : Nat) (bs : List UInt8) (x0 x1 x2 : UInt8) (B : Nat) (w : World) (h7 : 7 ≤ m) (hm : m ≤ 10000) (hnc : m ≤ cm) (hmc : a + cm ≤ 9223372036854775807)
    (hr : Reads w B 1 (some ad) (a + m) (byteCells bs)) (hB : B ≤ w.heap.size) (e0 : bs[a]? = some x0) (e1 : bs[a + 1]? = some x1) (e2 : bs[a + 2]? = some x2) (q : Nat) (hq : 256 * x0.toNat + x1.toNat = q) (hp : q ≤ 200) (hm' : m < q + 7) :
    Calls Tryz.prog 50 #[.slice (some ad) (a + m) (a + cm), .int .i64 (a : Int)] w fun e w' => e = .returned (.tuple #[.int .i64 2, .int .i64 0, .slice none 0 0, .int .i64 0]) ∧ Below w.heap.size w w' := by
  obtain ⟨ad', had⟩ : ∃ ad', ad.add a = ad' := ⟨_, rfl⟩
  obtain ⟨ad1, _, E1, _, hx0, c0⟩ := hr.byte_at (k := a) (by omega)
  cases E1
  rw [e0] at hx0; cases hx0
  obtain ⟨ad1, _, E1, _, hx1, c1⟩ := hr.byte_at (k := a + 1) (by omega)
  cases E1
  rw [e1] at hx1; cases hx1
  obtain ⟨ad1, _, E1, _, hx2, c2⟩ := hr.byte_at (k := a + 2) (by omega)
  cases E1
  rw [e2] at hx2; cases hx2
  rw [had] at c0
  rw [← add_of_add, had] at c1 c2
  have HR := Lib.hid hr
  clear hr e0 e1 e2
  have c1' : w.cell? ⟨ad'.block, ad'.off + 1, none⟩ = some (.int .u8 (x1.toNat : Int)) := c1
  have c2' : w.cell? ⟨ad'.block, ad'.off + 2, none⟩ = some (.int .u8 (x2.toNat : Int)) := c2
  clear c1 c2
  have hor := two_bytes x0 x1
  rw [hq] at hor
  have hx0 := x0.toNat_lt
  have hx1 := x1.toNat_lt
  have hx2 := x2.toNat_lt
  have hql : q < 65536 := by omega
  have HQ := Lib.hid hq
  clear hq
  have hcm : ¬ cm = 0 := by omega
  have hd : decide (((a + m : Nat) : Int) < (a : Int)) = false := by simp; omega
  have hm0 : ((m : Int) == 0) = false := by rw [beq_eq_false_iff_ne]; omega
  have hm7 : decide ((m : Int) < 7) = false := by simp; omega
  have h2 : decide ((200 : Int) < (q : Int)) = false := by simp; omega
  have h3 : decide ((m : Int) < (q : Int) + 7) = true := by simp; omega
  go_enter Tryz.func50, Tryz.ntmps50
  go_wp2
  go_quiet (fail)
  go_wp2
  ((try simp only [Exit.inBlock, Exit.then]); refine bodyPost_ret (results_tmp4 rfl _ _ _) rfl ?_)
  exact ⟨rfl, below_drewN (Below.refl _ _) _⟩
set_option maxRecDepth 100000 in
theorem Next_kind (ad : Addr) (a m cm : Nat) (bs : List UInt8) (x0 x1 x2 : UInt8) (B : Nat) (w : World) (h7 : 7 ≤ m) (hm : m ≤ 10000) (hnc : m ≤ cm) (hmc : a + cm ≤ 9223372036854775807)
    (hr : Reads w B 1 (some ad) (a + m) (byteCells bs)) (hB : B ≤ w.heap.size) (e0 : bs[a]? = some x0) (e1 : bs[a + 1]? = some x1) (e2 : bs[a + 2]? = some x2) (q : Nat) (hq : 256 * x0.toNat + x1.toNat = q) (hp : q ≤ 200) (hm' : q + 7 ≤ m) (hk : (x2.toNat : Int) < 1 ∨ 3 < (x2.toNat : Int)) :
    Calls Tryz.prog 50 #[.slice (some ad) (a + m) (a + cm), .int .i64 (a : Int)] w fun e w' => e = .returned (.tuple #[.int .i64 3, .int .i64 0, .slice none 0 0, .int .i64 0]) ∧ Below w.heap.size w w' := by
  obtain ⟨ad', had⟩ : ∃ ad', ad.add a = ad' := ⟨_, rfl⟩
  obtain ⟨ad1, _, E1, _, hx0, c0⟩ := hr.byte_at (k := a) (by omega)
  cases E1
  rw [e0] at hx0; cases hx0
  obtain ⟨ad1, _, E1, _, hx1, c1⟩ := hr.byte_at (k := a + 1) (by omega)
  cases E1
  rw [e1] at hx1; cases hx1
  obtain ⟨ad1, _, E1, _, hx2, c2⟩ := hr.byte_at (k := a + 2) (by omega)
  cases E1
  rw [e2] at hx2; cases hx2
  rw [had] at c0
  rw [← add_of_add, had] at c1 c2
  have HR := Lib.hid hr
  clear hr e0 e1 e2
  have c1' : w.cell? ⟨ad'.block, ad'.off + 1, none⟩ = some (.int .u8 (x1.toNat : Int)) := c1
  have c2' : w.cell? ⟨ad'.block, ad'.off + 2, none⟩ = some (.int .u8 (x2.toNat : Int)) := c2
  clear c1 c2
  have hor := two_bytes x0 x1
  rw [hq] at hor
  have hx0 := x0.toNat_lt
  have hx1 := x1.toNat_lt
  have hx2 := x2.toNat_lt
  have hql : q < 65536 := by omega
  have HQ := Lib.hid hq
  clear hq
  have hcm : ¬ cm = 0 := by omega
  have hd : decide (((a + m : Nat) : Int) < (a : Int)) = false := by simp; omega
  have hm0 : ((m : Int) == 0) = false := by rw [beq_eq_false_iff_ne]; omega
  have hm7 : decide ((m : Int) < 7) = false := by simp; omega
  have HK := Lib.hid hk; clear hk
  have h2 : decide ((200 : Int) < (q : Int)) = false := by simp; omega
  have h3 : decide ((m : Int) < (q : Int) + 7) = false := by simp; omega
  go_enter Tryz.func50, Tryz.ntmps50
  go_wp2
  go_quiet (fail)
  go_wp2_with fail
  refine (kindly_no _ _ HK.out).mono ?_
  rintro e w1 ⟨rfl, rfl⟩
  go_wp2
  ((try simp only [Exit.inBlock, Exit.then]); refine bodyPost_ret (results_tmp4 rfl _ _ _) rfl ?_)
  exact ⟨rfl, below_drewN (Below.refl _ _) _⟩
theorem Open_true (t : Nat → Nat) (ht : ∀ i, i < 256 → t i < 4294967296) (A : Option Addr) (n m c B : Nat) (bs : List UInt8) (w : World) (hnm : n = m + 4) (hr : Reads w B 1 A n (byteCells bs)) (hB : B ≤ w.heap.size) (hmc : n ≤ c) (hn : n ≤ 900000) (hcm : c ≤ 9223372036854775807) (hbb : (sealB t (bs.take m) == bs) = true) :
    Calls Tryz.prog 109 #[.agg (tabArr t), .slice A n c] w fun e w' => e = .returned (.tuple #[.slice A m m, .int .i64 0]) ∧ Below w.heap.size w w' := by
  subst hnm
  exact Open_yes t ht A m c B bs w hr hB hmc (by omega) hcm true hbb
theorem Open_false (t : Nat → Nat) (ht : ∀ i, i < 256 → t i < 4294967296) (A : Option Addr) (n m c B : Nat) (bs : List UInt8) (w : World) (hnm : n = m + 4) (hr : Reads w B 1 A n (byteCells bs)) (hB : B ≤ w.heap.size) (hmc : n ≤ c) (hn : n ≤ 900000) (hcm : c ≤ 9223372036854775807) (hbb : (sealB t (bs.take m) == bs) = false) :
    Calls Tryz.prog 109 #[.agg (tabArr t), .slice A n c] w fun e w' => e = .returned (.tuple #[.slice none 0 0, .int .i64 12]) ∧ Below w.heap.size w w' := by
  subst hnm
  exact Open_yes t ht A m c B bs w hr hB hmc (by omega) hcm false hbb
set_option maxRecDepth 100000 in
theorem Next_bad (ad : Addr) (a m cm : Nat) (bs : List UInt8) (x0 x1 x2 : UInt8) (B : Nat) (w : World) (h7 : 7 ≤ m) (hm : m ≤ 10000) (hnc : m ≤ cm) (hmc : a + cm ≤ 9223372036854775807)
    (hr : Reads w B 1 (some ad) (a + m) (byteCells bs)) (hB : B ≤ w.heap.size) (e0 : bs[a]? = some x0) (e1 : bs[a + 1]? = some x1) (e2 : bs[a + 2]? = some x2) (q : Nat) (hq : 256 * x0.toNat + x1.toNat = q) (hp : q ≤ 200) (hm' : q + 7 ≤ m) (hk1 : 1 ≤ (x2.toNat : Int)) (hk3 : (x2.toNat : Int) ≤ 3) (hs : (sealB step8 (((bs.drop a).take (q + 7)).take (q + 3)) == (bs.drop a).take (q + 7)) = false) :
    Calls Tryz.prog 50 #[.slice (some ad) (a + m) (a + cm), .int .i64 (a : Int)] w fun e w' => e = .returned (.tuple #[.int .i64 3, .int .i64 0, .slice none 0 0, .int .i64 0]) ∧ Below w.heap.size w w' := by
  obtain ⟨ad', had⟩ : ∃ ad', ad.add a = ad' := ⟨_, rfl⟩
  obtain ⟨ad1, _, E1, _, hx0, c0⟩ := hr.byte_at (k := a) (by omega)
  cases E1
  rw [e0] at hx0; cases hx0
  obtain ⟨ad1, _, E1, _, hx1, c1⟩ := hr.byte_at (k := a + 1) (by omega)
  cases E1
  rw [e1] at hx1; cases hx1
  obtain ⟨ad1, _, E1, _, hx2, c2⟩ := hr.byte_at (k := a + 2) (by omega)
  cases E1
  rw [e2] at hx2; cases hx2
  rw [had] at c0
  rw [← add_of_add, had] at c1 c2
  have HR := Lib.hid hr
  clear hr e0 e1 e2
  have c1' : w.cell? ⟨ad'.block, ad'.off + 1, none⟩ = some (.int .u8 (x1.toNat : Int)) := c1
  have c2' : w.cell? ⟨ad'.block, ad'.off + 2, none⟩ = some (.int .u8 (x2.toNat : Int)) := c2
  clear c1 c2
  have hor := two_bytes x0 x1
  rw [hq] at hor
  have hx0 := x0.toNat_lt
  have hx1 := x1.toNat_lt
  have hx2 := x2.toNat_lt
  have hql : q < 65536 := by omega
  have HQ := Lib.hid hq
  clear hq
  have hcm : ¬ cm = 0 := by omega
  have hd : decide (((a + m : Nat) : Int) < (a : Int)) = false := by simp; omega
  have hm0 : ((m : Int) == 0) = false := by rw [beq_eq_false_iff_ne]; omega
  have hm7 : decide ((m : Int) < 7) = false := by simp; omega
  have HS := Lib.hid hs; clear hs
  have h2 : decide ((200 : Int) < (q : Int)) = false := by simp; omega
  have h3 : decide ((m : Int) < (q : Int) + 7) = false := by simp; omega
  have HR2 := Lib.hid (show Reads w B 1 (some ad') (q + 7) (byteCells ((bs.drop a).take (q + 7))) from by
    have h := (HR.out.sufB (k := a) (cap := a + cm) (by omega) (by omega)).preB (k := q + 7) (by omega)
    rw [if_neg (by omega), Option.map_some, had] at h
    exact h)
  have hcq : q + 7 ≤ cm := by omega
  have hcq' : (q : Int) + 7 ≤ (cm : Int) := by omega
  have hq0 : (0 : Int) ≤ (q : Int) + 7 := by omega
  have hq1 : IntKind.i64.wrap ((q : Int) + 7) = (q : Int) + 7 := IntWalk.i64_in _ (by omega)
  have hq2 : ((q : Int) + 7).toNat = q + 7 := by omega
  go_enter Tryz.func50, Tryz.ntmps50
  go_wp2
  go_quiet (fail)
  go_wp2_with fail
  refine (kindly_yes _ _ hk1 hk3).mono ?_
  rintro e w1 ⟨rfl, rfl⟩
  go_wp2_with fail
  generalize hW : w.drewN _ = w0
  have HB0 := Lib.hid (show Below w.heap.size w w0 from by rw [← hW]; exact below_drewN (Below.refl _ _) _)
  clear hW
  refine wp_region_noPanic ?_
  refine wp_region_held_drew (S := fun W => Below w.heap.size w W) (by kernel_rfl) HB0.out.drew (fun hHeld => ?_)
  refine takeH 1 (v := ?v1u1) rfl (by kernel_rfl) (by kernel_rfl) (by kernel_rfl) rfl (fun _ _ _ h => h) (Or.inl ⟨by rfl, ?y1u1⟩) hHeld ?r1u1
  case y1u1 => (intro W hSW; (try dsimp only at hSW); go_simp; try with_reducible rfl)
  simp only [Act.put, sI, sZ, sS]
  refine takeH 2 (v := ?v2u2) rfl (by kernel_rfl) (by kernel_rfl) (by kernel_rfl) rfl (fun _ _ _ h => h) (Or.inl ⟨by rfl, ?y2u2⟩) hHeld ?r2u2
  case y2u2 => (intro W hSW; (try dsimp only at hSW); go_simp; try with_reducible rfl)
  simp only [Act.put, sI, sZ, sS]
  refine takeH 3 (v := ?v3u3) rfl (by kernel_rfl) (by kernel_rfl) (by kernel_rfl) rfl (fun _ _ _ h => h) (Or.inl ⟨by rfl, ?y3u3⟩) hHeld ?r3u3
  case y3u3 => (intro W hSW; (try dsimp only at hSW); go_simp; try with_reducible rfl)
  simp only [Act.put, sI, sZ, sS]
  refine wpAnyH_ready (rs := [0]) (by kernel_rfl) (by simp) ?_
  refine AllReadyH.cons rfl (fun K hK => ?_) AllReadyH.nil
  go_simp
  refine (Table_c _).mono ?_
  rintro e w2 ⟨rfl, hb2⟩
  refine hK.out _ _ (hHeld.trans (hb2.mono (Below.size hHeld))) (fun hHeld => ?_)
  clear hK K
  try simp only [Act.put, sI, sZ, sS]
  refine wpAnyH_ready (rs := [4]) (by kernel_rfl) (by simp) ?_
  refine AllReadyH.cons rfl (fun K hK => ?_) AllReadyH.nil
  go_simp
  refine (Open_false step8 tab8 (some ad') (q + 7) (q + 3) cm B ((bs.drop a).take (q + 7)) _ rfl (HR2.out.below (Below.mono hHeld hB)) (Nat.le_trans hB (Below.size hHeld)) hcq (by omega) (by omega) HS.out).mono ?_
  rintro e w3 ⟨rfl, hb3⟩
  refine hK.out _ _ (hHeld.trans (hb3.mono (Below.size hHeld))) (fun hHeld => ?_)
  clear hK K
  try simp only [Act.put, sI, sZ, sS]
  refine takeH 5 (v := ?v5u4) rfl (by kernel_rfl) (by kernel_rfl) (by kernel_rfl) rfl (fun _ _ _ h => h) (Or.inl ⟨by rfl, ?y5u4⟩) hHeld ?r5u4
  case y5u4 => (intro W hSW; (try dsimp only at hSW); go_simp; try with_reducible rfl)
  simp only [Act.put, sI, sZ, sS]
  refine takeH 6 (v := ?v6u5) rfl (by kernel_rfl) (by kernel_rfl) (by kernel_rfl) rfl (fun _ _ _ h => h) (Or.inl ⟨by rfl, ?y6u5⟩) hHeld ?r6u5
  case y6u5 => (intro W hSW; (try dsimp only at hSW); go_simp; try with_reducible rfl)
  simp only [Act.put, sI, sZ, sS]
  refine takeH 7 (v := ?v7u6) rfl (by kernel_rfl) (by kernel_rfl) (by kernel_rfl) rfl (fun _ _ _ h => h) (Or.inl ⟨by rfl, ?y7u6⟩) hHeld ?r7u6
  case y7u6 => (intro W hSW; (try dsimp only at hSW); go_simp; try with_reducible rfl)
  simp only [Act.put, sI, sZ, sS]
  refine takeH 8 (v := ?v8u7) rfl (by kernel_rfl) (by kernel_rfl) (by kernel_rfl) rfl (fun _ _ _ h => h) (Or.inl ⟨by rfl, ?y8u7⟩) hHeld ?r8u7
  case y8u7 => (intro W hSW; (try dsimp only at hSW); go_simp; try with_reducible rfl)
  simp only [Act.put, sI, sZ, sS]
  refine takeH 9 (v := ?v9u8) rfl (by kernel_rfl) (by kernel_rfl) (by kernel_rfl) rfl (fun _ _ _ h => h) (Or.inl ⟨by rfl, ?y9u8⟩) hHeld ?r9u8
  case y9u8 => (intro W hSW; (try dsimp only at hSW); go_simp; try with_reducible rfl)
  simp only [Act.put, sI, sZ, sS]
  refine wpAnyH_done (by kernel_rfl) ?_ _
  refine NoPanic.normal ?_
  have HB3 := Lib.hid (show Below w.heap.size w w3 from hHeld)
  clear hHeld hb2 hb3
  go_wp2
  ((try simp only [Exit.inBlock, Exit.then]); refine bodyPost_ret (results_tmp4 rfl _ _ _) rfl ?_)
  exact ⟨rfl, HB3.out⟩
set_option maxRecDepth 100000 in
theorem Next_yes (ad : Addr) (a m cm : Nat) (bs : List UInt8) (x0 x1 x2 : UInt8) (B : Nat) (w : World) (h7 : 7 ≤ m) (hm : m ≤ 10000) (hnc : m ≤ cm) (hmc : a + cm ≤ 9223372036854775807)
    (hr : Reads w B 1 (some ad) (a + m) (byteCells bs)) (hB : B ≤ w.heap.size) (e0 : bs[a]? = some x0) (e1 : bs[a + 1]? = some x1) (e2 : bs[a + 2]? = some x2) (q : Nat) (hq : 256 * x0.toNat + x1.toNat = q) (hp : q ≤ 200) (hm' : q + 7 ≤ m) (hk1 : 1 ≤ (x2.toNat : Int)) (hk3 : (x2.toNat : Int) ≤ 3) (hs : (sealB step8 (((bs.drop a).take (q + 7)).take (q + 3)) == (bs.drop a).take (q + 7)) = true) :
    Calls Tryz.prog 50 #[.slice (some ad) (a + m) (a + cm), .int .i64 (a : Int)] w fun e w' => ∃ A', e = .returned (.tuple #[.int .i64 0, .int .i64 (x2.toNat : Int), .slice A' q q, .int .i64 ((q : Int) + 7)]) ∧ Reads w' B 1 A' q (byteCells ((bs.drop (a + 3)).take q)) ∧ Below w.heap.size w w' := by
  obtain ⟨ad', had⟩ : ∃ ad', ad.add a = ad' := ⟨_, rfl⟩
  obtain ⟨ad1, _, E1, _, hx0, c0⟩ := hr.byte_at (k := a) (by omega)
  cases E1
  rw [e0] at hx0; cases hx0
  obtain ⟨ad1, _, E1, _, hx1, c1⟩ := hr.byte_at (k := a + 1) (by omega)
  cases E1
  rw [e1] at hx1; cases hx1
  obtain ⟨ad1, _, E1, _, hx2, c2⟩ := hr.byte_at (k := a + 2) (by omega)
  cases E1
  rw [e2] at hx2; cases hx2
  rw [had] at c0
  rw [← add_of_add, had] at c1 c2
  have HR := Lib.hid hr
  clear hr e0 e1 e2
  have c1' : w.cell? ⟨ad'.block, ad'.off + 1, none⟩ = some (.int .u8 (x1.toNat : Int)) := c1
  have c2' : w.cell? ⟨ad'.block, ad'.off + 2, none⟩ = some (.int .u8 (x2.toNat : Int)) := c2
  clear c1 c2
  have hor := two_bytes x0 x1
  rw [hq] at hor
  have hx0 := x0.toNat_lt
  have hx1 := x1.toNat_lt
  have hx2 := x2.toNat_lt
  have hql : q < 65536 := by omega
  have HQ := Lib.hid hq
  clear hq
  have hcm : ¬ cm = 0 := by omega
  have hd : decide (((a + m : Nat) : Int) < (a : Int)) = false := by simp; omega
  have hm0 : ((m : Int) == 0) = false := by rw [beq_eq_false_iff_ne]; omega
  have hm7 : decide ((m : Int) < 7) = false := by simp; omega
  have HS := Lib.hid hs; clear hs
  have h2 : decide ((200 : Int) < (q : Int)) = false := by simp; omega
  have h3 : decide ((m : Int) < (q : Int) + 7) = false := by simp; omega
  have HR2 := Lib.hid (show Reads w B 1 (some ad') (q + 7) (byteCells ((bs.drop a).take (q + 7))) from by
    have h := (HR.out.sufB (k := a) (cap := a + cm) (by omega) (by omega)).preB (k := q + 7) (by omega)
    rw [if_neg (by omega), Option.map_some, had] at h
    exact h)
  have hcq : q + 7 ≤ cm := by omega
  have hcq' : (q : Int) + 7 ≤ (cm : Int) := by omega
  have hq0 : (0 : Int) ≤ (q : Int) + 7 := by omega
  have hq1 : IntKind.i64.wrap ((q : Int) + 7) = (q : Int) + 7 := IntWalk.i64_in _ (by omega)
  have hq2 : ((q : Int) + 7).toNat = q + 7 := by omega
  go_enter Tryz.func50, Tryz.ntmps50
  go_wp2
  go_quiet (fail)
  go_wp2_with fail
  refine (kindly_yes _ _ hk1 hk3).mono ?_
  rintro e w1 ⟨rfl, rfl⟩
  go_wp2_with fail
  generalize hW : w.drewN _ = w0
  have HB0 := Lib.hid (show Below w.heap.size w w0 from by rw [← hW]; exact below_drewN (Below.refl _ _) _)
  clear hW
  refine wp_region_noPanic ?_
  refine wp_region_held_drew (S := fun W => Below w.heap.size w W) (by kernel_rfl) HB0.out.drew (fun hHeld => ?_)
  refine takeH 1 (v := ?v1u9) rfl (by kernel_rfl) (by kernel_rfl) (by kernel_rfl) rfl (fun _ _ _ h => h) (Or.inl ⟨by rfl, ?y1u9⟩) hHeld ?r1u9
  case y1u9 => (intro W hSW; (try dsimp only at hSW); go_simp; try with_reducible rfl)
  simp only [Act.put, sI, sZ, sS]
  refine takeH 2 (v := ?v2u10) rfl (by kernel_rfl) (by kernel_rfl) (by kernel_rfl) rfl (fun _ _ _ h => h) (Or.inl ⟨by rfl, ?y2u10⟩) hHeld ?r2u10
  case y2u10 => (intro W hSW; (try dsimp only at hSW); go_simp; try with_reducible rfl)
  simp only [Act.put, sI, sZ, sS]
  refine takeH 3 (v := ?v3u11) rfl (by kernel_rfl) (by kernel_rfl) (by kernel_rfl) rfl (fun _ _ _ h => h) (Or.inl ⟨by rfl, ?y3u11⟩) hHeld ?r3u11
  case y3u11 => (intro W hSW; (try dsimp only at hSW); go_simp; try with_reducible rfl)
  simp only [Act.put, sI, sZ, sS]
  refine wpAnyH_ready (rs := [0]) (by kernel_rfl) (by simp) ?_
  refine AllReadyH.cons rfl (fun K hK => ?_) AllReadyH.nil
  go_simp
  refine (Table_c _).mono ?_
  rintro e w2 ⟨rfl, hb2⟩
  refine hK.out _ _ (hHeld.trans (hb2.mono (Below.size hHeld))) (fun hHeld => ?_)
  clear hK K
  try simp only [Act.put, sI, sZ, sS]
  refine wpAnyH_ready (rs := [4]) (by kernel_rfl) (by simp) ?_
  refine AllReadyH.cons rfl (fun K hK => ?_) AllReadyH.nil
  go_simp
  refine (Open_true step8 tab8 (some ad') (q + 7) (q + 3) cm B ((bs.drop a).take (q + 7)) _ rfl (HR2.out.below (Below.mono hHeld hB)) (Nat.le_trans hB (Below.size hHeld)) hcq (by omega) (by omega) HS.out).mono ?_
  rintro e w3 ⟨rfl, hb3⟩
  refine hK.out _ _ (hHeld.trans (hb3.mono (Below.size hHeld))) (fun hHeld => ?_)
  clear hK K
  try simp only [Act.put, sI, sZ, sS]
  refine takeH 5 (v := ?v5u12) rfl (by kernel_rfl) (by kernel_rfl) (by kernel_rfl) rfl (fun _ _ _ h => h) (Or.inl ⟨by rfl, ?y5u12⟩) hHeld ?r5u12
  case y5u12 => (intro W hSW; (try dsimp only at hSW); go_simp; try with_reducible rfl)
  simp only [Act.put, sI, sZ, sS]
  refine takeH 6 (v := ?v6u13) rfl (by kernel_rfl) (by kernel_rfl) (by kernel_rfl) rfl (fun _ _ _ h => h) (Or.inl ⟨by rfl, ?y6u13⟩) hHeld ?r6u13
  case y6u13 => (intro W hSW; (try dsimp only at hSW); go_simp; try with_reducible rfl)
  simp only [Act.put, sI, sZ, sS]
  refine takeH 7 (v := ?v7u14) rfl (by kernel_rfl) (by kernel_rfl) (by kernel_rfl) rfl (fun _ _ _ h => h) (Or.inl ⟨by rfl, ?y7u14⟩) hHeld ?r7u14
  case y7u14 => (intro W hSW; (try dsimp only at hSW); go_simp; try with_reducible rfl)
  simp only [Act.put, sI, sZ, sS]
  refine takeH 8 (v := ?v8u15) rfl (by kernel_rfl) (by kernel_rfl) (by kernel_rfl) rfl (fun _ _ _ h => h) (Or.inl ⟨by rfl, ?y8u15⟩) hHeld ?r8u15
  case y8u15 => (intro W hSW; (try dsimp only at hSW); go_simp; try with_reducible rfl)
  simp only [Act.put, sI, sZ, sS]
  refine takeH 9 (v := ?v9u16) rfl (by kernel_rfl) (by kernel_rfl) (by kernel_rfl) rfl (fun _ _ _ h => h) (Or.inl ⟨by rfl, ?y9u16⟩) hHeld ?r9u16
  case y9u16 => (intro W hSW; (try dsimp only at hSW); go_simp; try with_reducible rfl)
  simp only [Act.put, sI, sZ, sS]
  refine wpAnyH_done (by kernel_rfl) ?_ _
  refine NoPanic.normal ?_
  have HB3 := Lib.hid (show Below w.heap.size w w3 from hHeld)
  clear hHeld hb2 hb3
  have HR3 := Lib.hid (show Reads w3 B 1 (if q = 0 then some ad' else some (ad'.add 3)) q (byteCells ((bs.drop (a + 3)).take q)) from by
    have h := ((HR2.out.below (HB3.out.mono hB)).preB (k := q + 3) (by omega)).sufB (k := 3) (cap := q + 3) (by omega) (by omega)
    rw [List.take_take, Nat.min_eq_left (by omega), ← List.drop_drop] at *
    rw [show q + 3 - 3 = q from by omega] at h
    rw [show (List.take q (List.drop 3 (List.drop a bs))) = List.drop 3 (List.take (q + 3) (List.drop a bs)) from by rw [List.drop_take]; congr 1]
    by_cases h0 : q = 0
    · rw [if_pos h0]; rw [if_pos (by omega)] at h; exact h
    · rw [if_neg h0]; rw [if_neg (by omega)] at h; exact h)
  by_cases h0 : q = 0
  · rw [if_pos h0] at HR3
    go_wp2
    go_quiet (fail)
    go_wp2
    ((try simp only [Exit.inBlock, Exit.then]); refine bodyPost_ret (results_tmp4 rfl _ _ _) rfl ?_)
    exact ⟨some ad', by rw [h0]; rfl, HR3.out, below_drewN HB3.out _⟩
  · rw [if_neg h0] at HR3
    go_wp2
    go_quiet (fail)
    go_wp2
    ((try simp only [Exit.inBlock, Exit.then]); refine bodyPost_ret (results_tmp4 rfl _ _ _) rfl ?_)
    exact ⟨_, rfl, HR3.out, below_drewN HB3.out _⟩
end
section
set_option maxRecDepth 100000
open Go.RowKit
def nextR : List UInt8 → Nat ⊕ (UInt8 × List UInt8)
  | [] => .inl 1
  | [_] => .inl 2
  | [_, _] => .inl 2
  | x0 :: x1 :: x2 :: t =>
    if t.length < 4 then .inl 2
    else if 200 < 256 * x0.toNat + x1.toNat then .inl 3
    else if t.length < 256 * x0.toNat + x1.toNat + 4 then .inl 2
    else if (x2.toNat : Int) < 1 ∨ 3 < (x2.toNat : Int) then .inl 3
    else if frameB (x2.toNat : Int) (t.take (256 * x0.toNat + x1.toNat)) == (x0 :: x1 :: x2 :: t).take (256 * x0.toNat + x1.toNat + 7) then .inr (x2, t.take (256 * x0.toNat + x1.toNat)) else .inl 3
def nextF (bs : List UInt8) (at_ : Int) : Nat ⊕ (UInt8 × List UInt8) := if at_ < 0 ∨ (bs.length : Int) < at_ then .inl 3 else nextR (bs.drop at_.toNat)
theorem nextR_cons (x0 x1 x2 : UInt8) (t : List UInt8) : nextR (x0 :: x1 :: x2 :: t) = if t.length < 4 then .inl 2
    else if 200 < 256 * x0.toNat + x1.toNat then .inl 3
    else if t.length < 256 * x0.toNat + x1.toNat + 4 then .inl 2
    else if (x2.toNat : Int) < 1 ∨ 3 < (x2.toNat : Int) then .inl 3
    else if frameB (x2.toNat : Int) (t.take (256 * x0.toNat + x1.toNat)) == (x0 :: x1 :: x2 :: t).take (256 * x0.toNat + x1.toNat + 7) then .inr (x2, t.take (256 * x0.toNat + x1.toNat)) else .inl 3 := rfl
theorem three_of (r : List UInt8) (h : 3 ≤ r.length) : ∃ x0 x1 x2 t, r = x0 :: x1 :: x2 :: t := by
  match r, h with
  | x0 :: x1 :: x2 :: t, _ => exact ⟨x0, x1, x2, t, rfl⟩
theorem frameB_head (x0 x1 x2 : UInt8) (t : List UInt8) (q : Nat) (hq : 256 * x0.toNat + x1.toNat = q) (hl : q ≤ t.length) : frameB (x2.toNat : Int) (t.take q) = sealB step8 (((x0 :: x1 :: x2 :: t).take (q + 7)).take (q + 3)) := by
  unfold frameB headB
  congr 1
  rw [List.take_take, Nat.min_eq_left (by omega), List.length_take, Nat.min_eq_left hl]
  have h0 := x0.toNat_lt
  have h1 := x1.toNat_lt
  have e0 : UInt8.ofNat (q / 256) = x0 := by
    apply UInt8.toNat_inj.1; simp; omega
  have e1 : UInt8.ofNat (q % 256) = x1 := by
    apply UInt8.toNat_inj.1; simp; omega
  have e2 : UInt8.ofNat (x2.toNat : Int).toNat = x2 := by simp
  rw [e0, e1, e2]
  rfl
theorem nextR_frame (k : Int) (p q : List UInt8) (h1 : 1 ≤ k) (h3 : k ≤ 3) (hp : p.length ≤ 200) : nextR (frameB k p ++ q) = .inr (UInt8.ofNat k.toNat, p) := by
  have e : frameB k p ++ q = UInt8.ofNat (p.length / 256) :: UInt8.ofNat (p.length % 256) :: UInt8.ofNat k.toNat :: (p ++ (le4B (sumT step8 0 (natB (headB p.length k ++ p))) ++ q)) := by
    unfold frameB sealB headB
    simp
  have hk : ((UInt8.ofNat k.toNat).toNat : Int) = k := by rw [byte_ofNat _ (by omega)]; omega
  have hq : 256 * (UInt8.ofNat (p.length / 256)).toNat + (UInt8.ofNat (p.length % 256)).toNat = p.length := by simp; omega
  have hl : (p ++ (le4B (sumT step8 0 (natB (headB p.length k ++ p))) ++ q)).length = p.length + 4 + q.length := by simp [le4B_length]; omega
  have ht : (p ++ (le4B (sumT step8 0 (natB (headB p.length k ++ p))) ++ q)).take p.length = p := by simp
  have hf : (frameB k p ++ q).take (p.length + 7) = frameB k p := by rw [← frameB_length k p]; simp
  rw [e] at hf ⊢
  rw [nextR_cons, hq, if_neg (by omega), if_neg (by omega), if_neg (by omega), hk, if_neg (by omega), ht, hf, if_pos (by simp)]
theorem nextR_whole (r : List UInt8) (x2 : UInt8) (p : List UInt8) (h : nextR r = .inr (x2, p)) : 1 ≤ (x2.toNat : Int) ∧ (x2.toNat : Int) ≤ 3 ∧ p.length ≤ 200 ∧ p.length + 7 ≤ r.length ∧ r.take (p.length + 7) = frameB (x2.toNat : Int) p := by
  unfold nextR at h
  split at h
  · cases h
  · cases h
  · cases h
  · split at h
    · cases h
    · split at h
      · cases h
      · split at h
        · cases h
        · split at h
          · cases h
          · split at h
            · rename_i hb
              simp only [Sum.inr.injEq, Prod.mk.injEq] at h
              obtain ⟨rfl, rfl⟩ := h
              rename_i x0 x1 x2 t h1 h2 h3 h4
              have hl : (t.take (256 * x0.toNat + x1.toNat)).length = 256 * x0.toNat + x1.toNat := by rw [List.length_take, Nat.min_eq_left (by omega)]
              rw [hl]
              refine ⟨by omega, by omega, by omega, by simp; omega, ?_⟩
              rw [beq_iff_eq] at hb
              exact hb.symm
            · cases h
theorem nextR_not (r : List UInt8) (k : Nat) (h : nextR r = .inl k) : 1 ≤ k ∧ k ≤ 3 ∧ (k = 1 ↔ r = []) := by
  unfold nextR at h
  split at h
  · cases h; simp
  · cases h; simp
  · cases h; simp
  · split at h
    · cases h; simp
    · split at h
      · cases h; simp
      · split at h
        · cases h; simp
        · split at h
          · cases h; simp
          · split at h
            · cases h
            · cases h; simp
theorem nextF_at (bs : List UInt8) (a : Nat) (h : a ≤ bs.length) : nextF bs (a : Int) = nextR (bs.drop a) := by
  unfold nextF; rw [if_neg (by omega), Int.toNat_natCast]
theorem nextF_not (bs : List UInt8) (at_ : Int) (k : Nat) (h : nextF bs at_ = .inl k) : 1 ≤ k ∧ k ≤ 3 ∧ (k = 1 ↔ at_ = (bs.length : Int)) := by
  unfold nextF at h
  split at h
  · cases h
    refine ⟨by omega, by omega, by omega⟩
  · obtain ⟨h1, h2, h3⟩ := nextR_not _ _ h
    refine ⟨h1, h2, ?_⟩
    rw [h3, List.drop_eq_nil_iff]
    omega
theorem nextF_whole (bs : List UInt8) (at_ : Int) (x2 : UInt8) (p : List UInt8) (h : nextF bs at_ = .inr (x2, p)) : 0 ≤ at_ ∧ at_ + p.length + 7 ≤ bs.length ∧ 1 ≤ (x2.toNat : Int) ∧ (x2.toNat : Int) ≤ 3 ∧ p.length ≤ 200 ∧ (bs.drop at_.toNat).take (p.length + 7) = frameB (x2.toNat : Int) p := by
  unfold nextF at h
  split at h
  · cases h
  · obtain ⟨h1, h2, h3, h4, h5⟩ := nextR_whole _ _ _ h
    rw [List.length_drop] at h4
    exact ⟨by omega, by omega, h1, h2, h3, h5⟩
def NextOk (s : Nat ⊕ (UInt8 × List UInt8)) (B : Nat) (w : World) (e : Ending) (w' : World) : Prop :=
  Below w.heap.size w w' ∧ match s with
  | .inl k => e = .returned (.tuple #[.int .i64 (k : Int), .int .i64 0, .slice none 0 0, .int .i64 0])
  | .inr (x, p) => ∃ A', e = .returned (.tuple #[.int .i64 0, .int .i64 (x.toNat : Int), .slice A' p.length p.length, .int .i64 ((p.length : Int) + 7)]) ∧ Reads w' B 1 A' p.length (byteCells p)
theorem Next_c (A : Option Addr) (n c : Nat) (at_ : Int) (bs : List UInt8) (B : Nat) (w : World) (hr : Reads w B 1 A n (byteCells bs)) (hB : B ≤ w.heap.size) (hnc : n ≤ c) (hcm : c ≤ 9223372036854775807) (hn : n ≤ 10000) :
    Calls Tryz.prog 50 #[.slice A n c, .int .i64 at_] w (NextOk (nextF bs at_) B w) := by
  have hl := hr.lenB
  by_cases h0 : at_ < 0 ∨ (n : Int) < at_
  · rw [show nextF bs at_ = .inl 3 from by unfold nextF; rw [if_pos (by omega)]]
    refine (Next_out A n c at_ w h0).mono ?_
    rintro e w' ⟨rfl, rfl⟩
    exact ⟨Below.refl _ _, rfl⟩
  · obtain ⟨a, rfl⟩ : ∃ a : Nat, at_ = (a : Int) := ⟨at_.toNat, by omega⟩
    obtain ⟨m, rfl⟩ : ∃ m, n = a + m := ⟨n - a, by omega⟩
    obtain ⟨cm, rfl⟩ : ∃ cm, c = a + cm := ⟨c - a, by omega⟩
    rw [nextF_at bs a (by omega)]
    have hlr : (bs.drop a).length = m := by rw [List.length_drop]; omega
    by_cases hm0 : m = 0
    · subst hm0
      rw [show bs.drop a = [] from List.eq_nil_of_length_eq_zero hlr]
      refine (Next_end A a (a + cm) w (by omega)).mono ?_
      rintro e w' ⟨rfl, rfl⟩
      exact ⟨Below.refl _ _, rfl⟩
    · by_cases hm7 : m < 7
      · have e : nextR (bs.drop a) = .inl 2 := by
          generalize bs.drop a = r at *
          match r, hlr with
          | [], h => simp at h; omega
          | [_], _ => rfl
          | [_, _], _ => rfl
          | x0 :: x1 :: x2 :: t, h => rw [nextR_cons, if_pos (by simp at h; omega)]
        rw [e]
        refine (Next_few A a m cm w (by omega) hm7 (by omega) hcm).mono ?_
        rintro e w' ⟨rfl, rfl⟩
        exact ⟨Below.refl _ _, rfl⟩
      · obtain ⟨ad, rfl, _⟩ := hr.2 (by omega)
        obtain ⟨x0, x1, x2, t, ht⟩ := three_of (bs.drop a) (by omega)
        have hg : ∀ j, bs[a + j]? = (bs.drop a)[j]? := fun j => by rw [List.getElem?_drop]
        have e0 : bs[a]? = some x0 := by have := hg 0; rw [ht] at this; simpa using this
        have e1 : bs[a + 1]? = some x1 := by rw [hg 1, ht]; rfl
        have e2 : bs[a + 2]? = some x2 := by rw [hg 2, ht]; rfl
        have hd3 : bs.drop (a + 3) = t := by rw [← List.drop_drop, ht]; rfl
        have htl : t.length + 3 = m := by rw [ht] at hlr; simpa using hlr
        obtain ⟨q, hq⟩ : ∃ q, 256 * x0.toNat + x1.toNat = q := ⟨_, rfl⟩
        have e : nextR (bs.drop a) = if t.length < 4 then .inl 2 else if 200 < q then .inl 3 else if t.length < q + 4 then .inl 2 else if (x2.toNat : Int) < 1 ∨ 3 < (x2.toNat : Int) then .inl 3 else if frameB (x2.toNat : Int) (t.take q) == (bs.drop a).take (q + 7) then .inr (x2, t.take q) else .inl 3 := by
          rw [ht, ← hq]; rfl
        rw [e, if_neg (by omega)]
        clear e
        by_cases h2 : 200 < q
        · rw [if_pos h2]
          refine (Next_big ad a m cm bs x0 x1 x2 B w (by omega) (by omega) (by omega) hcm hr hB e0 e1 e2 q hq h2).mono ?_
          rintro e w' ⟨rfl, hb⟩
          exact ⟨hb, rfl⟩
        · rw [if_neg h2]
          by_cases h3 : t.length < q + 4
          · rw [if_pos h3]
            refine (Next_torn ad a m cm bs x0 x1 x2 B w (by omega) (by omega) (by omega) hcm hr hB e0 e1 e2 q hq (by omega) (by omega)).mono ?_
            rintro e w' ⟨rfl, hb⟩
            exact ⟨hb, rfl⟩
          · rw [if_neg h3]
            by_cases hk : (x2.toNat : Int) < 1 ∨ 3 < (x2.toNat : Int)
            · rw [if_pos hk]
              refine (Next_kind ad a m cm bs x0 x1 x2 B w (by omega) (by omega) (by omega) hcm hr hB e0 e1 e2 q hq (by omega) (by omega) hk).mono ?_
              rintro e w' ⟨rfl, hb⟩
              exact ⟨hb, rfl⟩
            · rw [if_neg hk]
              have hf := frameB_head x0 x1 x2 t q hq (by omega)
              rw [← ht] at hf
              by_cases hs : frameB (x2.toNat : Int) (t.take q) == (bs.drop a).take (q + 7)
              · rw [if_pos hs]
                rw [hf] at hs
                refine (Next_yes ad a m cm bs x0 x1 x2 B w (by omega) (by omega) (by omega) hcm hr hB e0 e1 e2 q hq (by omega) (by omega) (by omega) (by omega) hs).mono ?_
                rintro e w' ⟨A', rfl, hR, hb⟩
                rw [hd3] at hR
                have hlq : (t.take q).length = q := by rw [List.length_take, Nat.min_eq_left (by omega)]
                refine ⟨hb, A', by rw [hlq], by rw [hlq]; exact hR⟩
              · rw [if_neg hs]
                rw [hf, Bool.not_eq_true] at hs
                refine (Next_bad ad a m cm bs x0 x1 x2 B w (by omega) (by omega) (by omega) hcm hr hB e0 e1 e2 q hq (by omega) (by omega) (by omega) (by omega) hs).mono ?_
                rintro e w' ⟨rfl, hb⟩
                exact ⟨hb, rfl⟩
end
section
set_option maxRecDepth 100000
open Go.RowKit
theorem recS_keeps {s s' : Scn} {p : List UInt8} (h : recS s p = some s') : s'.size = s.size ∧ s'.evs.length = s.evs.length + 1 ∧ s'.num = s.num ∧ s'.sealed = s.sealed ∧ rightC s'.c = true := by
  unfold recS at h
  split at h
  · rename_i h0
    obtain ⟨h1, h2, h3, h4, h5, h6⟩ := decC_ctx h0
    injection h with h
    subst h
    exact ⟨rfl, by simp, rfl, rfl, by rw [h6]; exact nextC_right h4⟩
  · cases h
theorem headS_size {s s' : Scn} {p : List UInt8} (h : headS s p = some s') : s'.size = s.size ∧ s'.sealed = s.sealed ∧ rightC s'.c = true := by
  unfold headS at h
  split at h
  · simp only at h
    split at h
    · cases h
    · rename_i hn
      injection h with h
      subst h
      exact ⟨rfl, rfl, by
        rw [← Bool.not_eq_false]
        exact fun hc => hn (.inr (.inr (.inr hc)))⟩
  · cases h
theorem takeS_keeps {s s' : Scn} {kind : Int} {p : List UInt8} (h : takeS s kind p = some s') (hr : s.num ≠ 0 → rightC s.c = true) : s'.size = s.size ∧ s'.evs.length ≤ s.evs.length + 1 ∧ (s'.num ≠ 0 → rightC s'.c = true) := by
  unfold takeS at h
  split at h
  · cases h
  split at h
  · split at h
    · have h1 := headS_size h
      have h2 := headS_keeps h
      exact ⟨h1.1, by rw [h2.1]; omega, fun _ => h1.2.2⟩
    · cases h
  rename_i hn
  split at h
  · have h1 := recS_keeps h
    exact ⟨h1.1, by omega, fun _ => h1.2.2.2.2⟩
  split at h
  · split at h
    · injection h with h
      subst h
      exact ⟨rfl, by simp, hr⟩
    · cases h
  · cases h
def scanF (bs : List UInt8) (s : Scn) : Scn × Int :=
  match h : nextF bs s.size with
  | .inl what => (s, endsS (what : Int) s.sealed)
  | .inr (x, p) => match takeS s (x.toNat : Int) p with
    | none => (s, endsS 0 s.sealed)
    | some s' => scanF bs { s' with size := s.size + ((p.length : Int) + 7) }
termination_by ((bs.length : Int) + 1 - s.size).toNat
decreasing_by
  have h1 := nextF_whole _ _ _ _ h
  omega
theorem scanF_end {bs : List UInt8} {s : Scn} {what : Nat} (h : nextF bs s.size = .inl what) : scanF bs s = (s, endsS (what : Int) s.sealed) := by
  rw [scanF]
  split
  · rename_i w h1; rw [h] at h1; injection h1 with h1; rw [h1]
  · rename_i x p h1; rw [h] at h1; cases h1
theorem scanF_not {bs : List UInt8} {s : Scn} {x : UInt8} {p : List UInt8} (h : nextF bs s.size = .inr (x, p)) (h2 : takeS s (x.toNat : Int) p = none) : scanF bs s = (s, endsS 0 s.sealed) := by
  rw [scanF]
  split
  · rename_i w h1; rw [h] at h1; cases h1
  · rename_i x' p' h1; rw [h] at h1; injection h1 with h1; injection h1 with h1 h3; subst h1 h3; rw [h2]
theorem scanF_on {bs : List UInt8} {s s' : Scn} {x : UInt8} {p : List UInt8} (h : nextF bs s.size = .inr (x, p)) (h2 : takeS s (x.toNat : Int) p = some s') : scanF bs s = scanF bs { s' with size := s.size + ((p.length : Int) + 7) } := by
  rw [scanF]
  split
  · rename_i w h1; rw [h] at h1; cases h1
  · rename_i x' p' h1; rw [h] at h1; injection h1 with h1; injection h1 with h1 h3; subst h1 h3; rw [h2]
def scn0 : Scn := ⟨0, 0, 0, [], ⟨0, 0, []⟩, 0, false⟩
theorem res_seg {W : World} {g : Nat} {x0 x1 x2 x3 x4 x5 x6 x7 x8 x9 : Value} (h : Blk W g 54 #[x0, x1, x2, x3, x4, x5, x6, x7, x8, x9]) (tmps : Array Value) (ht : tmps[2]?.getD undef = .pointer (some ⟨g, 0, none⟩)) : (results Tryz.f14 tmps).run Tryz.prog W = .ok (.agg #[x0, x1, x2, x3, x4, x5, x6, x7, x8, x9]) W := by
  have c0 : W.cell? ⟨g, 0, none⟩ = some x0 := h.cell 0
  have c1 : W.cell? ⟨g, 1, none⟩ = some x1 := h.cell 1
  have c2 : W.cell? ⟨g, 2, none⟩ = some x2 := h.cell 2
  have c3 : W.cell? ⟨g, 3, none⟩ = some x3 := h.cell 3
  have c4 : W.cell? ⟨g, 4, none⟩ = some x4 := h.cell 4
  have c5 : W.cell? ⟨g, 5, none⟩ = some x5 := h.cell 5
  have c6 : W.cell? ⟨g, 6, none⟩ = some x6 := h.cell 6
  have c7 : W.cell? ⟨g, 7, none⟩ = some x7 := h.cell 7
  have c8 : W.cell? ⟨g, 8, none⟩ = some x8 := h.cell 8
  have c9 : W.cell? ⟨g, 9, none⟩ = some x9 := h.cell 9
  simp [results, Tryz.results14, go_sem, ht, c0, c1, c2, c3, c4, c5, c6, c7, c8, c9]
end
section
set_option maxRecDepth 100000
open Go.RowKit
theorem own_rebase {B : Nat} {w : World} {e : TypeId} {size n : Nat} {v : Value} {xs : List Value} (h : w.ownsRow 0 e size v n xs) (hb : ∀ g, v.ownBlock = some g → B ≤ g) : w.ownsRow B e size v n xs := by
  rcases h with ⟨h1, h2 | ⟨g, cap, cur, h2, h3, h4, h5⟩⟩
  · exact ⟨h1, .inl h2⟩
  · subst h2
    exact ⟨h1, .inr ⟨g, cap, cur, rfl, hb g rfl, h4, h5⟩⟩
theorem sub3 {a b c a' b' : Itm} {X : List Nat} : ∀ t ∈ Exs [a', b', c] ++ X, t ∈ Exs [b', a'] ++ (Exs [a, b, c] ++ X) := by
  intro t hm
  rcases List.mem_append.1 hm with hm | hm
  · obtain ⟨z, hz, e⟩ := mem_exs.1 hm
    simp only [List.mem_cons, List.not_mem_nil, or_false] at hz
    rcases hz with rfl | rfl | rfl
    · exact List.mem_append_left _ (mem_exs.2 ⟨_, by simp, e⟩)
    · exact List.mem_append_left _ (mem_exs.2 ⟨_, by simp, e⟩)
    · exact List.mem_append_right _ (List.mem_append_left _ (mem_exs.2 ⟨z, by simp, e⟩))
  · exact List.mem_append_right _ (List.mem_append_right _ hm)
theorem Held.set_again {w0 W : World} {M X0 : List Nat} {L : List Itm} {F : List Fact} {i g : Nat} {t : TypeId} {cs : Array Value} (h : Held w0 M X0 W (L.set i (.box g t cs)) F) (hlt : i < L.length) (o : Nat) (u : Value) : Held w0 M X0 (W.setCell ⟨g, o, none⟩ u) (L.set i (.box g t (cs.setIfInBounds o u))) F := by
  have := h.set_ i (List.getElem?_set_self hlt) o u
  rwa [List.set_set] at this
theorem Held.set10 {w0 W : World} {M X0 : List Nat} {L : List Itm} {F : List Fact} (h : Held w0 M X0 W L F) (i : Nat) {g : Nat} {t : TypeId} {b0 b1 b2 b3 b4 b5 b6 b7 b8 b9 : Value} (hi : L[i]? = some (.box g t #[b0, b1, b2, b3, b4, b5, b6, b7, b8, b9])) (a0 a1 a2 a3 a4 a5 a6 a7 a8 a9 : Value) : Held w0 M X0 ((((((((((W.setCell ⟨g, 0, none⟩ a0).setCell ⟨g, 1, none⟩ a1).setCell ⟨g, 2, none⟩ a2).setCell ⟨g, 3, none⟩ a3).setCell ⟨g, 4, none⟩ a4).setCell ⟨g, 5, none⟩ a5).setCell ⟨g, 6, none⟩ a6).setCell ⟨g, 7, none⟩ a7).setCell ⟨g, 8, none⟩ a8).setCell ⟨g, 9, none⟩ a9) (L.set i (.box g t #[a0, a1, a2, a3, a4, a5, a6, a7, a8, a9])) F := by
  have hlt := (List.getElem?_eq_some_iff.1 hi).1
  have h1 : Held w0 M X0 (W.setCell ⟨g, 0, none⟩ a0) (L.set i (.box g t #[a0, b1, b2, b3, b4, b5, b6, b7, b8, b9])) F := h.set_ i hi 0 a0
  have h2 : Held w0 M X0 ((W.setCell ⟨g, 0, none⟩ a0).setCell ⟨g, 1, none⟩ a1) (L.set i (.box g t #[a0, a1, b2, b3, b4, b5, b6, b7, b8, b9])) F := h1.set_again hlt 1 a1
  have h3 : Held w0 M X0 (((W.setCell ⟨g, 0, none⟩ a0).setCell ⟨g, 1, none⟩ a1).setCell ⟨g, 2, none⟩ a2) (L.set i (.box g t #[a0, a1, a2, b3, b4, b5, b6, b7, b8, b9])) F := h2.set_again hlt 2 a2
  have h4 : Held w0 M X0 ((((W.setCell ⟨g, 0, none⟩ a0).setCell ⟨g, 1, none⟩ a1).setCell ⟨g, 2, none⟩ a2).setCell ⟨g, 3, none⟩ a3) (L.set i (.box g t #[a0, a1, a2, a3, b4, b5, b6, b7, b8, b9])) F := h3.set_again hlt 3 a3
  have h5 : Held w0 M X0 (((((W.setCell ⟨g, 0, none⟩ a0).setCell ⟨g, 1, none⟩ a1).setCell ⟨g, 2, none⟩ a2).setCell ⟨g, 3, none⟩ a3).setCell ⟨g, 4, none⟩ a4) (L.set i (.box g t #[a0, a1, a2, a3, a4, b5, b6, b7, b8, b9])) F := h4.set_again hlt 4 a4
  have h6 : Held w0 M X0 ((((((W.setCell ⟨g, 0, none⟩ a0).setCell ⟨g, 1, none⟩ a1).setCell ⟨g, 2, none⟩ a2).setCell ⟨g, 3, none⟩ a3).setCell ⟨g, 4, none⟩ a4).setCell ⟨g, 5, none⟩ a5) (L.set i (.box g t #[a0, a1, a2, a3, a4, a5, b6, b7, b8, b9])) F := h5.set_again hlt 5 a5
  have h7 : Held w0 M X0 (((((((W.setCell ⟨g, 0, none⟩ a0).setCell ⟨g, 1, none⟩ a1).setCell ⟨g, 2, none⟩ a2).setCell ⟨g, 3, none⟩ a3).setCell ⟨g, 4, none⟩ a4).setCell ⟨g, 5, none⟩ a5).setCell ⟨g, 6, none⟩ a6) (L.set i (.box g t #[a0, a1, a2, a3, a4, a5, a6, b7, b8, b9])) F := h6.set_again hlt 6 a6
  have h8 : Held w0 M X0 ((((((((W.setCell ⟨g, 0, none⟩ a0).setCell ⟨g, 1, none⟩ a1).setCell ⟨g, 2, none⟩ a2).setCell ⟨g, 3, none⟩ a3).setCell ⟨g, 4, none⟩ a4).setCell ⟨g, 5, none⟩ a5).setCell ⟨g, 6, none⟩ a6).setCell ⟨g, 7, none⟩ a7) (L.set i (.box g t #[a0, a1, a2, a3, a4, a5, a6, a7, b8, b9])) F := h7.set_again hlt 7 a7
  have h9 : Held w0 M X0 (((((((((W.setCell ⟨g, 0, none⟩ a0).setCell ⟨g, 1, none⟩ a1).setCell ⟨g, 2, none⟩ a2).setCell ⟨g, 3, none⟩ a3).setCell ⟨g, 4, none⟩ a4).setCell ⟨g, 5, none⟩ a5).setCell ⟨g, 6, none⟩ a6).setCell ⟨g, 7, none⟩ a7).setCell ⟨g, 8, none⟩ a8) (L.set i (.box g t #[a0, a1, a2, a3, a4, a5, a6, a7, a8, b9])) F := h8.set_again hlt 8 a8
  have h10 : Held w0 M X0 ((((((((((W.setCell ⟨g, 0, none⟩ a0).setCell ⟨g, 1, none⟩ a1).setCell ⟨g, 2, none⟩ a2).setCell ⟨g, 3, none⟩ a3).setCell ⟨g, 4, none⟩ a4).setCell ⟨g, 5, none⟩ a5).setCell ⟨g, 6, none⟩ a6).setCell ⟨g, 7, none⟩ a7).setCell ⟨g, 8, none⟩ a8).setCell ⟨g, 9, none⟩ a9) (L.set i (.box g t #[a0, a1, a2, a3, a4, a5, a6, a7, a8, a9])) F := h9.set_again hlt 9 a9
  exact h10
abbrev segA (s : Scn) (ends : Int) (ve : Value) (An : Option Addr) (nn cn : Nat) : Array Value := #[.int .i64 s.num, .int .i64 s.bq, .int .i64 s.ba, .slice none 0 0, ve, .int .i64 s.c.q, .int .i64 s.c.a, .slice An nn cn, .int .i64 ends, .int .i64 s.size]
def SegPost (r : Scn × Int) (X : List Nat) (w : World) (e : Ending) (w' : World) : Prop :=
  Below w.heap.size w w' ∧ ∃ ve An nn cn, e = .returned (.agg (segA r.1 r.2 ve An nn cn)) ∧ w'.ownsRow w.heap.size 44 7 ve r.1.evs.length (evCells r.1.evs) ∧ Sl nameSh w' X An nn cn r.1.c.ns ∧ nn ≤ 1000 ∧ (∀ b ∈ X, ve.ownBlock ≠ some b)
set_option maxHeartbeats 2000000 in
theorem Read_s (A : Option Addr) (n c B : Nat) (bs : List UInt8) (X : List Nat) (w : World) (hX : XOk X w) (hr : Reads w B 1 A n (byteCells bs)) (hB : B ≤ w.heap.size) (hnc : n ≤ c) (hcm : c ≤ 9223372036854775807) (hn : n ≤ 10000) :
    Calls Tryz.prog 14 #[.slice A n c] w (SegPost (scanF bs scn0) X w) := by
  have HR := Lib.hid hr
  have HLB := Lib.hid hr.lenB
  clear hr
  have HS0 : ∀ R, scanF bs scn0 = R → Hid (R = scanF bs scn0) := fun _ h => h.symm
  generalize hR : scanF bs scn0 = R
  replace HS0 := HS0 _ hR
  clear hR
  have HK1 := Lib.hid (show Held w [] X ((w.alloc (.cells #[.int .i64 0, .int .i64 0, .int .i64 0, .slice none 0 0, .slice none 0 0, .int .i64 0, .int .i64 0, .slice none 0 0, .int .i64 0, .int .i64 0] 54)).alloc (.cells #[.int .i64 0, .int .i64 0, .int .i64 0, .slice none 0 0, .slice none 0 0, .int .i64 0, .int .i64 0, .slice none 0 0, .int .i64 0, .int .i64 0, .bool false] 115)) [.box (w.heap.size + 1) 115 #[.int .i64 0, .int .i64 0, .int .i64 0, .slice none 0 0, .slice none 0 0, .int .i64 0, .int .i64 0, .slice none 0 0, .int .i64 0, .int .i64 0, .bool false], .box (w.heap.size) 54 #[.int .i64 0, .int .i64 0, .int .i64 0, .slice none 0 0, .slice none 0 0, .int .i64 0, .int .i64 0, .slice none 0 0, .int .i64 0, .int .i64 0]] [] from (((Held.start w hX).alloc_at 54 #[.int .i64 0, .int .i64 0, .int .i64 0, .slice none 0 0, .slice none 0 0, .int .i64 0, .int .i64 0, .slice none 0 0, .int .i64 0, .int .i64 0] (w.heap.size) (by simp)).alloc_at 115 #[.int .i64 0, .int .i64 0, .int .i64 0, .slice none 0 0, .slice none 0 0, .int .i64 0, .int .i64 0, .slice none 0 0, .int .i64 0, .int .i64 0, .bool false] (w.heap.size + 1) (by simp)))
  go_enter Tryz.func14, Tryz.ntmps14
  go_wp2_with fail
  generalize w.heap.size + 1 = gs at HK1 ⊢
  generalize w.heap.size = gr at HK1 ⊢
  have HK2 := Lib.hid (show Held w [] X ((w.alloc (.cells #[.int .i64 0, .int .i64 0, .int .i64 0, .slice none 0 0, .slice none 0 0, .int .i64 0, .int .i64 0, .slice none 0 0, .int .i64 0, .int .i64 0] 54)).alloc (.cells #[.int .i64 0, .int .i64 0, .int .i64 0, .slice none 0 0, .slice none 0 0, .int .i64 0, .int .i64 0, .slice none 0 0, .int .i64 0, .int .i64 0, .bool false] 115)) [.row 44 7 (.slice none 0 0) (0) ([]), .box (gs) 115 #[.int .i64 0, .int .i64 0, .int .i64 0, .slice none 0 0, .slice none 0 0, .int .i64 0, .int .i64 0, .slice none 0 0, .int .i64 0, .int .i64 0, .bool false], .box (gr) 54 #[.int .i64 0, .int .i64 0, .int .i64 0, .slice none 0 0, .slice none 0 0, .int .i64 0, .int .i64 0, .slice none 0 0, .int .i64 0, .int .i64 0]] [Sl.fact nameSh none 0 0 []] from (HK1.out.nil_row 44 7).know (Sl.fact nameSh none 0 0 []) Sl.nil_)
  clear HK1
  go_loopg [] (n + 1) (fun k wr => ∃ (s : Scn) (Av : Option Addr) (cv : Nat) (An : Option Addr) (nn cn : Nat), s.size + (k : Int) = (n : Int) + 1 ∧ 0 ≤ s.size ∧ (s.evs.length : Int) ≤ s.size ∧ s.size ≤ (n : Int) ∧ (s.num ≠ 0 → rightC s.c = true) ∧ nn ≤ 1000 ∧ Hid (R = scanF bs s) ∧ Hid (Held w [] X wr [.row 44 7 ((.slice Av s.evs.length cv)) (s.evs.length) (evCells s.evs), .box (gs) 115 (scnA s (.slice Av s.evs.length cv) An nn cn), .box (gr) 54 #[.int .i64 0, .int .i64 0, .int .i64 0, .slice none 0 0, .slice none 0 0, .int .i64 0, .int .i64 0, .slice none 0 0, .int .i64 0, .int .i64 0]] [Sl.fact nameSh An nn cn s.c.ns]))
  case atStart => exact ⟨scn0, none, 0, none, 0, 0, by simp [scn0], by simp [scn0], by simp [scn0], by simp [scn0], fun h => absurd rfl h, by omega, HS0, Lib.hid HK2.out⟩
  case round =>
    clear HK2 HS0
    obtain ⟨s, Av, cv, An, nn, cn, hk, hs0, hev, hsn, hrt, hnn, HS, HKl⟩ := hrel
    have c_s_0_3 : wr.cell? ⟨gs, 0, none⟩ = some (.int .i64 s.num) := HKl.out.cell 1 rfl 0
    have c_s_1_4 : wr.cell? ⟨gs, 1, none⟩ = some (.int .i64 s.bq) := HKl.out.cell 1 rfl 1
    have c_s_2_5 : wr.cell? ⟨gs, 2, none⟩ = some (.int .i64 s.ba) := HKl.out.cell 1 rfl 2
    have c_s_3_6 : wr.cell? ⟨gs, 3, none⟩ = some (.slice none 0 0) := HKl.out.cell 1 rfl 3
    have c_s_4_7 : wr.cell? ⟨gs, 4, none⟩ = some (.slice Av s.evs.length cv) := HKl.out.cell 1 rfl 4
    have c_s_5_8 : wr.cell? ⟨gs, 5, none⟩ = some (.int .i64 s.c.q) := HKl.out.cell 1 rfl 5
    have c_s_6_9 : wr.cell? ⟨gs, 6, none⟩ = some (.int .i64 s.c.a) := HKl.out.cell 1 rfl 6
    have c_s_7_10 : wr.cell? ⟨gs, 7, none⟩ = some (.slice An nn cn) := HKl.out.cell 1 rfl 7
    have c_s_8_11 : wr.cell? ⟨gs, 8, none⟩ = some (.int .i64 0) := HKl.out.cell 1 rfl 8
    have c_s_9_12 : wr.cell? ⟨gs, 9, none⟩ = some (.int .i64 s.size) := HKl.out.cell 1 rfl 9
    have c_s_10_13 : wr.cell? ⟨gs, 10, none⟩ = some (.bool s.sealed) := HKl.out.cell 1 rfl 10
    go_wp2_with fail
    with_reducible refine (Next_c A n c s.size bs B wr (HR.out.below (HKl.out.belowB hB (by simp))) (Nat.le_trans hB HKl.out.size) hnc hcm hn).mono ?_
    obtain ⟨nx, hnx⟩ : ∃ nx, nextF bs s.size = nx := ⟨_, rfl⟩
    rw [hnx]
    have HNX := Lib.hid hnx
    clear hnx
    rintro e w2 ⟨hb, hp⟩
    rcases nx with what | ⟨x, p⟩
    · skip
      replace hp : e = _ := hp
      subst hp
      have b1 : ((what : Int) != 0) = true := by have := nextF_not _ _ _ HNX.out; rw [bne_iff_ne]; omega
      rw [scanF_end HNX.out] at HS
      clear HNX
      clear c_s_0_3 c_s_1_4 c_s_2_5 c_s_3_6 c_s_4_7 c_s_5_8 c_s_6_9 c_s_7_10 c_s_8_11 c_s_9_12 c_s_10_13
      have HK14 := Lib.hid (show Held w [] X w2 [.row 44 7 ((.slice Av s.evs.length cv)) (s.evs.length) (evCells s.evs), .box (gs) 115 (scnA s (.slice Av s.evs.length cv) An nn cn), .box (gr) 54 #[.int .i64 0, .int .i64 0, .int .i64 0, .slice none 0 0, .slice none 0 0, .int .i64 0, .int .i64 0, .slice none 0 0, .int .i64 0, .int .i64 0]] [Sl.fact nameSh An nn cn s.c.ns] from (HKl.out.on hb))
      clear HKl
      clear hb
      have c_s_0_15 : w2.cell? ⟨gs, 0, none⟩ = some (.int .i64 s.num) := HK14.out.cell 1 rfl 0
      have z_s_0_16 : w2.frozen? ⟨gs, 0, none⟩ = false := HK14.out.frozen 1 rfl 0
      have c_s_1_17 : w2.cell? ⟨gs, 1, none⟩ = some (.int .i64 s.bq) := HK14.out.cell 1 rfl 1
      have z_s_1_18 : w2.frozen? ⟨gs, 1, none⟩ = false := HK14.out.frozen 1 rfl 1
      have c_s_2_19 : w2.cell? ⟨gs, 2, none⟩ = some (.int .i64 s.ba) := HK14.out.cell 1 rfl 2
      have z_s_2_20 : w2.frozen? ⟨gs, 2, none⟩ = false := HK14.out.frozen 1 rfl 2
      have c_s_3_21 : w2.cell? ⟨gs, 3, none⟩ = some (.slice none 0 0) := HK14.out.cell 1 rfl 3
      have z_s_3_22 : w2.frozen? ⟨gs, 3, none⟩ = false := HK14.out.frozen 1 rfl 3
      have c_s_4_23 : w2.cell? ⟨gs, 4, none⟩ = some (.slice Av s.evs.length cv) := HK14.out.cell 1 rfl 4
      have z_s_4_24 : w2.frozen? ⟨gs, 4, none⟩ = false := HK14.out.frozen 1 rfl 4
      have c_s_5_25 : w2.cell? ⟨gs, 5, none⟩ = some (.int .i64 s.c.q) := HK14.out.cell 1 rfl 5
      have z_s_5_26 : w2.frozen? ⟨gs, 5, none⟩ = false := HK14.out.frozen 1 rfl 5
      have c_s_6_27 : w2.cell? ⟨gs, 6, none⟩ = some (.int .i64 s.c.a) := HK14.out.cell 1 rfl 6
      have z_s_6_28 : w2.frozen? ⟨gs, 6, none⟩ = false := HK14.out.frozen 1 rfl 6
      have c_s_7_29 : w2.cell? ⟨gs, 7, none⟩ = some (.slice An nn cn) := HK14.out.cell 1 rfl 7
      have z_s_7_30 : w2.frozen? ⟨gs, 7, none⟩ = false := HK14.out.frozen 1 rfl 7
      have c_s_8_31 : w2.cell? ⟨gs, 8, none⟩ = some (.int .i64 0) := HK14.out.cell 1 rfl 8
      have z_s_8_32 : w2.frozen? ⟨gs, 8, none⟩ = false := HK14.out.frozen 1 rfl 8
      have c_s_9_33 : w2.cell? ⟨gs, 9, none⟩ = some (.int .i64 s.size) := HK14.out.cell 1 rfl 9
      have z_s_9_34 : w2.frozen? ⟨gs, 9, none⟩ = false := HK14.out.frozen 1 rfl 9
      have c_s_10_35 : w2.cell? ⟨gs, 10, none⟩ = some (.bool s.sealed) := HK14.out.cell 1 rfl 10
      have z_s_10_36 : w2.frozen? ⟨gs, 10, none⟩ = false := HK14.out.frozen 1 rfl 10
      have c_r_0_37 : w2.cell? ⟨gr, 0, none⟩ = some (.int .i64 0) := HK14.out.cell 2 rfl 0
      have z_r_0_38 : w2.frozen? ⟨gr, 0, none⟩ = false := HK14.out.frozen 2 rfl 0
      have c_r_1_39 : w2.cell? ⟨gr, 1, none⟩ = some (.int .i64 0) := HK14.out.cell 2 rfl 1
      have z_r_1_40 : w2.frozen? ⟨gr, 1, none⟩ = false := HK14.out.frozen 2 rfl 1
      have c_r_2_41 : w2.cell? ⟨gr, 2, none⟩ = some (.int .i64 0) := HK14.out.cell 2 rfl 2
      have z_r_2_42 : w2.frozen? ⟨gr, 2, none⟩ = false := HK14.out.frozen 2 rfl 2
      have c_r_3_43 : w2.cell? ⟨gr, 3, none⟩ = some (.slice none 0 0) := HK14.out.cell 2 rfl 3
      have z_r_3_44 : w2.frozen? ⟨gr, 3, none⟩ = false := HK14.out.frozen 2 rfl 3
      have c_r_4_45 : w2.cell? ⟨gr, 4, none⟩ = some (.slice none 0 0) := HK14.out.cell 2 rfl 4
      have z_r_4_46 : w2.frozen? ⟨gr, 4, none⟩ = false := HK14.out.frozen 2 rfl 4
      have c_r_5_47 : w2.cell? ⟨gr, 5, none⟩ = some (.int .i64 0) := HK14.out.cell 2 rfl 5
      have z_r_5_48 : w2.frozen? ⟨gr, 5, none⟩ = false := HK14.out.frozen 2 rfl 5
      have c_r_6_49 : w2.cell? ⟨gr, 6, none⟩ = some (.int .i64 0) := HK14.out.cell 2 rfl 6
      have z_r_6_50 : w2.frozen? ⟨gr, 6, none⟩ = false := HK14.out.frozen 2 rfl 6
      have c_r_7_51 : w2.cell? ⟨gr, 7, none⟩ = some (.slice none 0 0) := HK14.out.cell 2 rfl 7
      have z_r_7_52 : w2.frozen? ⟨gr, 7, none⟩ = false := HK14.out.frozen 2 rfl 7
      have c_r_8_53 : w2.cell? ⟨gr, 8, none⟩ = some (.int .i64 0) := HK14.out.cell 2 rfl 8
      have z_r_8_54 : w2.frozen? ⟨gr, 8, none⟩ = false := HK14.out.frozen 2 rfl 8
      have c_r_9_55 : w2.cell? ⟨gr, 9, none⟩ = some (.int .i64 0) := HK14.out.cell 2 rfl 9
      have z_r_9_56 : w2.frozen? ⟨gr, 9, none⟩ = false := HK14.out.frozen 2 rfl 9
      have ne_57 : ¬ (gs = gr) := HK14.out.ne 1 2 (by decide) rfl rfl
      have ne_58 : ¬ (gr = gs) := HK14.out.ne 2 1 (by decide) rfl rfl
      go_wp2_with (go_at_call 52; refine (ends_c ((what : Int)) s.sealed gs _ (by assumption)).mono ?_; rintro e w' ⟨rfl, rfl⟩)
      clear c_s_0_15 z_s_0_16 c_s_1_17 z_s_1_18 c_s_2_19 z_s_2_20 c_s_3_21 z_s_3_22 c_s_4_23 z_s_4_24 c_s_5_25 z_s_5_26 c_s_6_27 z_s_6_28 c_s_7_29 z_s_7_30 c_s_8_31 z_s_8_32 c_s_9_33 z_s_9_34 c_s_10_35 z_s_10_36 c_r_0_37 z_r_0_38 c_r_1_39 z_r_1_40 c_r_2_41 z_r_2_42 c_r_3_43 z_r_3_44 c_r_4_45 z_r_4_46 c_r_5_47 z_r_5_48 c_r_6_49 z_r_6_50 c_r_7_51 z_r_7_52 c_r_8_53 z_r_8_54 c_r_9_55 z_r_9_56 ne_57 ne_58
      have HK59 := Lib.hid (show Held w [] X (w2.setCell ⟨gs, 8, none⟩ (.int .i64 (endsS ((what : Int)) s.sealed))) [.row 44 7 ((.slice Av s.evs.length cv)) (s.evs.length) (evCells s.evs), .box (gs) 115 #[.int .i64 s.num, .int .i64 s.bq, .int .i64 s.ba, .slice none 0 0, .slice Av s.evs.length cv, .int .i64 s.c.q, .int .i64 s.c.a, .slice An nn cn, .int .i64 (endsS ((what : Int)) s.sealed), .int .i64 s.size, .bool s.sealed], .box (gr) 54 #[.int .i64 0, .int .i64 0, .int .i64 0, .slice none 0 0, .slice none 0 0, .int .i64 0, .int .i64 0, .slice none 0 0, .int .i64 0, .int .i64 0]] [Sl.fact nameSh An nn cn s.c.ns] from HK14.out.set_ 1 rfl 8 (.int .i64 (endsS ((what : Int)) s.sealed)))
      clear HK14
      generalize w2.setCell ⟨gs, 8, none⟩ (.int .i64 (endsS ((what : Int)) s.sealed)) = w8 at HK59 ⊢
      have HK60 := Lib.hid (show Held w [] X ((((((((((w8.setCell ⟨gr, 0, none⟩ (.int .i64 s.num)).setCell ⟨gr, 1, none⟩ (.int .i64 s.bq)).setCell ⟨gr, 2, none⟩ (.int .i64 s.ba)).setCell ⟨gr, 3, none⟩ (.slice none 0 0)).setCell ⟨gr, 4, none⟩ (.slice Av s.evs.length cv)).setCell ⟨gr, 5, none⟩ (.int .i64 s.c.q)).setCell ⟨gr, 6, none⟩ (.int .i64 s.c.a)).setCell ⟨gr, 7, none⟩ (.slice An nn cn)).setCell ⟨gr, 8, none⟩ (.int .i64 (endsS ((what : Int)) s.sealed))).setCell ⟨gr, 9, none⟩ (.int .i64 s.size)) [.row 44 7 ((.slice Av s.evs.length cv)) (s.evs.length) (evCells s.evs), .box (gs) 115 #[.int .i64 s.num, .int .i64 s.bq, .int .i64 s.ba, .slice none 0 0, .slice Av s.evs.length cv, .int .i64 s.c.q, .int .i64 s.c.a, .slice An nn cn, .int .i64 (endsS ((what : Int)) s.sealed), .int .i64 s.size, .bool s.sealed], .box (gr) 54 #[.int .i64 s.num, .int .i64 s.bq, .int .i64 s.ba, .slice none 0 0, .slice Av s.evs.length cv, .int .i64 s.c.q, .int .i64 s.c.a, .slice An nn cn, .int .i64 (endsS ((what : Int)) s.sealed), .int .i64 s.size]] [Sl.fact nameSh An nn cn s.c.ns] from (HK59.out.set10 2 rfl (.int .i64 s.num) (.int .i64 s.bq) (.int .i64 s.ba) (.slice none 0 0) (.slice Av s.evs.length cv) (.int .i64 s.c.q) (.int .i64 s.c.a) (.slice An nn cn) (.int .i64 (endsS ((what : Int)) s.sealed)) (.int .i64 s.size)))
      clear HK59
      generalize (((((((((w8.setCell ⟨gr, 0, none⟩ (.int .i64 s.num)).setCell ⟨gr, 1, none⟩ (.int .i64 s.bq)).setCell ⟨gr, 2, none⟩ (.int .i64 s.ba)).setCell ⟨gr, 3, none⟩ (.slice none 0 0)).setCell ⟨gr, 4, none⟩ (.slice Av s.evs.length cv)).setCell ⟨gr, 5, none⟩ (.int .i64 s.c.q)).setCell ⟨gr, 6, none⟩ (.int .i64 s.c.a)).setCell ⟨gr, 7, none⟩ (.slice An nn cn)).setCell ⟨gr, 8, none⟩ (.int .i64 (endsS ((what : Int)) s.sealed))).setCell ⟨gr, 9, none⟩ (.int .i64 s.size) = w9 at HK60 ⊢
      rw [HS.out]
      have hres := res_seg (HK60.out.blk 2 rfl)
      refine bodyPost_ret (hres _ rfl) rfl ?_
      clear hres
      have hev := (fun g e => (((HK60.out.ents _ (List.mem_of_getElem? (i := 0) rfl)).2 g e).1).resolve_right (by simp) : ∀ g, (Value.slice Av s.evs.length cv).ownBlock = some g → w.heap.size ≤ g)
      exact ⟨HK60.out.below, (.slice Av s.evs.length cv), An, nn, cn, rfl, own_rebase (HK60.out.row 0 rfl) hev, HK60.out.back' 0 rfl, hnn, fun b hb e => by have h1 := hev b e; have h2 := hX b hb; omega⟩
    obtain ⟨A', rfl, hrp⟩ := hp
    have HW := Lib.hid (nextF_whole _ _ _ _ HNX.out)
    have HRP := Lib.hid hrp
    clear hrp
    clear c_s_0_3 c_s_1_4 c_s_2_5 c_s_3_6 c_s_4_7 c_s_5_8 c_s_6_9 c_s_7_10 c_s_8_11 c_s_9_12 c_s_10_13
    have HK14 := Lib.hid (show Held w [] X w2 [.row 44 7 ((.slice Av s.evs.length cv)) (s.evs.length) (evCells s.evs), .box (gs) 115 (scnA s (.slice Av s.evs.length cv) An nn cn), .box (gr) 54 #[.int .i64 0, .int .i64 0, .int .i64 0, .slice none 0 0, .slice none 0 0, .int .i64 0, .int .i64 0, .slice none 0 0, .int .i64 0, .int .i64 0]] [Sl.fact nameSh An nn cn s.c.ns] from (HKl.out.on hb))
    clear HKl
    clear hb
    obtain ⟨hw0, hw1, hw2, hw3, hw4, -⟩ := HW.out
    rw [HLB.out] at hw1
    clear HW
    obtain ⟨tk, htk⟩ : ∃ t, takeS s (x.toNat : Int) p = t := ⟨_, rfl⟩
    have HTK := Lib.hid htk
    clear htk
    have hgs : B ≤ gs := Nat.le_trans hB ((((HK14.out.ents _ (List.mem_of_getElem? (i := 1) rfl)).2 gs rfl).1).resolve_right (by simp))
    have hvb : ∀ b, (Value.slice Av s.evs.length cv).ownBlock = some b → B ≤ b := fun b e => Nat.le_trans hB ((((HK14.out.ents _ (List.mem_of_getElem? (i := 0) rfl)).2 b e).1).resolve_right (by simp))
    have HT := Lib.hid (take_s s (.slice Av s.evs.length cv) An nn cn gs (x.toNat : Int) A' p.length p.length B p _ w2 HK14.out.xok' (HK14.out.give2 (i := 1) (j := 0) (by decide) rfl rfl) (HK14.out.sl 0 rfl) hnn HRP.out (Nat.le_trans hB HK14.out.size) hgs hvb (Nat.le_refl _) (by omega) hw4 (by omega) hrt)
    rw [HTK.out] at HT
    clear hgs hvb HRP
    go_wp2_with fail
    with_reducible refine (HT.out).mono ?_
    clear HT
    rintro e w3 ⟨ho, ⟨h1, rfl, hbk, hrw⟩ | ⟨s', ve', A2, n2, c2, h1, rfl, hbk, hrw, hat, hsl, hn2⟩⟩
    · skip
      subst h1
      rw [scanF_not HNX.out HTK.out] at HS
      clear HNX HTK
      have HK15 := Lib.hid (show Held w [] X w3 [.row 44 7 ((.slice Av s.evs.length cv)) (s.evs.length) (evCells s.evs), .box (gs) 115 (scnA s (.slice Av s.evs.length cv) An nn cn), .box (gr) 54 #[.int .i64 0, .int .i64 0, .int .i64 0, .slice none 0 0, .slice none 0 0, .int .i64 0, .int .i64 0, .slice none 0 0, .int .i64 0, .int .i64 0]] [Sl.fact nameSh An nn cn s.c.ns] from HK14.out.wrote2 (i := 1) (j := 0) (by decide) rfl rfl ho hbk hrw (fun b e => .inl e))
      clear HK14
      clear ho hbk hrw
      have c_s_0_16 : w3.cell? ⟨gs, 0, none⟩ = some (.int .i64 s.num) := HK15.out.cell 1 rfl 0
      have z_s_0_17 : w3.frozen? ⟨gs, 0, none⟩ = false := HK15.out.frozen 1 rfl 0
      have c_s_1_18 : w3.cell? ⟨gs, 1, none⟩ = some (.int .i64 s.bq) := HK15.out.cell 1 rfl 1
      have z_s_1_19 : w3.frozen? ⟨gs, 1, none⟩ = false := HK15.out.frozen 1 rfl 1
      have c_s_2_20 : w3.cell? ⟨gs, 2, none⟩ = some (.int .i64 s.ba) := HK15.out.cell 1 rfl 2
      have z_s_2_21 : w3.frozen? ⟨gs, 2, none⟩ = false := HK15.out.frozen 1 rfl 2
      have c_s_3_22 : w3.cell? ⟨gs, 3, none⟩ = some (.slice none 0 0) := HK15.out.cell 1 rfl 3
      have z_s_3_23 : w3.frozen? ⟨gs, 3, none⟩ = false := HK15.out.frozen 1 rfl 3
      have c_s_4_24 : w3.cell? ⟨gs, 4, none⟩ = some (.slice Av s.evs.length cv) := HK15.out.cell 1 rfl 4
      have z_s_4_25 : w3.frozen? ⟨gs, 4, none⟩ = false := HK15.out.frozen 1 rfl 4
      have c_s_5_26 : w3.cell? ⟨gs, 5, none⟩ = some (.int .i64 s.c.q) := HK15.out.cell 1 rfl 5
      have z_s_5_27 : w3.frozen? ⟨gs, 5, none⟩ = false := HK15.out.frozen 1 rfl 5
      have c_s_6_28 : w3.cell? ⟨gs, 6, none⟩ = some (.int .i64 s.c.a) := HK15.out.cell 1 rfl 6
      have z_s_6_29 : w3.frozen? ⟨gs, 6, none⟩ = false := HK15.out.frozen 1 rfl 6
      have c_s_7_30 : w3.cell? ⟨gs, 7, none⟩ = some (.slice An nn cn) := HK15.out.cell 1 rfl 7
      have z_s_7_31 : w3.frozen? ⟨gs, 7, none⟩ = false := HK15.out.frozen 1 rfl 7
      have c_s_8_32 : w3.cell? ⟨gs, 8, none⟩ = some (.int .i64 0) := HK15.out.cell 1 rfl 8
      have z_s_8_33 : w3.frozen? ⟨gs, 8, none⟩ = false := HK15.out.frozen 1 rfl 8
      have c_s_9_34 : w3.cell? ⟨gs, 9, none⟩ = some (.int .i64 s.size) := HK15.out.cell 1 rfl 9
      have z_s_9_35 : w3.frozen? ⟨gs, 9, none⟩ = false := HK15.out.frozen 1 rfl 9
      have c_s_10_36 : w3.cell? ⟨gs, 10, none⟩ = some (.bool s.sealed) := HK15.out.cell 1 rfl 10
      have z_s_10_37 : w3.frozen? ⟨gs, 10, none⟩ = false := HK15.out.frozen 1 rfl 10
      have c_r_0_38 : w3.cell? ⟨gr, 0, none⟩ = some (.int .i64 0) := HK15.out.cell 2 rfl 0
      have z_r_0_39 : w3.frozen? ⟨gr, 0, none⟩ = false := HK15.out.frozen 2 rfl 0
      have c_r_1_40 : w3.cell? ⟨gr, 1, none⟩ = some (.int .i64 0) := HK15.out.cell 2 rfl 1
      have z_r_1_41 : w3.frozen? ⟨gr, 1, none⟩ = false := HK15.out.frozen 2 rfl 1
      have c_r_2_42 : w3.cell? ⟨gr, 2, none⟩ = some (.int .i64 0) := HK15.out.cell 2 rfl 2
      have z_r_2_43 : w3.frozen? ⟨gr, 2, none⟩ = false := HK15.out.frozen 2 rfl 2
      have c_r_3_44 : w3.cell? ⟨gr, 3, none⟩ = some (.slice none 0 0) := HK15.out.cell 2 rfl 3
      have z_r_3_45 : w3.frozen? ⟨gr, 3, none⟩ = false := HK15.out.frozen 2 rfl 3
      have c_r_4_46 : w3.cell? ⟨gr, 4, none⟩ = some (.slice none 0 0) := HK15.out.cell 2 rfl 4
      have z_r_4_47 : w3.frozen? ⟨gr, 4, none⟩ = false := HK15.out.frozen 2 rfl 4
      have c_r_5_48 : w3.cell? ⟨gr, 5, none⟩ = some (.int .i64 0) := HK15.out.cell 2 rfl 5
      have z_r_5_49 : w3.frozen? ⟨gr, 5, none⟩ = false := HK15.out.frozen 2 rfl 5
      have c_r_6_50 : w3.cell? ⟨gr, 6, none⟩ = some (.int .i64 0) := HK15.out.cell 2 rfl 6
      have z_r_6_51 : w3.frozen? ⟨gr, 6, none⟩ = false := HK15.out.frozen 2 rfl 6
      have c_r_7_52 : w3.cell? ⟨gr, 7, none⟩ = some (.slice none 0 0) := HK15.out.cell 2 rfl 7
      have z_r_7_53 : w3.frozen? ⟨gr, 7, none⟩ = false := HK15.out.frozen 2 rfl 7
      have c_r_8_54 : w3.cell? ⟨gr, 8, none⟩ = some (.int .i64 0) := HK15.out.cell 2 rfl 8
      have z_r_8_55 : w3.frozen? ⟨gr, 8, none⟩ = false := HK15.out.frozen 2 rfl 8
      have c_r_9_56 : w3.cell? ⟨gr, 9, none⟩ = some (.int .i64 0) := HK15.out.cell 2 rfl 9
      have z_r_9_57 : w3.frozen? ⟨gr, 9, none⟩ = false := HK15.out.frozen 2 rfl 9
      have ne_58 : ¬ (gs = gr) := HK15.out.ne 1 2 (by decide) rfl rfl
      have ne_59 : ¬ (gr = gs) := HK15.out.ne 2 1 (by decide) rfl rfl
      go_wp2_with (go_at_call 52; refine (ends_c (0) s.sealed gs _ (by assumption)).mono ?_; rintro e w' ⟨rfl, rfl⟩)
      clear c_s_0_16 z_s_0_17 c_s_1_18 z_s_1_19 c_s_2_20 z_s_2_21 c_s_3_22 z_s_3_23 c_s_4_24 z_s_4_25 c_s_5_26 z_s_5_27 c_s_6_28 z_s_6_29 c_s_7_30 z_s_7_31 c_s_8_32 z_s_8_33 c_s_9_34 z_s_9_35 c_s_10_36 z_s_10_37 c_r_0_38 z_r_0_39 c_r_1_40 z_r_1_41 c_r_2_42 z_r_2_43 c_r_3_44 z_r_3_45 c_r_4_46 z_r_4_47 c_r_5_48 z_r_5_49 c_r_6_50 z_r_6_51 c_r_7_52 z_r_7_53 c_r_8_54 z_r_8_55 c_r_9_56 z_r_9_57 ne_58 ne_59
      have HK60 := Lib.hid (show Held w [] X (w3.setCell ⟨gs, 8, none⟩ (.int .i64 (endsS (0) s.sealed))) [.row 44 7 ((.slice Av s.evs.length cv)) (s.evs.length) (evCells s.evs), .box (gs) 115 #[.int .i64 s.num, .int .i64 s.bq, .int .i64 s.ba, .slice none 0 0, .slice Av s.evs.length cv, .int .i64 s.c.q, .int .i64 s.c.a, .slice An nn cn, .int .i64 (endsS (0) s.sealed), .int .i64 s.size, .bool s.sealed], .box (gr) 54 #[.int .i64 0, .int .i64 0, .int .i64 0, .slice none 0 0, .slice none 0 0, .int .i64 0, .int .i64 0, .slice none 0 0, .int .i64 0, .int .i64 0]] [Sl.fact nameSh An nn cn s.c.ns] from HK15.out.set_ 1 rfl 8 (.int .i64 (endsS (0) s.sealed)))
      clear HK15
      generalize w3.setCell ⟨gs, 8, none⟩ (.int .i64 (endsS (0) s.sealed)) = w8 at HK60 ⊢
      have HK61 := Lib.hid (show Held w [] X ((((((((((w8.setCell ⟨gr, 0, none⟩ (.int .i64 s.num)).setCell ⟨gr, 1, none⟩ (.int .i64 s.bq)).setCell ⟨gr, 2, none⟩ (.int .i64 s.ba)).setCell ⟨gr, 3, none⟩ (.slice none 0 0)).setCell ⟨gr, 4, none⟩ (.slice Av s.evs.length cv)).setCell ⟨gr, 5, none⟩ (.int .i64 s.c.q)).setCell ⟨gr, 6, none⟩ (.int .i64 s.c.a)).setCell ⟨gr, 7, none⟩ (.slice An nn cn)).setCell ⟨gr, 8, none⟩ (.int .i64 (endsS (0) s.sealed))).setCell ⟨gr, 9, none⟩ (.int .i64 s.size)) [.row 44 7 ((.slice Av s.evs.length cv)) (s.evs.length) (evCells s.evs), .box (gs) 115 #[.int .i64 s.num, .int .i64 s.bq, .int .i64 s.ba, .slice none 0 0, .slice Av s.evs.length cv, .int .i64 s.c.q, .int .i64 s.c.a, .slice An nn cn, .int .i64 (endsS (0) s.sealed), .int .i64 s.size, .bool s.sealed], .box (gr) 54 #[.int .i64 s.num, .int .i64 s.bq, .int .i64 s.ba, .slice none 0 0, .slice Av s.evs.length cv, .int .i64 s.c.q, .int .i64 s.c.a, .slice An nn cn, .int .i64 (endsS (0) s.sealed), .int .i64 s.size]] [Sl.fact nameSh An nn cn s.c.ns] from (HK60.out.set10 2 rfl (.int .i64 s.num) (.int .i64 s.bq) (.int .i64 s.ba) (.slice none 0 0) (.slice Av s.evs.length cv) (.int .i64 s.c.q) (.int .i64 s.c.a) (.slice An nn cn) (.int .i64 (endsS (0) s.sealed)) (.int .i64 s.size)))
      clear HK60
      generalize (((((((((w8.setCell ⟨gr, 0, none⟩ (.int .i64 s.num)).setCell ⟨gr, 1, none⟩ (.int .i64 s.bq)).setCell ⟨gr, 2, none⟩ (.int .i64 s.ba)).setCell ⟨gr, 3, none⟩ (.slice none 0 0)).setCell ⟨gr, 4, none⟩ (.slice Av s.evs.length cv)).setCell ⟨gr, 5, none⟩ (.int .i64 s.c.q)).setCell ⟨gr, 6, none⟩ (.int .i64 s.c.a)).setCell ⟨gr, 7, none⟩ (.slice An nn cn)).setCell ⟨gr, 8, none⟩ (.int .i64 (endsS (0) s.sealed))).setCell ⟨gr, 9, none⟩ (.int .i64 s.size) = w9 at HK61 ⊢
      rw [HS.out]
      have hres := res_seg (HK61.out.blk 2 rfl)
      refine bodyPost_ret (hres _ rfl) rfl ?_
      clear hres
      have hev := (fun g e => (((HK61.out.ents _ (List.mem_of_getElem? (i := 0) rfl)).2 g e).1).resolve_right (by simp) : ∀ g, (Value.slice Av s.evs.length cv).ownBlock = some g → w.heap.size ≤ g)
      exact ⟨HK61.out.below, (.slice Av s.evs.length cv), An, nn, cn, rfl, own_rebase (HK61.out.row 0 rfl) hev, HK61.out.back' 0 rfl, hnn, fun b hb e => by have h1 := hev b e; have h2 := hX b hb; omega⟩
    subst h1
    rw [scanF_on HNX.out HTK.out] at HS
    obtain ⟨hz, hl', hrt'⟩ := takeS_keeps HTK.out hrt
    clear HNX HTK
    have HK15 := Lib.hid (show Held w [] X w3 [.row 44 7 (ve') (s'.evs.length) (evCells s'.evs), .box (gs) 115 (scnA s' ve' A2 n2 c2), .box (gr) 54 #[.int .i64 0, .int .i64 0, .int .i64 0, .slice none 0 0, .slice none 0 0, .int .i64 0, .int .i64 0, .slice none 0 0, .int .i64 0, .int .i64 0]] [Sl.fact nameSh An nn cn s.c.ns] from HK14.out.wrote2 (i := 1) (j := 0) (by decide) rfl rfl ho hbk hrw hat)
    clear HK14
    clear ho hbk hrw hat
    obtain ⟨Av', cv', rfl⟩ := own_sl (HK15.out.row 0 rfl)
    have HK16 := Lib.hid (show Held w [] X w3 [.row 44 7 ((.slice Av' s'.evs.length cv')) (s'.evs.length) (evCells s'.evs), .box (gs) 115 (scnA s' (.slice Av' s'.evs.length cv') A2 n2 c2), .box (gr) 54 #[.int .i64 0, .int .i64 0, .int .i64 0, .slice none 0 0, .slice none 0 0, .int .i64 0, .int .i64 0, .slice none 0 0, .int .i64 0, .int .i64 0]] [Sl.fact nameSh A2 n2 c2 s'.c.ns, Sl.fact nameSh An nn cn s.c.ns] from HK15.out.know (Sl.fact nameSh A2 n2 c2 s'.c.ns) (hsl.more (fun b _ hm => sub3 b hm)))
    clear HK15
    clear hsl
    have HK17 := Lib.hid (show Held w [] X w3 [.row 44 7 ((.slice Av' s'.evs.length cv')) (s'.evs.length) (evCells s'.evs), .box (gs) 115 (scnA s' (.slice Av' s'.evs.length cv') A2 n2 c2), .box (gr) 54 #[.int .i64 0, .int .i64 0, .int .i64 0, .slice none 0 0, .slice none 0 0, .int .i64 0, .int .i64 0, .slice none 0 0, .int .i64 0, .int .i64 0]] [Sl.fact nameSh A2 n2 c2 s'.c.ns] from (HK16.out.forget (List.Sublist.cons_cons _ (List.Sublist.cons _ List.Sublist.slnil))))
    clear HK16
    skip
    have c_s_0_18 : w3.cell? ⟨gs, 0, none⟩ = some (.int .i64 s'.num) := HK17.out.cell 1 rfl 0
    have z_s_0_19 : w3.frozen? ⟨gs, 0, none⟩ = false := HK17.out.frozen 1 rfl 0
    have c_s_1_20 : w3.cell? ⟨gs, 1, none⟩ = some (.int .i64 s'.bq) := HK17.out.cell 1 rfl 1
    have z_s_1_21 : w3.frozen? ⟨gs, 1, none⟩ = false := HK17.out.frozen 1 rfl 1
    have c_s_2_22 : w3.cell? ⟨gs, 2, none⟩ = some (.int .i64 s'.ba) := HK17.out.cell 1 rfl 2
    have z_s_2_23 : w3.frozen? ⟨gs, 2, none⟩ = false := HK17.out.frozen 1 rfl 2
    have c_s_3_24 : w3.cell? ⟨gs, 3, none⟩ = some (.slice none 0 0) := HK17.out.cell 1 rfl 3
    have z_s_3_25 : w3.frozen? ⟨gs, 3, none⟩ = false := HK17.out.frozen 1 rfl 3
    have c_s_4_26 : w3.cell? ⟨gs, 4, none⟩ = some (.slice Av' s'.evs.length cv') := HK17.out.cell 1 rfl 4
    have z_s_4_27 : w3.frozen? ⟨gs, 4, none⟩ = false := HK17.out.frozen 1 rfl 4
    have c_s_5_28 : w3.cell? ⟨gs, 5, none⟩ = some (.int .i64 s'.c.q) := HK17.out.cell 1 rfl 5
    have z_s_5_29 : w3.frozen? ⟨gs, 5, none⟩ = false := HK17.out.frozen 1 rfl 5
    have c_s_6_30 : w3.cell? ⟨gs, 6, none⟩ = some (.int .i64 s'.c.a) := HK17.out.cell 1 rfl 6
    have z_s_6_31 : w3.frozen? ⟨gs, 6, none⟩ = false := HK17.out.frozen 1 rfl 6
    have c_s_7_32 : w3.cell? ⟨gs, 7, none⟩ = some (.slice A2 n2 c2) := HK17.out.cell 1 rfl 7
    have z_s_7_33 : w3.frozen? ⟨gs, 7, none⟩ = false := HK17.out.frozen 1 rfl 7
    have c_s_8_34 : w3.cell? ⟨gs, 8, none⟩ = some (.int .i64 0) := HK17.out.cell 1 rfl 8
    have z_s_8_35 : w3.frozen? ⟨gs, 8, none⟩ = false := HK17.out.frozen 1 rfl 8
    have c_s_9_36 : w3.cell? ⟨gs, 9, none⟩ = some (.int .i64 s'.size) := HK17.out.cell 1 rfl 9
    have z_s_9_37 : w3.frozen? ⟨gs, 9, none⟩ = false := HK17.out.frozen 1 rfl 9
    have c_s_10_38 : w3.cell? ⟨gs, 10, none⟩ = some (.bool s'.sealed) := HK17.out.cell 1 rfl 10
    have z_s_10_39 : w3.frozen? ⟨gs, 10, none⟩ = false := HK17.out.frozen 1 rfl 10
    go_wp2
    clear c_s_0_18 z_s_0_19 c_s_1_20 z_s_1_21 c_s_2_22 z_s_2_23 c_s_3_24 z_s_3_25 c_s_4_26 z_s_4_27 c_s_5_28 z_s_5_29 c_s_6_30 z_s_6_31 c_s_7_32 z_s_7_33 c_s_8_34 z_s_8_35 c_s_9_36 z_s_9_37 c_s_10_38 z_s_10_39
    go_roundg (gk - (p.length + 7))
    case measure => omega
    case rel => exact ⟨⟨s'.num, s'.bq, s'.ba, s'.evs, s'.c, s.size + ((p.length : Int) + 7), s'.sealed⟩, Av', cv', A2, n2, c2, by simp only; omega, by simp only; omega, by simp only; omega, by simp only; omega, hrt', hn2, HS, Lib.hid (HK17.out.set_ 1 rfl 9 (.int .i64 (s.size + ((p.length : Int) + 7))))⟩
end
section
set_option maxRecDepth 100000
open Go.RowKit
theorem bytesC_len {c : Cx} {e : Evt} (h : errC c e = 0) : (bytesC c e).length ≤ 104 := by
  obtain ⟨hr, hc, hq, ha, hp⟩ := errC_ok h
  obtain ⟨k1, k2, hn, hw, a1, a2, q1, q2⟩ := chkE_ok hc
  obtain ⟨⟨x1, x2⟩, ⟨y1, y2⟩, ⟨z1, z2⟩, -, -⟩ := within_nums ⟨k1, k2⟩ hw
  obtain ⟨b1, b2, b3, b4⟩ := right_bd hr
  have hcm : e.cm.size ≤ 24 := by unfold namedE at hn; simp only [Bool.and_eq_true, decide_eq_true_iff] at hn; exact hn.2
  have hpl : placeOf c.ns e.cm.data.toList ≤ 32 := by
    have h1 := placeOf_le c.ns e.cm.data.toList
    have h2 : rightB c.ns = true := by unfold rightC at hr; simp only [Bool.and_eq_true, decide_eq_true_iff] at hr; exact hr.2
    unfold rightB at h2
    rw [decide_eq_true_iff] at h2
    omega
  have e1 := uencB_len e.k.toNat (by omega)
  have e2 := uencB_len (e.q - c.q).toNat (by omega)
  have e3 := uencB_len (e.a - c.a).toNat (by omega)
  have e4 := uencB_len (placeOf c.ns e.cm.data.toList) (by omega)
  have e5 : (if placeOf c.ns e.cm.data.toList = 0 then textB e.cm.data.toList else []).length ≤ 34 := by
    split
    · exact textB_len e.cm hcm
    · exact Nat.zero_le _
  have e6 : ((numsE e).flatMap (fun n => uencB n.toNat)).length ≤ 30 := by
    unfold numsE
    have u1 := uencB_len e.x.toNat (by omega)
    have u2 := uencB_len e.y.toNat (by omega)
    have u3 := uencB_len e.z.toNat (by omega)
    have hm := manyE_le e.k
    rcases (by omega : manyE e.k = 0 ∨ manyE e.k = 1 ∨ manyE e.k = 2 ∨ manyE e.k = 3) with hm | hm | hm | hm <;> (rw [hm]; simp; try omega)
  unfold bytesC
  simp only [List.length_append]
  omega
def AddPost (c : Cx) (e0 : Evt) (cells : Array Value) (X : List Nat) (w : World) (e : Ending) (w' : World) : Prop :=
  Below w.heap.size w w' ∧ ((errC c e0 ≠ 0 ∧ e = .returned (.tuple #[.slice none 0 0, .agg cells, .int .i64 (errC c e0)])) ∨
    (errC c e0 = 0 ∧ ∃ A cp A2 n2 c2, e = .returned (.tuple #[.slice A (frameB 2 (bytesC c e0)).length cp, .agg #[.int .i64 e0.q, .int .i64 e0.a, .slice A2 n2 c2], .int .i64 0]) ∧ Sl byteSh w' X A (frameB 2 (bytesC c e0)).length cp (frameB 2 (bytesC c e0)) ∧ Sl nameSh w' X A2 n2 c2 (nextC c e0).ns))
theorem res_add {W : World} {g : Nat} {x0 x1 x2 u v : Value} (h : Blk W g 34 #[x0, x1, x2]) (tmps : Array Value) (ht : tmps[5]?.getD undef = .pointer (some ⟨g, 0, none⟩)) (hu : tmps[6]?.getD undef = u) (hv : tmps[4]?.getD undef = v) : (results Tryz.f62 tmps).run Tryz.prog W = .ok (.tuple #[v, .agg #[x0, x1, x2], u]) W := by
  have c0 : W.cell? ⟨g, 0, none⟩ = some x0 := h.cell 0
  have c1 : W.cell? ⟨g, 1, none⟩ = some x1 := h.cell 1
  have c2 : W.cell? ⟨g, 2, none⟩ = some x2 := h.cell 2
  simp [results, Tryz.results62, go_sem, ht, hu, hv, c0, c1, c2]
set_option maxHeartbeats 4000000 in
theorem Add_s (q a : Int) (ns : List (List UInt8)) (An : Option Addr) (nn cn : Nat) (e0 : Evt) (X : List Nat) (w : World) (hX : XOk X w) (hs : Sl nameSh w X An nn cn ns) (hnn : nn ≤ 1000) (hcm : e0.cm.size ≤ maxLen) :
    Calls Tryz.prog 62 #[.agg #[.int .i64 q, .int .i64 a, .slice An nn cn], .agg (evA e0)] w (AddPost ⟨q, a, ns⟩ e0 #[.int .i64 q, .int .i64 a, .slice An nn cn] X w) := by
  have HBL := Lib.hid (@bytesC_len ⟨q, a, ns⟩ e0)
  have HEN := fun (X : List Nat) (W : World) (hX : XOk X W) (hs : Sl nameSh W X An nn cn ns) => Lib.hid (Encode_s q a ns An nn cn e0 X W hX hs hnn hcm)
  unfold AddPost
  unfold EncPost at HEN
  generalize errC ⟨q, a, ns⟩ e0 = er at HBL HEN ⊢
  generalize bytesC ⟨q, a, ns⟩ e0 = eb at HBL HEN ⊢
  generalize nextC ⟨q, a, ns⟩ e0 = nx at HEN ⊢
  obtain ⟨eq, ea, ek, cm, ex, ey, ez⟩ := e0
  simp only at HEN ⊢
  have HK1 := Lib.hid (show Held w [] X (((w.alloc (.cells #[.int .i64 q, .int .i64 a, .slice An nn cn] 34)).alloc (.cells #[.int .i64 eq, .int .i64 ea, .int .i64 ek, .string cm, .int .i64 ex, .int .i64 ey, .int .i64 ez] 44)).alloc (.cells #[.int .i64 0, .int .i64 0, .slice none 0 0] 34)) [.box (w.heap.size + 2) 34 #[.int .i64 0, .int .i64 0, .slice none 0 0], .box (w.heap.size + 1) 44 #[.int .i64 eq, .int .i64 ea, .int .i64 ek, .string cm, .int .i64 ex, .int .i64 ey, .int .i64 ez], .box (w.heap.size) 34 #[.int .i64 q, .int .i64 a, .slice An nn cn]] [Sl.fact nameSh An nn cn ns] from (((((Held.start w hX).alloc_at 34 #[.int .i64 q, .int .i64 a, .slice An nn cn] (w.heap.size) (by simp)).alloc_at 44 #[.int .i64 eq, .int .i64 ea, .int .i64 ek, .string cm, .int .i64 ex, .int .i64 ey, .int .i64 ez] (w.heap.size + 1) (by simp)).alloc_at 34 #[.int .i64 0, .int .i64 0, .slice none 0 0] (w.heap.size + 2) (by simp)).know0 (Sl.fact nameSh An nn cn ns) hs))
  clear hs
  go_enter Tryz.func62, Tryz.ntmps62
  go_wp2_with fail
  with_reducible refine ((HEN _ _ HK1.out.xok' (HK1.out.sl 0 rfl)).out).mono ?_
  rintro e w1 ⟨hb, h1 | h1⟩
  · skip
    obtain ⟨he, rfl⟩ := h1
    have b1 : (er != 0) = true := by rw [bne_iff_ne]; exact he
    have HNE := Lib.hid he
    clear he
    have HK2 := Lib.hid (show Held w [] X w1 [.box (w.heap.size + 2) 34 #[.int .i64 0, .int .i64 0, .slice none 0 0], .box (w.heap.size + 1) 44 #[.int .i64 eq, .int .i64 ea, .int .i64 ek, .string cm, .int .i64 ex, .int .i64 ey, .int .i64 ez], .box (w.heap.size) 34 #[.int .i64 q, .int .i64 a, .slice An nn cn]] [Sl.fact nameSh An nn cn ns] from (HK1.out.on hb))
    clear HK1
    clear hb
    have HK3 := Lib.hid (show Held w [] X (w1.alloc (.cells #[.int .i64 q, .int .i64 a, .slice An nn cn] 34)) [.box (w1.heap.size) 34 #[.int .i64 q, .int .i64 a, .slice An nn cn], .box (w.heap.size + 2) 34 #[.int .i64 0, .int .i64 0, .slice none 0 0], .box (w.heap.size + 1) 44 #[.int .i64 eq, .int .i64 ea, .int .i64 ek, .string cm, .int .i64 ex, .int .i64 ey, .int .i64 ez], .box (w.heap.size) 34 #[.int .i64 q, .int .i64 a, .slice An nn cn]] [Sl.fact nameSh An nn cn ns] from HK2.out.alloc_at 34 #[.int .i64 q, .int .i64 a, .slice An nn cn] (w1.heap.size) (by simp))
    clear HK2
    go_upto_region 3 with (fail)
    generalize w1.alloc (.cells #[.int .i64 q, .int .i64 a, .slice An nn cn] 34) = w2 at HK3 ⊢
    generalize w1.heap.size = gb at HK3 ⊢
    have c_c_0_4 : w2.cell? ⟨w.heap.size, 0, none⟩ = some (.int .i64 q) := HK3.out.cell 3 rfl 0
    have c_c_1_5 : w2.cell? ⟨w.heap.size, 1, none⟩ = some (.int .i64 a) := HK3.out.cell 3 rfl 1
    have c_c_2_6 : w2.cell? ⟨w.heap.size, 2, none⟩ = some (.slice An nn cn) := HK3.out.cell 3 rfl 2
    go_wp2_with fail
    clear c_c_0_4 c_c_1_5 c_c_2_6
    refine wp_region_noPanic ?_
    refine wp_region_held_drew (S := fun W' => HeldBut w [] X W' [.box (gb) 34 #[.int .i64 q, .int .i64 a, .slice An nn cn], .box (w.heap.size + 2) 34 #[.int .i64 0, .int .i64 0, .slice none 0 0], .box (w.heap.size + 1) 44 #[.int .i64 eq, .int .i64 ea, .int .i64 ek, .string cm, .int .i64 ex, .int .i64 ey, .int .i64 ez], .box (w.heap.size) 34 #[.int .i64 q, .int .i64 a, .slice An nn cn]] [Sl.fact nameSh An nn cn ns] 1 (w.heap.size + 2) 34) (by kernel_rfl) (HK3.out.but 1 rfl).drew (fun hHeld => ?_)
    have HK7 := Lib.hid (show Held w [] X w2.drew [.box (gb) 34 #[.int .i64 q, .int .i64 a, .slice An nn cn], .box (w.heap.size + 2) 34 #[.int .i64 0, .int .i64 0, .slice none 0 0], .box (w.heap.size + 1) 44 #[.int .i64 eq, .int .i64 ea, .int .i64 ek, .string cm, .int .i64 ex, .int .i64 ey, .int .i64 ez], .box (w.heap.size) 34 #[.int .i64 q, .int .i64 a, .slice An nn cn]] [Sl.fact nameSh An nn cn ns] from HK3.out.drew)
    clear HK3
    generalize w2.drew = wd at hHeld HK7 ⊢
    have c_r_0_8 : wd.cell? ⟨w.heap.size + 2, 0, none⟩ = some (.int .i64 0) := HK7.out.cell 1 rfl 0
    have z_r_0_9 : wd.frozen? ⟨w.heap.size + 2, 0, none⟩ = false := HK7.out.frozen 1 rfl 0
    have c_r_1_10 : wd.cell? ⟨w.heap.size + 2, 1, none⟩ = some (.int .i64 0) := HK7.out.cell 1 rfl 1
    have z_r_1_11 : wd.frozen? ⟨w.heap.size + 2, 1, none⟩ = false := HK7.out.frozen 1 rfl 1
    have c_r_2_12 : wd.cell? ⟨w.heap.size + 2, 2, none⟩ = some (.slice none 0 0) := HK7.out.cell 1 rfl 2
    have z_r_2_13 : wd.frozen? ⟨w.heap.size + 2, 2, none⟩ = false := HK7.out.frozen 1 rfl 2
    refine takeH 0 (v := ?v0u1) rfl (by kernel_rfl) (by kernel_rfl) (by kernel_rfl) rfl (fun _ _ _ h => h) (Or.inl ⟨by rfl, ?y0u1⟩) hHeld ?r0u1
    case y0u1 => (intro W hSW; (try dsimp only at hSW); have q0 : W.cell? ⟨w.heap.size, 0, none⟩ = some (.int .i64 q) := hSW.cell 3 rfl (by decide) 0; have q1 : W.cell? ⟨w.heap.size, 1, none⟩ = some (.int .i64 a) := hSW.cell 3 rfl (by decide) 1; have q2 : W.cell? ⟨w.heap.size, 2, none⟩ = some (.slice An nn cn) := hSW.cell 3 rfl (by decide) 2; go_simp; try with_reducible rfl)
    simp only [Act.put, sI, sZ, sS]
    refine takeH 1 (v := ?v1u2) rfl (by kernel_rfl) (by kernel_rfl) (by kernel_rfl) rfl (fun _ _ _ h => h) (Or.inl ⟨by rfl, ?y1u2⟩) hHeld ?r1u2
    case y1u2 => (intro W hSW; (try dsimp only at hSW); go_simp; try with_reducible rfl)
    simp only [Act.put, sI, sZ, sS]
    refine takeH 2 (v := ?v2u3) rfl (by kernel_rfl) (by kernel_rfl) (by kernel_rfl) rfl (fun _ _ _ h => h) (Or.inl ⟨by rfl, ?y2u3⟩) hHeld ?r2u3
    case y2u3 => (intro W hSW; (try dsimp only at hSW); go_simp; try with_reducible rfl)
    simp only [Act.put, sI, sZ, sS]
    refine wpAnyH_ready (rs := [3]) (by kernel_rfl) (by simp) ?_
    refine AllReadyH.cons rfl (fun K hK => ?_) AllReadyH.nil
    go_simp
    refine hK.out _ _ (((hHeld.set_ (by simp) 0 (.int .i64 q)).set_ (by simp) 1 (.int .i64 a)).set_ (by simp) 2 (.slice An nn cn)) (fun hHeld => ?_)
    clear hK K
    try simp only [Act.put, sI, sZ, sS]
    refine takeH 4 (v := ?v4u4) rfl (by kernel_rfl) (by kernel_rfl) (by kernel_rfl) rfl (fun _ _ _ h => h) (Or.inl ⟨by rfl, ?y4u4⟩) hHeld ?r4u4
    case y4u4 => (intro W hSW; (try dsimp only at hSW); go_simp; try with_reducible rfl)
    simp only [Act.put, sI, sZ, sS]
    refine wpAnyH_done (by kernel_rfl) ?_ _
    refine NoPanic.normal ?_
    clear c_r_0_8 z_r_0_9 c_r_1_10 z_r_1_11 c_r_2_12 z_r_2_13
    have HK14 := Lib.hid (show Held w [] X (((wd.setCell ⟨w.heap.size + 2, 0, none⟩ (.int .i64 q)).setCell ⟨w.heap.size + 2, 1, none⟩ (.int .i64 a)).setCell ⟨w.heap.size + 2, 2, none⟩ (.slice An nn cn)) [.box (gb) 34 #[.int .i64 q, .int .i64 a, .slice An nn cn], .box (w.heap.size + 2) 34 #[.int .i64 q, .int .i64 a, .slice An nn cn], .box (w.heap.size + 1) 44 #[.int .i64 eq, .int .i64 ea, .int .i64 ek, .string cm, .int .i64 ex, .int .i64 ey, .int .i64 ez], .box (w.heap.size) 34 #[.int .i64 q, .int .i64 a, .slice An nn cn]] [Sl.fact nameSh An nn cn ns] from (((HK7.out.set_ 1 rfl 0 (.int .i64 q)).set_ 1 rfl 1 (.int .i64 a)).set_ 1 rfl 2 (.slice An nn cn)))
    clear HK7
    go_wp2
    exact bodyPost_ret (res_add (HK14.out.blk 1 rfl) (u := .int .i64 er) (v := .slice none 0 0) _ rfl rfl rfl) rfl ⟨HK14.out.below, .inl ⟨HNE.out, rfl⟩⟩
  obtain ⟨he, A3, n3, c3, A2, n2, c2, rfl, hsb, hsn⟩ := h1
  have hl3 := HBL.out he
  have HE0 := Lib.hid he
  clear he
  have HN3 := Lib.hid hsb.len
  have hn3 : n3 ≤ 200 := by rw [HN3.out]; omega
  have HFL := Lib.hid (show n3 + 7 = (frameB 2 eb).length from by rw [HN3.out]; exact (frameB_length 2 eb).symm)
  have HK2 := Lib.hid (show Held w [] X w1 [.box (w.heap.size + 2) 34 #[.int .i64 0, .int .i64 0, .slice none 0 0], .box (w.heap.size + 1) 44 #[.int .i64 eq, .int .i64 ea, .int .i64 ek, .string cm, .int .i64 ex, .int .i64 ey, .int .i64 ez], .box (w.heap.size) 34 #[.int .i64 q, .int .i64 a, .slice An nn cn]] [Sl.fact nameSh A2 n2 c2 nx.ns, Sl.fact byteSh A3 n3 c3 eb, Sl.fact nameSh An nn cn ns] from (((HK1.out.on hb).know (Sl.fact byteSh A3 n3 c3 eb) hsb).know (Sl.fact nameSh A2 n2 c2 nx.ns) hsn))
  clear HK1
  clear hb
  clear hsb hsn
  have HK3 := Lib.hid (show Held w [] X (w1.alloc (.cells #[.int .i64 eq, .int .i64 ea, .slice A2 n2 c2] 34)) [.box (w1.heap.size) 34 #[.int .i64 eq, .int .i64 ea, .slice A2 n2 c2], .box (w.heap.size + 2) 34 #[.int .i64 0, .int .i64 0, .slice none 0 0], .box (w.heap.size + 1) 44 #[.int .i64 eq, .int .i64 ea, .int .i64 ek, .string cm, .int .i64 ex, .int .i64 ey, .int .i64 ez], .box (w.heap.size) 34 #[.int .i64 q, .int .i64 a, .slice An nn cn]] [Sl.fact nameSh A2 n2 c2 nx.ns, Sl.fact byteSh A3 n3 c3 eb, Sl.fact nameSh An nn cn ns] from HK2.out.alloc_at 34 #[.int .i64 eq, .int .i64 ea, .slice A2 n2 c2] (w1.heap.size) (by simp))
  clear HK2
  go_upto_region 4 with (fail)
  generalize w1.alloc (.cells #[.int .i64 eq, .int .i64 ea, .slice A2 n2 c2] 34) = w2 at HK3 ⊢
  generalize w1.heap.size = gb at HK3 ⊢
  go_wp2_with fail
  with_reducible refine (frPut_i HK3.out.xok' (HK3.out.sl 1 rfl) 2 (by omega) (by omega) hn3).mono ?_
  rintro e w3 ⟨A4, c4, rfl, hsl, hb⟩
  rw [HFL.out] at hsl
  rw [HFL.out]
  have HK4 := Lib.hid (show Held w [] X w3 [.box (gb) 34 #[.int .i64 eq, .int .i64 ea, .slice A2 n2 c2], .box (w.heap.size + 2) 34 #[.int .i64 0, .int .i64 0, .slice none 0 0], .box (w.heap.size + 1) 44 #[.int .i64 eq, .int .i64 ea, .int .i64 ek, .string cm, .int .i64 ex, .int .i64 ey, .int .i64 ez], .box (w.heap.size) 34 #[.int .i64 q, .int .i64 a, .slice An nn cn]] [Sl.fact byteSh A4 (frameB 2 eb).length c4 (frameB 2 eb), Sl.fact nameSh A2 n2 c2 nx.ns, Sl.fact byteSh A3 n3 c3 eb, Sl.fact nameSh An nn cn ns] from ((HK3.out.on hb).know (Sl.fact byteSh A4 (frameB 2 eb).length c4 (frameB 2 eb)) hsl))
  clear HK3
  clear hb
  clear hsl
  have c_b_0_5 : w3.cell? ⟨gb, 0, none⟩ = some (.int .i64 eq) := HK4.out.cell 0 rfl 0
  have c_b_1_6 : w3.cell? ⟨gb, 1, none⟩ = some (.int .i64 ea) := HK4.out.cell 0 rfl 1
  have c_b_2_7 : w3.cell? ⟨gb, 2, none⟩ = some (.slice A2 n2 c2) := HK4.out.cell 0 rfl 2
  go_wp2_with fail
  clear c_b_0_5 c_b_1_6 c_b_2_7
  refine wp_region_noPanic ?_
  refine wp_region_held_drew (S := fun W' => HeldBut w [] X W' [.box (gb) 34 #[.int .i64 eq, .int .i64 ea, .slice A2 n2 c2], .box (w.heap.size + 2) 34 #[.int .i64 0, .int .i64 0, .slice none 0 0], .box (w.heap.size + 1) 44 #[.int .i64 eq, .int .i64 ea, .int .i64 ek, .string cm, .int .i64 ex, .int .i64 ey, .int .i64 ez], .box (w.heap.size) 34 #[.int .i64 q, .int .i64 a, .slice An nn cn]] [Sl.fact byteSh A4 (frameB 2 eb).length c4 (frameB 2 eb), Sl.fact nameSh A2 n2 c2 nx.ns, Sl.fact byteSh A3 n3 c3 eb, Sl.fact nameSh An nn cn ns] 1 (w.heap.size + 2) 34) (by kernel_rfl) (HK4.out.but 1 rfl).drew (fun hHeld => ?_)
  have HK8 := Lib.hid (show Held w [] X w3.drew [.box (gb) 34 #[.int .i64 eq, .int .i64 ea, .slice A2 n2 c2], .box (w.heap.size + 2) 34 #[.int .i64 0, .int .i64 0, .slice none 0 0], .box (w.heap.size + 1) 44 #[.int .i64 eq, .int .i64 ea, .int .i64 ek, .string cm, .int .i64 ex, .int .i64 ey, .int .i64 ez], .box (w.heap.size) 34 #[.int .i64 q, .int .i64 a, .slice An nn cn]] [Sl.fact byteSh A4 (frameB 2 eb).length c4 (frameB 2 eb), Sl.fact nameSh A2 n2 c2 nx.ns, Sl.fact byteSh A3 n3 c3 eb, Sl.fact nameSh An nn cn ns] from HK4.out.drew)
  clear HK4
  generalize w3.drew = wd at hHeld HK8 ⊢
  have c_r_0_9 : wd.cell? ⟨w.heap.size + 2, 0, none⟩ = some (.int .i64 0) := HK8.out.cell 1 rfl 0
  have z_r_0_10 : wd.frozen? ⟨w.heap.size + 2, 0, none⟩ = false := HK8.out.frozen 1 rfl 0
  have c_r_1_11 : wd.cell? ⟨w.heap.size + 2, 1, none⟩ = some (.int .i64 0) := HK8.out.cell 1 rfl 1
  have z_r_1_12 : wd.frozen? ⟨w.heap.size + 2, 1, none⟩ = false := HK8.out.frozen 1 rfl 1
  have c_r_2_13 : wd.cell? ⟨w.heap.size + 2, 2, none⟩ = some (.slice none 0 0) := HK8.out.cell 1 rfl 2
  have z_r_2_14 : wd.frozen? ⟨w.heap.size + 2, 2, none⟩ = false := HK8.out.frozen 1 rfl 2
  refine takeH 0 (v := ?v0u5) rfl (by kernel_rfl) (by kernel_rfl) (by kernel_rfl) rfl (fun _ _ _ h => h) (Or.inl ⟨by rfl, ?y0u5⟩) hHeld ?r0u5
  case y0u5 => (intro W hSW; (try dsimp only at hSW); go_simp; try with_reducible rfl)
  simp only [Act.put, sI, sZ, sS]
  refine takeH 1 (v := ?v1u6) rfl (by kernel_rfl) (by kernel_rfl) (by kernel_rfl) rfl (fun _ _ _ h => h) (Or.inl ⟨by rfl, ?y1u6⟩) hHeld ?r1u6
  case y1u6 => (intro W hSW; (try dsimp only at hSW); have q0 : W.cell? ⟨gb, 0, none⟩ = some (.int .i64 eq) := hSW.cell 0 rfl (by decide) 0; have q1 : W.cell? ⟨gb, 1, none⟩ = some (.int .i64 ea) := hSW.cell 0 rfl (by decide) 1; have q2 : W.cell? ⟨gb, 2, none⟩ = some (.slice A2 n2 c2) := hSW.cell 0 rfl (by decide) 2; go_simp; try with_reducible rfl)
  simp only [Act.put, sI, sZ, sS]
  refine takeH 2 (v := ?v2u7) rfl (by kernel_rfl) (by kernel_rfl) (by kernel_rfl) rfl (fun _ _ _ h => h) (Or.inl ⟨by rfl, ?y2u7⟩) hHeld ?r2u7
  case y2u7 => (intro W hSW; (try dsimp only at hSW); go_simp; try with_reducible rfl)
  simp only [Act.put, sI, sZ, sS]
  refine wpAnyH_ready (rs := [3]) (by kernel_rfl) (by simp) ?_
  refine AllReadyH.cons rfl (fun K hK => ?_) AllReadyH.nil
  go_simp
  refine hK.out _ _ (((hHeld.set_ (by simp) 0 (.int .i64 eq)).set_ (by simp) 1 (.int .i64 ea)).set_ (by simp) 2 (.slice A2 n2 c2)) (fun hHeld => ?_)
  clear hK K
  try simp only [Act.put, sI, sZ, sS]
  refine takeH 4 (v := ?v4u8) rfl (by kernel_rfl) (by kernel_rfl) (by kernel_rfl) rfl (fun _ _ _ h => h) (Or.inl ⟨by rfl, ?y4u8⟩) hHeld ?r4u8
  case y4u8 => (intro W hSW; (try dsimp only at hSW); go_simp; try with_reducible rfl)
  simp only [Act.put, sI, sZ, sS]
  refine wpAnyH_done (by kernel_rfl) ?_ _
  refine NoPanic.normal ?_
  clear c_r_0_9 z_r_0_10 c_r_1_11 z_r_1_12 c_r_2_13 z_r_2_14
  have HK15 := Lib.hid (show Held w [] X (((wd.setCell ⟨w.heap.size + 2, 0, none⟩ (.int .i64 eq)).setCell ⟨w.heap.size + 2, 1, none⟩ (.int .i64 ea)).setCell ⟨w.heap.size + 2, 2, none⟩ (.slice A2 n2 c2)) [.box (gb) 34 #[.int .i64 eq, .int .i64 ea, .slice A2 n2 c2], .box (w.heap.size + 2) 34 #[.int .i64 eq, .int .i64 ea, .slice A2 n2 c2], .box (w.heap.size + 1) 44 #[.int .i64 eq, .int .i64 ea, .int .i64 ek, .string cm, .int .i64 ex, .int .i64 ey, .int .i64 ez], .box (w.heap.size) 34 #[.int .i64 q, .int .i64 a, .slice An nn cn]] [Sl.fact byteSh A4 (frameB 2 eb).length c4 (frameB 2 eb), Sl.fact nameSh A2 n2 c2 nx.ns, Sl.fact byteSh A3 n3 c3 eb, Sl.fact nameSh An nn cn ns] from (((HK8.out.set_ 1 rfl 0 (.int .i64 eq)).set_ 1 rfl 1 (.int .i64 ea)).set_ 1 rfl 2 (.slice A2 n2 c2)))
  clear HK8
  go_wp2
  exact bodyPost_ret (res_add (HK15.out.blk 1 rfl) (u := .int .i64 0) (v := .slice A4 (frameB 2 eb).length c4) _ rfl rfl rfl) rfl ⟨HK15.out.below, .inr ⟨HE0.out, A4, c4, A2, n2, c2, rfl, HK15.out.back' 0 rfl, HK15.out.back' 1 rfl⟩⟩
end
section
open Go.RowKit
def recsB : Cx → List Evt → List UInt8
  | _, [] => []
  | c, e :: l => frameB 2 (bytesC c e) ++ recsB (nextC c e) l
def ctxA : Cx → List Evt → Cx
  | c, [] => c
  | c, e :: l => ctxA (nextC c e) l
def okL : Cx → List Evt → Prop
  | _, [] => True
  | c, e :: l => errC c e = 0 ∧ okL (nextC c e) l
theorem recsB_snoc : ∀ (c : Cx) (l : List Evt) (e : Evt), recsB c (l ++ [e]) = recsB c l ++ frameB 2 (bytesC (ctxA c l) e)
  | c, [], e => by simp [recsB, ctxA]
  | c, x :: l, e => by simp [recsB, ctxA, recsB_snoc (nextC c x) l e]
theorem ctxA_snoc : ∀ (c : Cx) (l : List Evt) (e : Evt), ctxA c (l ++ [e]) = nextC (ctxA c l) e
  | c, [], e => rfl
  | c, x :: l, e => ctxA_snoc (nextC c x) l e
theorem okL_snoc : ∀ (c : Cx) (l : List Evt) (e : Evt), okL c (l ++ [e]) ↔ okL c l ∧ errC (ctxA c l) e = 0
  | c, [], e => by simp [okL, ctxA]
  | c, x :: l, e => by simp [okL, ctxA, okL_snoc (nextC c x) l e, and_assoc]
theorem okL_right : ∀ (c : Cx) (l : List Evt), rightC c = true → okL c l → rightC (ctxA c l) = true
  | c, [], h, _ => h
  | c, x :: l, h, hk => okL_right (nextC c x) l (nextC_right hk.1) hk.2
def builtS (s : Scn) : List UInt8 :=
  if s.num = 0 then [] else frameB 1 (markS ++ putS s.num s.bq s.ba) ++ recsB ⟨s.bq, s.ba, []⟩ s.evs ++ (if s.sealed = true then frameB 3 (putS (s.evs.length : Int) s.c.q s.c.a) else [])
structure GoodS (s : Scn) : Prop where
  none_ : s.num = 0 → s.evs = [] ∧ s.sealed = false
  num : s.num ≠ 0 → numB s.num = true ∧ rightC ⟨s.bq, s.ba, []⟩ = true ∧ okL ⟨s.bq, s.ba, []⟩ s.evs ∧ s.c = ctxA ⟨s.bq, s.ba, []⟩ s.evs
theorem uread_at (bs : List UInt8) (i x : Int) (v : Nat) (h : uRes bs i 0 = (x, 0, v)) : 0 ≤ i ∧ i ≤ x ∧ x ≤ (bs.length : Int) ∧ uencB v = (bs.drop i.toNat).take (x - i).toNat ∧ v < 18446744073709551616 := by
  have hlt := uRes_lt bs i 0
  obtain ⟨-, h1, h2, h3, h4⟩ := uRes_ok bs i 0 x v h
  rw [h] at hlt
  unfold uRes at h
  rw [if_pos ⟨h3, by omega, rfl⟩] at h
  split at h
  · rename_i h0
    simp only [Prod.mk.injEq, true_and] at h
    obtain ⟨e1, e2⟩ := h
    have hu := uread_back (natB (bs.drop i.toNat)) (natB_lt _) 0 (uread 0 (natB (bs.drop i.toNat))).2.1 (uread 0 (natB (bs.drop i.toNat))).2.2 (by omega) (Prod.ext h0 (Prod.ext rfl rfl))
    refine ⟨h3, h4, h2, ?_, hlt⟩
    apply natB_inj
    rw [natB_uencB, natB_take, ← e2, hu.2.1]
    congr 1
    omega
  · rename_i h0
    simp only [Prod.mk.injEq] at h
    omega
theorem take_drop_mid {α : Type} (l : List α) (a b : Nat) (h : a ≤ b) : l.take a ++ (l.drop a).take (b - a) = l.take b := by
  rw [← List.take_append_drop a (l.take b), List.take_take, Nat.min_eq_left h, List.drop_take]
theorem wrap_num {v : Nat} (hv : v < 18446744073709551616) (h : 0 ≤ wrap64 (v : Int)) : wrap64 (v : Int) = (v : Int) := by
  unfold wrap64 at h ⊢
  omega
theorem headS_back {s s' : Scn} {p : List UInt8} (h : headS s p = some s') : ∃ num q a, numB num = true ∧ rightC ⟨q, a, []⟩ = true ∧ p = markS ++ putS num q a ∧ s' = { s with num := num, bq := q, ba := a, c := ⟨q, a, []⟩ } := by
  unfold headS at h
  split at h
  · rename_i hp
    simp only at h
    split at h
    · cases h
    · rename_i hn
      injection h with h
      obtain ⟨t, ht⟩ := List.isPrefixOf_iff_prefix.1 hp
      have hd : p.drop 4 = t := by rw [← ht]; rfl
      rw [hd] at hn h
      unfold three at hn h
      simp only at hn h
      simp only [not_or, ne_eq, Decidable.not_not] at hn
      obtain ⟨n1, n2, n3, n4⟩ := hn
      rcases hr1 : uRes t 0 0 with ⟨x1, er1, v1⟩
      rw [hr1] at n1 n2 n3 n4 h
      simp only at n1 n2 n3 n4 h
      rcases hr2 : uRes t x1 er1 with ⟨x2, er2, v2⟩
      rw [hr2] at n1 n2 n4 h
      simp only at n1 n2 n4 h
      rcases hr3 : uRes t x2 er2 with ⟨x3, er3, v3⟩
      rw [hr3] at n1 n2 n4 h
      simp only at n1 n2 n4 h
      subst n1
      obtain ⟨rfl, -⟩ := uRes_ok _ _ _ _ _ hr3
      obtain ⟨rfl, -⟩ := uRes_ok _ _ _ _ _ hr2
      obtain ⟨a1, a2, a3, a4, a5⟩ := uread_at _ _ _ _ hr1
      obtain ⟨b1, b2, b3, b4, b5⟩ := uread_at _ _ _ _ hr2
      obtain ⟨c1, c2, c3, c4, c5⟩ := uread_at _ _ _ _ hr3
      have m1 : numB (wrap64 (v1 : Int)) = true := by simpa using n3
      have m4 : rightC ⟨wrap64 (v2 : Int), wrap64 (v3 : Int), []⟩ = true := by simpa using n4
      have w1 : wrap64 (v1 : Int) = (v1 : Int) := wrap_num a5 (by unfold numB at m1; simp only [Bool.and_eq_true, decide_eq_true_eq] at m1; omega)
      obtain ⟨g1, g2, g3, g4⟩ := right_bd m4
      have w2 : wrap64 (v2 : Int) = (v2 : Int) := wrap_num b5 g1
      have w3 : wrap64 (v3 : Int) = (v3 : Int) := wrap_num c5 g3
      rw [w1, w2, w3] at h
      rw [w1] at m1
      rw [w2, w3] at m4
      refine ⟨(v1 : Int), (v2 : Int), (v3 : Int), m1, m4, ?_, h.symm⟩
      rw [← ht]
      unfold putS
      simp only [Int.toNat_natCast]
      rw [a4, b4, c4]
      congr 1
      have k1 : (List.drop (0 : Int).toNat t).take (x1 - 0).toNat = t.take x1.toNat := by simp
      have k2 : (x2 - x1).toNat = x2.toNat - x1.toNat := by omega
      have k3 : (x3 - x2).toNat = x3.toNat - x2.toNat := by omega
      rw [k1, k2, k3, take_drop_mid _ _ _ (by omega), take_drop_mid _ _ _ (by omega), List.take_of_length_le (by omega)]
  · cases h
theorem scn0_good : GoodS scn0 := ⟨fun _ => ⟨rfl, rfl⟩, fun h => absurd rfl h⟩
theorem takeS_good {s s' : Scn} {kind : Int} {p : List UInt8} (h : takeS s kind p = some s') (hg : GoodS s) : GoodS s' ∧ builtS s' = builtS s ++ frameB kind p ∧ s.sealed = false ∧ s'.evs.take s.evs.length = s.evs ∧ s.evs.length ≤ s'.evs.length ∧ s'.num ≠ 0 := by
  unfold takeS at h
  split at h
  · cases h
  rename_i hs
  have hs : s.sealed = false := by simpa using hs
  split at h
  · rename_i hn
    split at h
    · rename_i hk
      subst hk
      obtain ⟨num, q, a, h1, h2, rfl, rfl⟩ := headS_back h
      obtain ⟨e1, -⟩ := hg.none_ hn
      have hne : num ≠ 0 := by unfold numB at h1; simp only [Bool.and_eq_true, decide_eq_true_eq] at h1; omega
      refine ⟨⟨fun e => absurd e hne, fun _ => ⟨h1, h2, by simp only [e1]; trivial, by simp only [e1]; rfl⟩⟩, ?_, hs, by simp, by simp, hne⟩
      unfold builtS
      rw [if_pos hn, if_neg hne]
      simp only [e1, hs]
      simp [recsB]
    · cases h
  · rename_i hn
    obtain ⟨g1, g2, g3, g4⟩ := hg.num hn
    split at h
    · rename_i hk
      subst hk
      unfold recS at h
      split at h
      · rename_i hd
        obtain ⟨-, -, k3, k4, k5, k6⟩ := decC_ctx hd
        injection h with h
        subst h
        refine ⟨⟨fun e => absurd e hn, fun _ => ⟨g1, g2, ?_, ?_⟩⟩, ?_, hs, by simp, by simp, hn⟩
        · exact (okL_snoc _ _ _).2 ⟨g3, by rw [← g4]; exact k4⟩
        · simp only [ctxA_snoc, ← g4]; exact k6
        · unfold builtS
          rw [if_neg hn, if_neg hn]
          simp only [hs]
          rw [recsB_snoc, ← g4, k5]
          simp
      · cases h
    · split at h
      · rename_i hk
        subst hk
        split at h
        · rename_i hp
          rw [beq_iff_eq] at hp
          injection h with h
          subst h
          refine ⟨⟨fun e => absurd e hn, fun _ => ⟨g1, g2, g3, g4⟩⟩, ?_, hs, by simp, by simp, hn⟩
          unfold builtS
          rw [if_neg hn, if_neg hn]
          simp only [hs]
          rw [hp]
          simp
        · cases h
      · cases h
structure ScanOk (bs : List UInt8) (s : Scn) : Prop where
  good : GoodS s
  lo : 0 ≤ s.size
  hi : s.size ≤ (bs.length : Int)
  built : bs.take s.size.toNat = builtS s
theorem builtS_size (s : Scn) (k : Int) : builtS { s with size := k } = builtS s := rfl
theorem ScanOk.on {bs : List UInt8} {s s' : Scn} {x : UInt8} {p : List UInt8} (h : ScanOk bs s) (h1 : nextF bs s.size = .inr (x, p)) (h2 : takeS s (x.toNat : Int) p = some s') : ScanOk bs { s' with size := s.size + ((p.length : Int) + 7) } := by
  obtain ⟨a1, a2, a3, a4, a5, a6⟩ := nextF_whole _ _ _ _ h1
  obtain ⟨b1, b2, -⟩ := takeS_good h2 h.good
  have hlo := h.lo
  refine ⟨⟨fun e => b1.none_ e, fun e => b1.num e⟩, by simp only; omega, by simp only; omega, ?_⟩
  rw [builtS_size, b2, ← h.built, ← a6]
  simp only
  rw [show p.length + 7 = (s.size + ((p.length : Int) + 7)).toNat - s.size.toNat from by omega, take_drop_mid _ _ _ (by omega)]
theorem scan_ind {bs : List UInt8} {P : Scn → Scn × Int → Prop} (hend : ∀ s what, ScanOk bs s → nextF bs s.size = .inl what → P s (s, endsS (what : Int) s.sealed))
    (hnot : ∀ s x p, ScanOk bs s → nextF bs s.size = .inr (x, p) → takeS s (x.toNat : Int) p = none → P s (s, endsS 0 s.sealed))
    (hon : ∀ s s' x p r, ScanOk bs s → nextF bs s.size = .inr (x, p) → takeS s (x.toNat : Int) p = some s' → P { s' with size := s.size + ((p.length : Int) + 7) } r → P s r) :
    ∀ (k : Nat) (s : Scn), ScanOk bs s → (bs.length : Int) + 1 - s.size ≤ k → P s (scanF bs s)
  | 0, s, h, hk => by have := h.hi; omega
  | k + 1, s, h, hk => by
    cases hn : nextF bs s.size with
    | inl what => rw [scanF_end hn]; exact hend s what h hn
    | inr xp =>
      obtain ⟨x, p⟩ := xp
      cases ht : takeS s (x.toNat : Int) p with
      | none => rw [scanF_not hn ht]; exact hnot s x p h hn ht
      | some s' =>
        rw [scanF_on hn ht]
        refine hon s s' x p _ h hn ht (scan_ind hend hnot hon k _ (h.on hn ht) ?_)
        simp only
        omega
theorem scan0 (bs : List UInt8) : ScanOk bs scn0 := ⟨scn0_good, Int.le_refl _, by simp [scn0], by simp [scn0, builtS]⟩
theorem scan_end (bs : List UInt8) : ScanOk bs (scanF bs scn0).1 ∧ ((scanF bs scn0).2 = 1 ∨ (scanF bs scn0).2 = 4 → (scanF bs scn0).1.size = (bs.length : Int) ∧ (((scanF bs scn0).2 = 4) ↔ (scanF bs scn0).1.sealed = true)) := by
  refine scan_ind (P := fun s r => ScanOk bs r.1 ∧ (r.2 = 1 ∨ r.2 = 4 → r.1.size = (bs.length : Int) ∧ (r.2 = 4 ↔ r.1.sealed = true))) ?_ ?_ ?_ (bs.length + 1) scn0 (scan0 bs) (by simp [scn0])
  · intro s what h hn
    refine ⟨h, fun he => ?_⟩
    obtain ⟨w1, w2, w3⟩ := nextF_not _ _ _ hn
    simp only at he ⊢
    unfold endsS at he ⊢
    by_cases hw : (what : Int) = 1
    · rw [if_pos hw] at he ⊢
      refine ⟨w3.1 (by omega), ?_⟩
      cases s.sealed <;> simp
    · rw [if_neg hw] at he
      split at he <;> omega
  · intro s x p h hn ht
    refine ⟨h, fun he => ?_⟩
    simp only at he
    unfold endsS at he
    rw [if_neg (by omega), if_neg (by simp)] at he
    omega
  · intro s s' x p r h hn ht hr
    exact hr
theorem okL_chk : ∀ (c : Cx) (l : List Evt), okL c l → ∀ e ∈ l, chkE e = 0
  | c, x :: l, h, e, he => by
    rcases List.mem_cons.1 he with rfl | he
    · exact (errC_ok h.1).2.1
    · exact okL_chk _ l h.2 e he
theorem okL_next : ∀ (c : Cx) (l : List Evt), okL c l → ∀ (i : Nat) (a b : Evt), l[i]? = some a → l[i + 1]? = some b → a.q < b.q ∧ a.a ≤ b.a
  | c, [x], h, 0, a, b, ha, hb => by simp at hb
  | c, x :: y :: l, h, 0, a, b, ha, hb => by
    simp at ha hb
    subst ha hb
    have h1 := errC_ok h.2.1
    exact ⟨h1.2.2.1, h1.2.2.2.1⟩
  | c, x :: l, h, i + 1, a, b, ha, hb => okL_next (nextC c x) l h.2 i a b (by simpa using ha) (by simpa using hb)
theorem good_ok {s : Scn} (h : GoodS s) : ∃ c, okL c s.evs := by
  by_cases hn : s.num = 0
  · exact ⟨⟨0, 0, []⟩, by rw [(h.none_ hn).1]; trivial⟩
  · exact ⟨_, (h.num hn).2.2.1⟩
theorem scan_events (bs : List UInt8) : (∀ e ∈ (scanF bs scn0).1.evs, chkE e = 0) ∧ (∀ (i : Nat) (a b : Evt), (scanF bs scn0).1.evs[i]? = some a → (scanF bs scn0).1.evs[i + 1]? = some b → a.q < b.q ∧ a.a ≤ b.a) := by
  obtain ⟨c, hc⟩ := good_ok (scan_end bs).1.good
  exact ⟨okL_chk c _ hc, okL_next c _ hc⟩
def makeR (num : Int) (c : Cx) (l : List Evt) (sealed : Bool) : List UInt8 := frameB 1 (markS ++ putS num c.q c.a) ++ recsB c l ++ (if sealed = true then frameB 3 (putS (l.length : Int) (ctxA c l).q (ctxA c l).a) else [])
theorem scan_make (bs : List UInt8) (hn : 0 < (scanF bs scn0).1.num) (he : (scanF bs scn0).2 = 1 ∨ (scanF bs scn0).2 = 4) :
    numB (scanF bs scn0).1.num = true ∧ rightC ⟨(scanF bs scn0).1.bq, (scanF bs scn0).1.ba, []⟩ = true ∧ okL ⟨(scanF bs scn0).1.bq, (scanF bs scn0).1.ba, []⟩ (scanF bs scn0).1.evs ∧
    makeR (scanF bs scn0).1.num ⟨(scanF bs scn0).1.bq, (scanF bs scn0).1.ba, []⟩ (scanF bs scn0).1.evs (decide ((scanF bs scn0).2 = 4)) = bs := by
  obtain ⟨h1, h2⟩ := scan_end bs
  obtain ⟨h3, h4⟩ := h2 he
  have hne : (scanF bs scn0).1.num ≠ 0 := by omega
  obtain ⟨g1, g2, g3, g4⟩ := h1.good.num hne
  refine ⟨g1, g2, g3, ?_⟩
  have hb := h1.built
  rw [h3, Int.toNat_natCast, List.take_of_length_le (Nat.le_refl _)] at hb
  have hd : decide ((scanF bs scn0).2 = 4) = (scanF bs scn0).1.sealed := by
    rw [Bool.eq_iff_iff, decide_eq_true_eq]
    exact h4
  rw [hd]
  refine Eq.trans ?_ hb.symm
  unfold builtS makeR
  rw [if_neg hne, g4]
theorem nextR_cut {r : List UInt8} {k : Nat} : (∀ x p, nextR (r.take k) = .inr (x, p) → nextR r = .inr (x, p)) ∧ (∀ x p, nextR r = .inr (x, p) → p.length + 7 ≤ k → nextR (r.take k) = .inr (x, p)) ∧ (∀ x p what, nextR r = .inr (x, p) → nextR (r.take k) = .inl what → what ≠ 3) := by
  have key : ∀ x p, nextR r = .inr (x, p) → 1 ≤ (x.toNat : Int) ∧ (x.toNat : Int) ≤ 3 ∧ p.length ≤ 200 ∧ ∃ q, r = frameB (x.toNat : Int) p ++ q := by
    intro x p h
    obtain ⟨h1, h2, h3, h4, h5⟩ := nextR_whole _ _ _ h
    exact ⟨h1, h2, h3, r.drop (p.length + 7), by rw [← h5, List.take_append_drop]⟩
  refine ⟨fun x p h => ?_, fun x p h hk => ?_, fun x p what h h' => ?_⟩
  · obtain ⟨h1, h2, h3, h4, h5⟩ := nextR_whole _ _ _ h
    have e : r = frameB (x.toNat : Int) p ++ r.drop (p.length + 7) := by
      rw [← h5, List.take_take]
      rw [List.length_take] at h4
      rw [Nat.min_eq_left (by omega), List.take_append_drop]
    rw [e, nextR_frame _ _ _ h1 h2 h3]
    congr 2
    simp
  · obtain ⟨h1, h2, h3, q, rfl⟩ := key x p h
    rw [List.take_append, frameB_length, List.take_of_length_le (by rw [frameB_length]; exact hk), nextR_frame _ _ _ h1 h2 h3]
    congr 2
    simp
  · obtain ⟨h1, h2, h3, q, rfl⟩ := key x p h
    rintro rfl
    by_cases hk : p.length + 7 ≤ k
    · rw [List.take_append, frameB_length, List.take_of_length_le (by rw [frameB_length]; exact hk), nextR_frame _ _ _ h1 h2 h3] at h'
      cases h'
    · rw [List.take_append_of_le_length (by rw [frameB_length]; omega)] at h'
      have e : frameB (x.toNat : Int) p = UInt8.ofNat (p.length / 256) :: UInt8.ofNat (p.length % 256) :: UInt8.ofNat (x.toNat : Int).toNat :: (p ++ le4B (sumT step8 0 (natB (headB p.length (x.toNat : Int) ++ p)))) := by
        unfold frameB sealB headB
        simp
      have hl : (p ++ le4B (sumT step8 0 (natB (headB p.length (x.toNat : Int) ++ p)))).length = p.length + 4 := by rw [List.length_append, le4B_length]
      generalize p ++ le4B (sumT step8 0 (natB (headB p.length (x.toNat : Int) ++ p))) = t at e hl
      rw [e] at h'
      match k, hk, h' with
      | 0, _, h' => simp [nextR] at h'
      | 1, _, h' => simp [nextR] at h'
      | 2, _, h' => simp [nextR] at h'
      | k + 3, hk, h' =>
        simp only [List.take_succ_cons] at h'
        rw [nextR_cons] at h'
        have hq : 256 * (UInt8.ofNat (p.length / 256)).toNat + (UInt8.ofNat (p.length % 256)).toNat = p.length := by simp; omega
        rw [hq] at h'
        split at h'
        · cases h'
        · rw [if_neg (by omega), if_pos (by rw [List.length_take]; omega)] at h'
          cases h'
theorem nextF_cut {bs : List UInt8} {k : Nat} {at_ : Int} (h0 : 0 ≤ at_) (hk : k ≤ bs.length) (ha : at_ ≤ (k : Int)) : nextF (bs.take k) at_ = nextR ((bs.drop at_.toNat).take (k - at_.toNat)) ∧ nextF bs at_ = nextR (bs.drop at_.toNat) := by
  obtain ⟨a, rfl⟩ := Int.eq_ofNat_of_zero_le h0
  have ha : a ≤ k := by omega
  refine ⟨?_, nextF_at _ _ (by omega)⟩
  rw [nextF_at _ _ (by rw [List.length_take]; omega), Int.toNat_natCast, List.drop_take]
theorem scan_cut (bs : List UInt8) (k : Nat) (hk : k ≤ bs.length) : (scanF (bs.take k) scn0).1.evs = (scanF bs scn0).1.evs.take (scanF (bs.take k) scn0).1.evs.length ∧ ((scanF bs scn0).2 = 1 ∨ (scanF bs scn0).2 = 4 → (scanF (bs.take k) scn0).2 ≠ 3) := by
  have mono : ∀ (m : Nat) (s : Scn), ScanOk bs s → (bs.length : Int) + 1 - s.size ≤ m → (scanF bs s).1.evs.take s.evs.length = s.evs ∧ s.evs.length ≤ (scanF bs s).1.evs.length := by
    refine scan_ind (P := fun s r => r.1.evs.take s.evs.length = s.evs ∧ s.evs.length ≤ r.1.evs.length) ?_ ?_ ?_
    · intro s what h hn; simp
    · intro s x p h hn ht; simp
    · intro s s' x p r h hn ht hr
      obtain ⟨-, -, -, b1, b2, -⟩ := takeS_good ht h.good
      simp only at hr
      refine ⟨?_, by omega⟩
      have e : r.1.evs.take s.evs.length = (r.1.evs.take s'.evs.length).take s.evs.length := by rw [List.take_take, Nat.min_eq_left b2]
      rw [e, hr.1, b1]
  have key : ∀ (m : Nat) (s : Scn), ScanOk (bs.take k) s → ((bs.take k).length : Int) + 1 - s.size ≤ m → (scanF (bs.take k) s).1.evs = (scanF bs s).1.evs.take (scanF (bs.take k) s).1.evs.length ∧ ((scanF bs s).2 = 1 ∨ (scanF bs s).2 = 4 → (scanF (bs.take k) s).2 ≠ 3) := by
    have hl : (bs.take k).length = k := by rw [List.length_take]; omega
    refine scan_ind (P := fun s r => r.1.evs = (scanF bs s).1.evs.take r.1.evs.length ∧ ((scanF bs s).2 = 1 ∨ (scanF bs s).2 = 4 → r.2 ≠ 3)) ?_ ?_ ?_
    · intro s what h hn
      have hb : ScanOk bs s := ⟨h.good, h.lo, by have := h.hi; rw [hl] at this; omega, by
        have h1 := h.built
        have h2 := h.hi
        rw [hl] at h2
        rw [List.take_take, Nat.min_eq_left (by omega)] at h1
        exact h1⟩
      refine ⟨?_, fun he => ?_⟩
      · exact (mono _ s hb (Int.self_le_toNat _)).1.symm
      · have h2 := h.hi
        rw [hl] at h2
        obtain ⟨e1, e2⟩ := nextF_cut h.lo hk h2
        rw [e1] at hn
        cases hf : nextF bs s.size with
        | inl w2 =>
          rw [scanF_end hf] at he
          simp only at he ⊢
          obtain ⟨w1, w2', w3⟩ := nextF_not _ _ _ hf
          have hw2 : w2 = 1 := by
            unfold endsS at he
            by_cases hw : (w2 : Int) = 1
            · omega
            · rw [if_neg hw] at he
              split at he <;> omega
          have hs := w3.1 hw2
          have : bs.drop s.size.toNat = [] := by rw [List.drop_eq_nil_iff]; omega
          rw [this] at hn
          simp [nextR] at hn
          subst hn
          unfold endsS
          rw [if_pos (by omega)]
          split <;> omega
        | inr xp =>
          obtain ⟨x, p⟩ := xp
          rw [e2] at hf
          have hw := nextR_cut.2.2 x p what hf hn
          obtain ⟨v1, v2, -⟩ := nextR_not _ _ hn
          simp only
          have hsl : s.sealed = false := by
            cases hs : s.sealed with
            | false => rfl
            | true =>
              have ht : takeS s (x.toNat : Int) p = none := by unfold takeS; rw [if_pos hs]
              rw [← e2] at hf
              rw [scanF_not hf ht] at he
              simp only at he
              unfold endsS at he
              rw [if_neg (by omega), if_neg (by simp)] at he
              omega
          unfold endsS
          rw [hsl]
          by_cases h1 : (what : Int) = 1
          · rw [if_pos h1]; simp
          · rw [if_neg h1, if_pos ⟨by omega, rfl⟩]; omega
    · intro s x p h hn ht
      have h2 := h.hi
      rw [hl] at h2
      obtain ⟨e1, e2⟩ := nextF_cut h.lo hk h2
      rw [e1] at hn
      have hf := nextR_cut.1 x p hn
      rw [← e2] at hf
      rw [scanF_not hf ht]
      simp only
      refine ⟨by simp, fun he => ?_⟩
      unfold endsS at he
      rw [if_neg (by omega), if_neg (by simp)] at he
      omega
    · intro s s' x p r h hn ht hr
      have h2 := h.hi
      rw [hl] at h2
      obtain ⟨e1, e2⟩ := nextF_cut h.lo hk h2
      rw [e1] at hn
      have hf := nextR_cut.1 x p hn
      rw [← e2] at hf
      rw [scanF_on hf ht]
      exact hr
  exact key _ scn0 (scan0 _) (Int.self_le_toNat _)
end
end Go.Proofs.YtpokkciheejeiaaGreatDoor
