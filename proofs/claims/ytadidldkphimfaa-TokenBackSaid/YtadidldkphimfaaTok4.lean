/- The contract of token.number. -/
import Derived.Test.YtadidldkphimfaaTok3
namespace Go.Proofs.Ytadidldkphimfaa
set_option linter.unusedVariables false
open Go.RowKit Go.ChangeShapes

def ixD (x : UInt8) : Int := match dig x with | some v => (v : Int) | none => -1
theorem hex_index (x : UInt8) : Lib.indexByte hexLit.data.toList x = ixD x := by
  have h : ∀ i : Fin 256, Lib.indexByte hexLit.data.toList (UInt8.ofNat i.val) = ixD (UInt8.ofNat i.val) := by decide +kernel
  have := h ⟨x.toNat, x.toNat_lt⟩
  simpa using this
theorem or_digits : ∀ h : Fin 16, ∀ o : Fin 16, bits .or .i64 ((h.val : Int) * 16) (o.val : Int) = ((16 * h.val + o.val : Nat) : Int) := by decide +kernel
theorem or_digit {h o : Nat} (hh : h < 16) (ho : o < 16) : bits .or .i64 ((h : Int) * 16) (o : Int) = ((16 * h + o : Nat) : Int) := or_digits ⟨h, hh⟩ ⟨o, ho⟩
def numR (l : List UInt8) : Int × Bool := match numF l with | none => (0, false) | some n => ((n : Int), true)
def NumOk (W : World) (r : Int × Bool) (e : Ending) (w' : World) : Prop := e = .returned (.tuple #[.int .i64 r.1, .bool r.2]) ∧ Below W.heap.size W w'
theorem NumOk.of {W : World} {r r' : Int × Bool} {e : Ending} {w' : World} (h : r = r') (hk : NumOk W r' e w') : NumOk W r e w' := h ▸ hk
theorem numR_none {l : List UInt8} (h : decN 10 l = none) : numR l = (0, false) := by unfold numR numF; rw [h]
theorem numR_bad {l b : List UInt8} (h : decN 10 l = some b) (hb : ¬ ((uread 0 (natB b)).1 = 0 ∧ (uread 0 (natB b)).2.1 ≤ 4294967296)) : numR l = (0, false) := by unfold numR numF; rw [h]; simp only; rw [if_neg hb]
theorem numR_ok {l b : List UInt8} (h : decN 10 l = some b) (hb : (uread 0 (natB b)).1 = 0 ∧ (uread 0 (natB b)).2.1 ≤ 4294967296) : numR l = (((uread 0 (natB b)).2.1 : Int), true) := by unfold numR numF; rw [h]; simp only; rw [if_pos hb]
theorem decN_stop {k : Nat} {l : List UInt8} (h : k = 0 ∨ l.length < 2) : decN k l = some [] := by
  match k, l, h with
  | 0, _, _ => unfold decN; rfl
  | k + 1, [], _ => rfl
  | k + 1, [x], _ => rfl
  | k + 1, x :: y :: l, h => simp at h; omega
theorem decN_bad {k : Nat} {l r : List UInt8} {a b : UInt8} (hl : l = a :: b :: r) (h : dig a = none ∨ dig b = none) : decN (k + 1) l = none := by
  subst hl
  unfold decN
  rcases h with h | h
  · rw [h]
  · rw [h]; cases dig a <;> rfl
theorem decN_good {k h o : Nat} {l r : List UInt8} {a b : UInt8} (hl : l = a :: b :: r) (h1 : dig a = some h) (h2 : dig b = some o) : decN (k + 1) l = (decN k r).map (UInt8.ofNat (16 * h + o) :: ·) := by
  subst hl
  rw [decN, h1, h2]
theorem drop_two {l : List UInt8} {j : Nat} (h : 2 * j + 1 < l.length) : l.drop (2 * j) = l[2 * j]'(by omega) :: l[2 * j + 1] :: l.drop (2 * (j + 1)) := by
  rw [List.drop_eq_getElem_cons (by omega), List.drop_eq_getElem_cons (by omega)]
  rfl

set_option maxRecDepth 100000 in
set_option maxHeartbeats 8000000 in
theorem number_c (s : ByteArray) (W : World) (hs : s.size ≤ 1000000) : Calls Try.prog 27 #[.string s] W (NumOk W (numR s.data.toList)) := by
  have HR := Lib.hid (show numR s.data.toList = numR s.data.toList from rfl)
  obtain ⟨i0, hi0, hz0, hz1, hz2⟩ := info_parts Try.infoU8
  go_enter Try.func27, Try.ntmps27
  go_wp2
  go_loopw [4, 5] (fun bv iv wr => ∃ (j : Nat) (bl : List UInt8), j ≤ 10 ∧ 2 * j ≤ s.size ∧ iv = .int .i64 ((2 * j : Nat) : Int) ∧ Hid (wr.ownsRow W.heap.size 5 1 bv j (byteCells bl)) ∧ Hid (Below W.heap.size W wr) ∧ Hid (decN 10 s.data.toList = (decN (10 - j) (s.data.toList.drop (2 * j))).map (bl ++ ·))) (fun _ iv _ => s.size - (intOf iv).toNat)
  case atStart => exact ⟨0, [], by omega, by omega, rfl, Lib.hid ⟨rfl, .inl ⟨rfl, rfl⟩⟩, Lib.hid (Below.refl _ _), Lib.hid (by simp)⟩
  case round =>
    obtain ⟨j, bl, hj, hjs, rfl, HO, HB, HD⟩ := hrel
    have hbs := HB.out.size
    obtain ⟨Ab, cb, rfl, hcb, -, -, hrb⟩ := own_reads HO.out
    have HRb := Lib.hid hrb
    clear hrb
    by_cases hgo : 2 * j + 1 < s.size ∧ j < 10
    · obtain ⟨g1, g2⟩ := hgo
      have hll : 2 * j + 1 < s.data.toList.length := by simpa using g1
      have hdr := drop_two hll
      have e0 : s[2 * j]'(by omega) = s.data.toList[2 * j]'(by omega) := by simp [ByteArray.getElem_eq_getElem_data]
      have e1 : s[2 * j + 1]'g1 = s.data.toList[2 * j + 1]'hll := by simp [ByteArray.getElem_eq_getElem_data]
      generalize s.data.toList[2 * j]'(by omega) = x at hdr e0
      generalize s.data.toList[2 * j + 1]'hll = y at hdr e1
      have HDR := Lib.hid hdr
      clear hdr hll
      have hix : ∀ z : UInt8, Lib.indexByte hexLit.data.toList ((z.toNat : Int).toNat.toUInt8) = ixD z := fun z => by rw [show ((z.toNat : Int).toNat.toUInt8) = z from by simp]; exact hex_index z
      have HIX := Lib.hid hix
      clear hix
      go_wp2_with fail
      refine (Try.strings_IndexByte hexLit (x.toNat : Int) wr).mono ?_
      rintro e w' ⟨rfl, rfl⟩
      rw [HIX.out x]
      go_wp2_with fail
      refine (Try.strings_IndexByte hexLit (y.toNat : Int) w').mono ?_
      rintro e w'' ⟨rfl, rfl⟩
      rw [HIX.out y]
      have hk10 : 10 - j = (10 - (j + 1)) + 1 := by omega
      cases hx : dig x with
      | none =>
        rw [show ixD x = -1 from by unfold ixD; rw [hx]]
        generalize ixD y = iy
        have HE := Lib.hid (numR_none (show decN 10 s.data.toList = none from by rw [HD.out, hk10, decN_bad HDR.out (.inl hx)]; rfl))
        go_wp2
        go_ret2
        exact NumOk.of HE.out ⟨rfl, HB.out⟩
      | some h =>
        rw [show ixD x = (h : Int) from by unfold ixD; rw [hx]]
        have hh := dig_lt hx
        cases hy : dig y with
        | none =>
          rw [show ixD y = -1 from by unfold ixD; rw [hy]]
          have HE := Lib.hid (numR_none (show decN 10 s.data.toList = none from by rw [HD.out, hk10, decN_bad HDR.out (.inr hy)]; rfl))
          go_wp2
          go_ret2
          exact NumOk.of HE.out ⟨rfl, HB.out⟩
        | some o =>
          rw [show ixD y = (o : Int) from by unfold ixD; rw [hy]]
          have ho := dig_lt hy
          have HN := Lib.hid (show decN 10 s.data.toList = (decN (10 - (j + 1)) (s.data.toList.drop (2 * (j + 1)))).map ((bl ++ [UInt8.ofNat (16 * h + o)]) ++ ·) from by rw [HD.out, hk10, decN_good HDR.out hx hy, Option.map_map]; congr 1; funext z; simp)
          have hor := or_digit hh ho
          have hlt : 16 * h + o < 256 := by omega
          have hwr : IntKind.u8.wrap ((16 * h + o : Nat) : Int) = ((16 * h + o : Nat) : Int) := IntWalk.u8_in _ (by omega)
          have hby : ((UInt8.ofNat (16 * h + o)).toNat : Int) = ((16 * h + o : Nat) : Int) := byte_ofNat _ hlt
          generalize 16 * h + o = v at HN hor hlt hwr hby
          clear hx hy HD HDR HIX hk10
          have dh : decide ((h : Int) < 0) = false := by simp
          have do' : decide ((o : Int) < 0) = false := by simp
          go_wp2_with (at_builtin; go_must (refine wpList_append_any _ rfl _ _ 37 rfl W.heap.size 5 i0 _ 1 1 Try.underlying37 hi0 hz0 hz1 hz2 rfl (by omega) _ j (byteCells bl) rfl (HO.out.alloc _) (w''.heap.size + 1) (some ⟨w''.heap.size, 0, none⟩) 1 1 [.int .u8 (v : Int)] rfl (Reads.of_blk (Blk.new w'' 5 #[.int .u8 (v : Int)]) 1 _ rfl rfl) (by intro u hu; simp at hu; subst hu; rfl) (by unfold maxLen; omega) (by omega) (by simp; omega) ?_); intro v4 w4 hown4 hg4 hat4; clear hat4; have HB4 := Lib.hid (below_own (HB.out.alloc hbs (.cells #[.int .u8 (v : Int)] 5)) hg4 (HO.out.alloc _) (Nat.le_refl _) (by simp; omega)); clear hg4; have HO4 := Lib.hid (show w4.ownsRow W.heap.size 5 1 v4 (j + 1) (byteCells (bl ++ [UInt8.ofNat v])) from (by rw [byteCells_append, show byteCells [UInt8.ofNat v] = [.int .u8 (v : Int)] from by simp only [byteCells, List.map_cons, List.map_nil]; rw [hby]]; exact hown4)); clear hown4)
          go_roundw
          case rel => exact ⟨j + 1, bl ++ [UInt8.ofNat v], by omega, by omega, by rw [show ((2 * (j + 1) : Nat) : Int) = 2 * (j : Int) + 2 from by omega], HO4, HB4, HN⟩
          case measure => simp [intOf]; omega
    · have HE1 := Lib.hid (show decN 10 s.data.toList = some bl from by rw [HD.out, decN_stop (by rw [List.length_drop]; have h1 : s.data.toList.length = s.size := (by simp); omega)]; simp)
      have hjl := HRb.out.lenB
      have hur := uRes_at bl 0 (Nat.zero_le _)
      simp only [List.drop_zero, Int.natCast_zero, Int.zero_add] at hur
      obtain ⟨e1, n1, s1, hR⟩ : ∃ e1 n1 s1, uread 0 (natB bl) = (e1, n1, s1) := ⟨_, _, _, rfl⟩
      rw [hR] at hur
      simp only at hur
      clear HD HO
      by_cases g1 : 2 * j + 1 < s.size
      · have g2 : ¬ j < 10 := fun h => hgo ⟨g1, h⟩
        go_wp2_with fail
        refine (Start_c Ab j cb wr hcb).mono ?_
        rintro e w5 ⟨rfl, hb5⟩
        have HR5 := Lib.hid ((HRb.out.below hb5).more hb5.size)
        have HB5 := Lib.hid (HB.out.trans (hb5.mono hbs))
        clear hb5
        go_wp2_with fail
        refine (Uint_c Ab j j 0 0 bl _ w5 HR5.out (Nat.le_refl _) (Nat.le_refl _) (by omega) (by omega)).mono ?_
        by_cases he : e1 = 0
        · rw [show uRes bl 0 0 = ((s1 : Int), 0, n1) from by rw [hur, if_pos he]]
          rintro e w6 ⟨rfl, hb6⟩
          have HB6 := Lib.hid (HB5.out.trans (hb6.mono HB5.out.size))
          have hs6 := HB6.out.size
          clear hb6
          by_cases hn : n1 ≤ 4294967296
          · have HE := Lib.hid (show numR s.data.toList = ((n1 : Int), true) from by rw [numR_ok HE1.out (by rw [hR]; exact ⟨he, hn⟩), hR])
            have dn : decide (4294967296 < (n1 : Int)) = false := by simp; omega
            clear hur hR he
            go_wp2
            go_ret2
            exact NumOk.of HE.out ⟨rfl, HB6.out.alloc hs6 _⟩
          · have HE := Lib.hid (show numR s.data.toList = (0, false) from numR_bad HE1.out (by rw [hR]; exact fun h => hn h.2))
            have dn : decide (4294967296 < (n1 : Int)) = true := by simp; omega
            clear hur hR he
            go_wp2
            go_ret2
            exact NumOk.of HE.out ⟨rfl, HB6.out.alloc hs6 _⟩
        · rw [show uRes bl 0 0 = (0, (e1 : Int), 0) from by rw [hur, if_neg he]]
          rintro e w6 ⟨rfl, hb6⟩
          have HB6 := Lib.hid (HB5.out.trans (hb6.mono HB5.out.size))
          have hs6 := HB6.out.size
          clear hb6
          have HE := Lib.hid (show numR s.data.toList = (0, false) from numR_bad HE1.out (by rw [hR]; exact fun h => he h.1))
          have dn : ((e1 : Int) != 0) = true := by rw [bne_iff_ne]; omega
          clear hur hR
          go_wp2
          go_ret2
          exact NumOk.of HE.out ⟨rfl, HB6.out.alloc hs6 _⟩
      · clear hgo
        go_wp2_with fail
        refine (Start_c Ab j cb wr hcb).mono ?_
        rintro e w5 ⟨rfl, hb5⟩
        have HR5 := Lib.hid ((HRb.out.below hb5).more hb5.size)
        have HB5 := Lib.hid (HB.out.trans (hb5.mono hbs))
        clear hb5
        go_wp2_with fail
        refine (Uint_c Ab j j 0 0 bl _ w5 HR5.out (Nat.le_refl _) (Nat.le_refl _) (by omega) (by omega)).mono ?_
        by_cases he : e1 = 0
        · rw [show uRes bl 0 0 = ((s1 : Int), 0, n1) from by rw [hur, if_pos he]]
          rintro e w6 ⟨rfl, hb6⟩
          have HB6 := Lib.hid (HB5.out.trans (hb6.mono HB5.out.size))
          have hs6 := HB6.out.size
          clear hb6
          by_cases hn : n1 ≤ 4294967296
          · have HE := Lib.hid (show numR s.data.toList = ((n1 : Int), true) from by rw [numR_ok HE1.out (by rw [hR]; exact ⟨he, hn⟩), hR])
            have dn : decide (4294967296 < (n1 : Int)) = false := by simp; omega
            clear hur hR he
            go_wp2
            go_ret2
            exact NumOk.of HE.out ⟨rfl, HB6.out.alloc hs6 _⟩
          · have HE := Lib.hid (show numR s.data.toList = (0, false) from numR_bad HE1.out (by rw [hR]; exact fun h => hn h.2))
            have dn : decide (4294967296 < (n1 : Int)) = true := by simp; omega
            clear hur hR he
            go_wp2
            go_ret2
            exact NumOk.of HE.out ⟨rfl, HB6.out.alloc hs6 _⟩
        · rw [show uRes bl 0 0 = (0, (e1 : Int), 0) from by rw [hur, if_neg he]]
          rintro e w6 ⟨rfl, hb6⟩
          have HB6 := Lib.hid (HB5.out.trans (hb6.mono HB5.out.size))
          have hs6 := HB6.out.size
          clear hb6
          have HE := Lib.hid (show numR s.data.toList = (0, false) from numR_bad HE1.out (by rw [hR]; exact fun h => he h.1))
          have dn : ((e1 : Int) != 0) = true := by rw [bne_iff_ne]; omega
          clear hur hR
          go_wp2
          go_ret2
          exact NumOk.of HE.out ⟨rfl, HB6.out.alloc hs6 _⟩
end Go.Proofs.Ytadidldkphimfaa
