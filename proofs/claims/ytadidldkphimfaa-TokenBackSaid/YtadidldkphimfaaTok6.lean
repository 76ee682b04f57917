/- The contract of the reference's Read. -/
import Derived.Test.YtadidldkphimfaaTok5
namespace Go.Proofs.Ytadidldkphimfaa
set_option linter.unusedVariables false
open Go.RowKit Go.ChangeShapes

theorem refN_good {k h o : Nat} {l r : List UInt8} {a b : UInt8} (hl : l = a :: b :: r) (h1 : dig a = some h) (h2 : dig b = some o) : refN (k + 1) l = (refN k r).map (fun v => (16 * h + o) % 128 + 128 * v) := by
  subst hl
  rw [refN, h1, h2]
theorem refN_bad {k : Nat} {l r : List UInt8} {a b : UInt8} (hl : l = a :: b :: r) (h : dig a = none ∨ dig b = none) : refN (k + 1) l = none := by
  subst hl
  unfold refN
  rcases h with h | h
  · rw [h]
  · rw [h]; cases dig a <;> rfl
theorem dig_low {x : UInt8} (h1 : 48 ≤ x.toNat) (h2 : x.toNat ≤ 57) : dig x = some (x.toNat - 48) := by unfold dig; rw [if_pos ⟨h1, h2⟩]
theorem dig_high {x : UInt8} (h1 : 97 ≤ x.toNat) (h2 : x.toNat ≤ 102) : dig x = some (x.toNat - 87) := by unfold dig; rw [if_neg (by omega), if_pos ⟨h1, h2⟩]
theorem dig_no {x : UInt8} (h : ¬ (48 ≤ x.toNat ∧ x.toNat ≤ 57)) (h2 : ¬ (97 ≤ x.toNat ∧ x.toNat ≤ 102)) : dig x = none := by unfold dig; rw [if_neg h, if_neg h2]
def RReadOk (W : World) (r : Option Nat) (e : Ending) (w' : World) : Prop := e = .returned (.tuple #[.int .i64 (match r with | none => 0 | some n => (n : Int)), .bool r.isSome]) ∧ Below W.heap.size W w'
theorem RReadOk.of {W : World} {r r' : Option Nat} {e : Ending} {w' : World} (h : r = r') (hk : RReadOk W r' e w') : RReadOk W r e w' := h ▸ hk
theorem readR_out {E l : List UInt8} (h : l.length < 10 ∨ 18 < l.length) : readR E l = none := by unfold readR; rw [if_pos h]
theorem readR_in {E l : List UInt8} (h : ¬ (l.length < 10 ∨ 18 < l.length)) : readR E l = match refN ((l.length - 7) / 2) l with | none => none | some n => if n ≤ 4294967296 ∧ tokB E n = l then some n else none := by unfold readR; rw [if_neg h]; rfl
/-- what the loop over the two digits of a pair has come to. -/
def inn (x y : UInt8) (k v : Nat) : Prop := (k = 0 ∧ v = 0) ∨ (k = 1 ∧ dig x = some v) ∨ (k = 2 ∧ ∃ h o, dig x = some h ∧ dig y = some o ∧ v = 16 * h + o)
/-- what the loop over a token's pairs has come to: behind j pairs. -/
theorem pow128 (j : Nat) (h : j ≤ 5) : 128 ^ j ≤ 34359738368 := Nat.le_trans (Nat.pow_le_pow_right (by omega) h) (by decide)

set_option maxRecDepth 100000 in
set_option maxHeartbeats 8000000 in
theorem rRead_c {w : World} {B : Nat} {cs : List Value} {t : FT} (h : FTr w B cs t) (hrt : rightT t = true) (s : ByteArray) (W : World) (hB : Below B w W) (hBW : B ≤ W.heap.size) :
    Calls Try.prog 11 #[.agg cs.toArray, .string s] W (RReadOk W (readR (bytesT t) s.data.toList)) := by
  have HT := Lib.hid h
  have HB := Lib.hid hB
  clear hB
  cases h with
  | mk op a b name A n c vs ks hop ha hb hnm hn hv hnc hcm hr hk =>
    clear hop ha hb hn hv hr hk hnm hnc hcm
    generalize FT.mk op a b name ks = t at HT hrt ⊢
    have HK1 := Lib.hid (show Kept W (W.alloc (.cells #[.int .i64 op, .int .i64 a, .int .i64 b, .string name, .slice A n c] 24)) [(W.heap.size, 24, #[.int .i64 op, .int .i64 a, .int .i64 b, .string name, .slice A n c])] from ((Kept.start W).alloc_at 24 #[.int .i64 op, .int .i64 a, .int .i64 b, .string name, .slice A n c] (W.heap.size) (by simp)))
    have HRT := Lib.hid hrt
    clear hrt
    have hln : s.data.toList.length = s.size := by simp
    have hsz : s.size ≤ 9223372036854775807 ∨ 9223372036854775807 < s.size := by omega
    by_cases h10 : s.size < 10
    · have HE := Lib.hid (readR_out (E := bytesT t) (l := s.data.toList) (by omega))
      go_enter Try.func11, Try.ntmps11
      go_wp2
      go_ret2
      exact RReadOk.of HE.out ⟨rfl, HK1.out.bel⟩
    by_cases h18 : 18 < s.size
    · have HE := Lib.hid (readR_out (E := bytesT t) (l := s.data.toList) (by omega))
      go_enter Try.func11, Try.ntmps11
      go_wp2
      go_ret2
      exact RReadOk.of HE.out ⟨rfl, HK1.out.bel⟩
    have HRR := Lib.hid (readR_in (E := bytesT t) (l := s.data.toList) (by omega))
    obtain ⟨r, hr⟩ : ∃ r, r = (s.data.toList.length - 7) / 2 := ⟨_, rfl⟩
    rw [← hr] at HRR
    rw [hln] at hr
    go_enter Try.func11, Try.ntmps11
    go_wp2
    go_loopw [6, 7, 8] (fun nv uv iv wr => ∃ (j acc P : Nat), j ≤ r ∧ iv = .int .i64 (2 * (j : Int)) ∧ nv = .int .i64 (acc : Int) ∧ uv = .int .i64 (P : Int) ∧ acc < P ∧ Hid (P = 128 ^ j) ∧ Hid (refN r s.data.toList = (refN (r - j) (s.data.toList.drop (2 * j))).map (fun v => acc + P * v)) ∧ Hid (Kept W wr [(W.heap.size, 24, #[.int .i64 op, .int .i64 a, .int .i64 b, .string name, .slice A n c])])) (fun _ _ iv _ => 20 - (intOf iv).toNat)
    case atStart => exact ⟨0, 0, 1, by omega, rfl, rfl, rfl, by omega, Lib.hid rfl, Lib.hid (by simp), HK1⟩
    case round =>
      clear HK1
      obtain ⟨j, acc, P, hj, rfl, rfl, rfl, hacc, HP, HD, HK⟩ := hrel
      have hp5 := pow128 j (by omega)
      rw [← HP.out] at hp5
      by_cases hgo : j < r
      · have hll : 2 * j + 1 < s.data.toList.length := by omega
        have hdr := drop_two hll
        have e0 : s[2 * j]'(by omega) = s.data.toList[2 * j]'(by omega) := by simp [ByteArray.getElem_eq_getElem_data]
        have e1 : s[2 * j + 1]'(by omega) = s.data.toList[2 * j + 1]'hll := by simp [ByteArray.getElem_eq_getElem_data]
        generalize s.data.toList[2 * j]'(by omega) = x at hdr e0
        generalize s.data.toList[2 * j + 1]'hll = y at hdr e1
        have HDR := Lib.hid hdr
        clear hdr
        have hd8 : decide (2 * (j : Int) + 8 < (s.size : Int)) = true := by simp; omega
        have hrj : r - j = (r - (j + 1)) + 1 := by omega
        have hxl := x.toNat_lt
        have hyl := y.toNat_lt
        go_wp2
        go_loop [9, 10] (fun xv kv => ∃ (k v : Nat), kv = .int .i64 (k : Int) ∧ xv = .int .i64 (v : Int) ∧ Hid (inn x y k v)) (fun _ kv => 2 - (intOf kv).toNat)
        case atStart => exact ⟨0, 0, rfl, rfl, Lib.hid (.inl ⟨rfl, rfl⟩)⟩
        case round =>
          obtain ⟨k, v, rfl, rfl, HI⟩ := hrel
          rcases HI.out with ⟨rfl, rfl⟩ | ⟨rfl, hdx⟩ | ⟨rfl, h, o, hdx, hdy, rfl⟩
          · by_cases z1 : x.toNat < 48
            · have b1 : decide (48 ≤ ((x.toNat : Nat) : Int)) = false := by simp; omega
              have b3 : decide (97 ≤ ((x.toNat : Nat) : Int)) = false := by simp; omega
              have hdz : dig x = none := dig_no (by omega) (by omega)
              have HE := Lib.hid (show readR (bytesT t) s.data.toList = none from by rw [HRR.out, HD.out, hrj, refN_bad HDR.out (.inl hdz)]; rfl)
              clear hdz HI
              go_wp2
              go_ret2
              exact RReadOk.of HE.out ⟨rfl, HK.out.bel⟩
            have b1 : decide (48 ≤ ((x.toNat : Nat) : Int)) = true := by simp; omega
            by_cases z2 : x.toNat ≤ 57
            · have b2 : decide (((x.toNat : Nat) : Int) ≤ 57) = true := by simp; omega
              have HN := Lib.hid (show inn x y 1 (x.toNat - 48) from .inr (.inl ⟨rfl, dig_low (by omega) z2⟩))
              clear HI
              obtain ⟨dv, hdv⟩ : ∃ d : Nat, d = x.toNat - 48 := ⟨_, rfl⟩
              rw [← hdv] at HN
              have hsub : IntKind.u8.wrap (((x.toNat : Nat) : Int) - 48) = ((x.toNat : Nat) : Int) - 48 := IntWalk.u8_in _ (by omega)
              go_wp2
              go_round
              case rel => exact ⟨1, dv, by simp, by congr 1; omega, HN⟩
              case measure => simp [intOf]
            have b2 : decide (((x.toNat : Nat) : Int) ≤ 57) = false := by simp; omega
            by_cases z3 : x.toNat < 97
            · have b3 : decide (97 ≤ ((x.toNat : Nat) : Int)) = false := by simp; omega
              have hdz : dig x = none := dig_no (by omega) (by omega)
              have HE := Lib.hid (show readR (bytesT t) s.data.toList = none from by rw [HRR.out, HD.out, hrj, refN_bad HDR.out (.inl hdz)]; rfl)
              clear hdz HI
              go_wp2
              go_ret2
              exact RReadOk.of HE.out ⟨rfl, HK.out.bel⟩
            have b3 : decide (97 ≤ ((x.toNat : Nat) : Int)) = true := by simp; omega
            by_cases z4 : x.toNat ≤ 102
            · have b4 : decide (((x.toNat : Nat) : Int) ≤ 102) = true := by simp; omega
              have HN := Lib.hid (show inn x y 1 (x.toNat - 87) from .inr (.inl ⟨rfl, dig_high (by omega) z4⟩))
              clear HI
              obtain ⟨dv, hdv⟩ : ∃ d : Nat, d = x.toNat - 87 := ⟨_, rfl⟩
              rw [← hdv] at HN
              have hsub : IntKind.u8.wrap (((x.toNat : Nat) : Int) - 97) = ((x.toNat : Nat) : Int) - 97 := IntWalk.u8_in _ (by omega)
              go_wp2
              go_round
              case rel => exact ⟨1, dv, by simp, by congr 1; omega, HN⟩
              case measure => simp [intOf]
            · have b4 : decide (((x.toNat : Nat) : Int) ≤ 102) = false := by simp; omega
              have hdz : dig x = none := dig_no (by omega) (by omega)
              have HE := Lib.hid (show readR (bytesT t) s.data.toList = none from by rw [HRR.out, HD.out, hrj, refN_bad HDR.out (.inl hdz)]; rfl)
              clear hdz HI
              go_wp2
              go_ret2
              exact RReadOk.of HE.out ⟨rfl, HK.out.bel⟩
          · by_cases z1 : y.toNat < 48
            · have b1 : decide (48 ≤ ((y.toNat : Nat) : Int)) = false := by simp; omega
              have b3 : decide (97 ≤ ((y.toNat : Nat) : Int)) = false := by simp; omega
              have hdz : dig y = none := dig_no (by omega) (by omega)
              have HE := Lib.hid (show readR (bytesT t) s.data.toList = none from by rw [HRR.out, HD.out, hrj, refN_bad HDR.out (.inr hdz)]; rfl)
              clear hdz HI
              go_wp2
              go_ret2
              exact RReadOk.of HE.out ⟨rfl, HK.out.bel⟩
            have b1 : decide (48 ≤ ((y.toNat : Nat) : Int)) = true := by simp; omega
            by_cases z2 : y.toNat ≤ 57
            · have b2 : decide (((y.toNat : Nat) : Int) ≤ 57) = true := by simp; omega
              have HN := Lib.hid (show inn x y 2 (16 * v + (y.toNat - 48)) from .inr (.inr ⟨rfl, v, _, hdx, dig_low (by omega) z2, rfl⟩))
              have hv16 := dig_lt hdx
              clear HI hdx
              obtain ⟨dv, hdv⟩ : ∃ d : Nat, d = y.toNat - 48 := ⟨_, rfl⟩
              rw [← hdv] at HN
              have hsub : IntKind.u8.wrap (((y.toNat : Nat) : Int) - 48) = ((y.toNat : Nat) : Int) - 48 := IntWalk.u8_in _ (by omega)
              go_wp2
              go_round
              case rel => exact ⟨2, 16 * v + dv, by simp, by congr 1; omega, HN⟩
              case measure => simp [intOf]
            have b2 : decide (((y.toNat : Nat) : Int) ≤ 57) = false := by simp; omega
            by_cases z3 : y.toNat < 97
            · have b3 : decide (97 ≤ ((y.toNat : Nat) : Int)) = false := by simp; omega
              have hdz : dig y = none := dig_no (by omega) (by omega)
              have HE := Lib.hid (show readR (bytesT t) s.data.toList = none from by rw [HRR.out, HD.out, hrj, refN_bad HDR.out (.inr hdz)]; rfl)
              clear hdz HI
              go_wp2
              go_ret2
              exact RReadOk.of HE.out ⟨rfl, HK.out.bel⟩
            have b3 : decide (97 ≤ ((y.toNat : Nat) : Int)) = true := by simp; omega
            by_cases z4 : y.toNat ≤ 102
            · have b4 : decide (((y.toNat : Nat) : Int) ≤ 102) = true := by simp; omega
              have HN := Lib.hid (show inn x y 2 (16 * v + (y.toNat - 87)) from .inr (.inr ⟨rfl, v, _, hdx, dig_high (by omega) z4, rfl⟩))
              have hv16 := dig_lt hdx
              clear HI hdx
              obtain ⟨dv, hdv⟩ : ∃ d : Nat, d = y.toNat - 87 := ⟨_, rfl⟩
              rw [← hdv] at HN
              have hsub : IntKind.u8.wrap (((y.toNat : Nat) : Int) - 97) = ((y.toNat : Nat) : Int) - 97 := IntWalk.u8_in _ (by omega)
              go_wp2
              go_round
              case rel => exact ⟨2, 16 * v + dv, by simp, by congr 1; omega, HN⟩
              case measure => simp [intOf]
            · have b4 : decide (((y.toNat : Nat) : Int) ≤ 102) = false := by simp; omega
              have hdz : dig y = none := dig_no (by omega) (by omega)
              have HE := Lib.hid (show readR (bytesT t) s.data.toList = none from by rw [HRR.out, HD.out, hrj, refN_bad HDR.out (.inr hdz)]; rfl)
              clear hdz HI
              go_wp2
              go_ret2
              exact RReadOk.of HE.out ⟨rfl, HK.out.bel⟩
          · have h16 := dig_lt hdx
            have o16 := dig_lt hdy
            have HN := Lib.hid (show refN r s.data.toList = (refN (r - (j + 1)) (s.data.toList.drop (2 * (j + 1)))).map (fun v => (acc + P * ((16 * h + o) % 128)) + P * 128 * v) from by rw [HD.out, hrj, refN_good HDR.out hdx hdy, Option.map_map]; congr 1; funext v; simp only [Function.comp]; rw [Nat.mul_add, Nat.mul_assoc, Nat.add_assoc])
            have hm : (16 * h + o) % 128 ≤ 127 := by omega
            have hp4 : P ≤ 268435456 := by rw [HP.out]; exact Nat.pow_le_pow_right (n := 128) (by omega) (show j ≤ 4 from by omega)
            have HP' := Lib.hid (show P * 128 = 128 ^ (j + 1) from by rw [HP.out, Nat.pow_succ])
            have hacc' : acc + P * ((16 * h + o) % 128) < P * 128 := by have := Nat.mul_le_mul_left P hm; omega
            have hmul : P * ((16 * h + o) % 128) ≤ 268435456 * 127 := Nat.mul_le_mul hp4 hm
            clear HD HDR hdx hdy HI hrj
            obtain ⟨v, hv⟩ : ∃ v, v = 16 * h + o := ⟨_, rfl⟩
            rw [← hv] at HN hm hacc' hmul ⊢
            have hv0 : ((v : Nat) : Int).tmod 128 = ((v % 128 : Nat) : Int) := by rw [Int.tmod_eq_emod_of_nonneg (by omega)]; omega
            generalize v % 128 = u at HN hm hacc' hmul hv0
            have hPu : ((P : Int) * (u : Int)) = ((P * u : Nat) : Int) := by simp
            generalize P * u = m at HN hacc' hmul hPu
            have hw1 : IntKind.i64.wrap ((P : Int) * (u : Int)) = (m : Int) := by rw [hPu]; exact IntWalk.i64_in _ (by omega)
            have hw2 : IntKind.i64.wrap ((P : Int) * 128) = (P : Int) * 128 := IntWalk.i64_in _ (by omega)
            clear hPu hv
            go_wp2
            go_roundw
            case rel => exact ⟨j + 1, acc + m, P * 128, by omega, by first | rfl | (congr 1; omega), by first | rfl | (congr 1), by first | rfl | (congr 1), hacc', HP', HN, HK⟩
            case measure => simp [intOf]; omega
      · have hjr : j = r := by omega
        have HA := Lib.hid (show readR (bytesT t) s.data.toList = if acc ≤ 4294967296 ∧ tokB (bytesT t) acc = s.data.toList then some acc else none from by rw [HRR.out, HD.out, hjr, Nat.sub_self]; simp [refN])
        have hd8 : decide (2 * (j : Int) + 8 < (s.size : Int)) = false := by simp; omega
        clear hjr HD HP
        by_cases hbig : 4294967296 < acc
        · have HE := Lib.hid (show readR (bytesT t) s.data.toList = none from by rw [HA.out, if_neg (by omega)])
          have db : decide (4294967296 < (acc : Int)) = true := by simp; omega
          go_wp2
          go_ret2
          exact RReadOk.of HE.out ⟨rfl, HK.out.bel⟩
        have db : decide (4294967296 < (acc : Int)) = false := by simp; omega
        have c_f_0 : wr.cell? ⟨W.heap.size, 0, none⟩ = some (.int .i64 op) := HK.out.cell 0 rfl 0
        have c_f_1 : wr.cell? ⟨W.heap.size, 1, none⟩ = some (.int .i64 a) := HK.out.cell 0 rfl 1
        have c_f_2 : wr.cell? ⟨W.heap.size, 2, none⟩ = some (.int .i64 b) := HK.out.cell 0 rfl 2
        have c_f_3 : wr.cell? ⟨W.heap.size, 3, none⟩ = some (.string name) := HK.out.cell 0 rfl 3
        have c_f_4 : wr.cell? ⟨W.heap.size, 4, none⟩ = some (.slice A n c) := HK.out.cell 0 rfl 4
        go_wp2_with fail
        with_reducible refine (rMake_c HT.out HRT.out acc (by omega) _ (HB.out.trans (HK.out.bel.mono hBW)) (Nat.le_trans hBW HK.out.size)).mono ?_
        rintro e w3 ⟨rfl, hb3⟩
        clear c_f_0 c_f_1 c_f_2 c_f_3 c_f_4
        have HK2 := Lib.hid (show Kept W w3 [(W.heap.size, 24, #[.int .i64 op, .int .i64 a, .int .i64 b, .string name, .slice A n c])] from HK.out.next hb3)
        clear HK
        clear hb3
        generalize tokB (bytesT t) acc = tk at HA ⊢
        by_cases heq : tk = s.data.toList
        · have HE := Lib.hid (show readR (bytesT t) s.data.toList = some acc from by rw [HA.out, if_pos ⟨by omega, heq⟩])
          have hnb : (tk == s.toList) = true := by rw [ba_toList, beq_iff_eq]; exact heq
          clear HA HRR heq
          go_wp2
          go_ret2
          exact RReadOk.of HE.out ⟨rfl, HK2.out.bel⟩
        · have HE := Lib.hid (show readR (bytesT t) s.data.toList = none from by rw [HA.out, if_neg (fun h => heq h.2)])
          have hnb : (tk == s.toList) = false := by rw [ba_toList, beq_eq_false_iff_ne]; exact heq
          clear HA HRR heq
          go_wp2
          go_ret2
          exact RReadOk.of HE.out ⟨rfl, HK2.out.bel⟩
end Go.Proofs.Ytadidldkphimfaa
