/- Contracts of crc.Sum and of its references. -/
import Derived.Test.YtadidldkphimfaaCrc
import Derived.Test.YtadidldkphimfaaBytes
namespace Go.Proofs.Ytadidldkphimfaa
set_option linter.unusedVariables false
open Go.RowKit

theorem xor_max (g : Nat) (hg : g < 4294967296) : bits .xor .u32 IntKind.u32.max ((g ^^^ maskN : Nat) : Int) = (g : Int) := by
  have e2 : IntKind.u32.max = ((maskN : Nat) : Int) := rfl
  rw [e2, u32_xor_nat _ _ (by decide) (xor_lt32 hg (by decide)), Nat.xor_comm, xor_same_right]
theorem xor_max' (g : Nat) (hg : g < 4294967296) : bits .xor .u32 IntKind.u32.max (g : Int) = ((g ^^^ maskN : Nat) : Int) := by
  have e2 : IntKind.u32.max = ((maskN : Nat) : Int) := rfl
  rw [e2, u32_xor_nat _ _ (by decide) hg, Nat.xor_comm]
theorem xor_low (g x : Nat) (hx : x < 256) : bits .xor .u8 ((g : Int) % 256) (x : Int) = ((g % 256 ^^^ x : Nat) : Int) := by
  have e : (g : Int) % 256 = ((g % 256 : Nat) : Int) := by omega
  rw [e, u8_xor_nat _ _ (by omega) hx]
theorem xor_high (a g : Nat) (ha : a < 4294967296) (hg : g < 4294967296) : bits .xor .u32 (a : Int) ((g : Int) / 256) = ((a ^^^ g / 256 : Nat) : Int) := by
  have e : (g : Int) / 256 = ((g / 256 : Nat) : Int) := by omega
  rw [e, u32_xor_nat _ _ ha (by omega)]
theorem goN_snoc (t : Nat → Nat) (n : Nat) (b : List Nat) (x : Nat) : goN t n (b ++ [x]) = t (goN t n b % 256 ^^^ x) ^^^ goN t n b / 256 := by simp [goN]

set_option maxRecDepth 100000 in
theorem Sum_c (t : Nat → Nat) (ht : ∀ i, i < 256 → t i < 4294967296) (s : Nat) (hs : s < 4294967296) (A : Option Addr) (n c B : Nat) (bs : List UInt8) (w : World) (hr : Reads w B 1 A n (byteCells bs)) (hB : B ≤ w.heap.size) (hn : n ≤ 1000000) :
    Calls Try.prog 18 #[.agg (tabArr t), .int .u32 s, .slice A n c] w fun e w' => e = .returned (.int .u32 (sumT t s (natB bs))) ∧ Below w.heap.size w w' := by
  have hl := hr.lenB
  have HL := Lib.hid hl; clear hl
  go_enter Try.func18, Try.ntmps18
  go_wp2
  go_loop [1, 12] (fun v i => ∃ k : Nat, k ≤ n ∧ i = .int .i64 k ∧ v = .int .u32 ((goN t (s ^^^ maskN) ((natB bs).take k) ^^^ maskN : Nat) : Int)) (fun _ i => n - (intOf i).toNat)
  case atStart => exact ⟨0, Nat.zero_le _, rfl, by simp [goN, xor_same_right]⟩
  case round =>
    obtain ⟨k, hk, rfl, rfl⟩ := hrel
    by_cases hlt : k < n
    · obtain ⟨ad, x, rfl, hb, hx, hc⟩ := hr.byte_at hlt
      have hc' := (World.cell?_alloc_lt w (.cells (tabArr t) 44) (ad.add k) (by rw [block_of_add]; omega)).trans hc
      obtain ⟨g, hg⟩ : ∃ g, goN t (s ^^^ maskN) ((natB bs).take k) = g := ⟨_, rfl⟩
      have hgl : g < 4294967296 := by rw [← hg]; exact goN_lt t ht _ (fun y hy => natB_lt bs y (List.mem_of_mem_take hy)) _ (xor_lt32 hs (by decide))
      rw [hg]
      have hx1 := xor_max g hgl
      have hxl := x.toNat_lt
      clear hc hr
      obtain ⟨j, hj⟩ : ∃ j, g % 256 ^^^ x.toNat = j := ⟨_, rfl⟩
      have hjl : j < 256 := by rw [← hj]; exact xor_lt8 (by omega) hxl
      have hx2 := xor_low g x.toNat hxl
      rw [hj] at hx2
      have htab := tabArr_get t j hjl
      have htj := ht j hjl
      have hx3 := xor_high (t j) g htj hgl
      have hx4 := xor_max' (t j ^^^ g / 256) (xor_lt32 htj (by omega))
      have hj0 : (0 : Int) ≤ bits BinOp.xor IntKind.u8 (bits BinOp.xor IntKind.u32 IntKind.u32.max ((g ^^^ maskN : Nat) : Int) % 256) (x.toNat : Int) := by rw [hx1, hx2]; omega
      have hj1 : bits BinOp.xor IntKind.u8 (bits BinOp.xor IntKind.u32 IntKind.u32.max ((g ^^^ maskN : Nat) : Int) % 256) (x.toNat : Int) < 256 := by rw [hx1, hx2]; omega
      have HG := Lib.hid (show goN t (s ^^^ maskN) ((natB bs).take (k + 1)) = t j ^^^ g / 256 from by
        have e : (natB bs).take (k + 1) = (natB bs).take k ++ [x.toNat] := by rw [List.take_add_one]; simp [natB, hx]
        rw [e, goN_snoc, hg, hj])
      clear hg hj hx
      go_wp2
      go_round
      case rel => exact ⟨k + 1, by omega, by go_num, by rw [HG.out]⟩
      case measure => simp [intOf]; omega
    · have HT := Lib.hid (List.take_of_length_le (l := natB bs) (i := k) (by rw [natB_length, HL.out]; omega))
      go_wp2
      go_ret
      exact ⟨retI (by rw [HT.out]; rfl), (Below.refl _ _).alloc (Nat.le_refl _) _⟩

theorem rPlain_c (A : Option Addr) (n c B : Nat) (bs : List UInt8) (w : World) (hr : Reads w B 1 A n (byteCells bs)) (hn : n ≤ 1000000) :
    Calls Try.prog 23 #[.slice A n c] w fun e w' => e = .returned (.int .u32 (plainN (natB bs))) ∧ w = w' := by
  have hl := hr.lenB
  have HL := Lib.hid hl; clear hl
  go_enter Try.func23, Try.ntmps23
  go_wp2
  go_loop [3, 4] (fun v i => ∃ k : Nat, k ≤ n ∧ i = .int .i64 k ∧ v = .int .u32 ((regs maskN ((natB bs).take k) : Nat) : Int)) (fun _ i => n - (intOf i).toNat)
  case atStart => exact ⟨0, Nat.zero_le _, rfl, rfl⟩
  case round =>
    obtain ⟨k, hk, rfl, rfl⟩ := hrel
    obtain ⟨g, hg⟩ : ∃ g, regs maskN ((natB bs).take k) = g := ⟨_, rfl⟩
    have hgl : g < 4294967296 := by rw [← hg]; exact regs_lt _ (fun y hy => natB_lt bs y (List.mem_of_mem_take hy)) _ (by decide)
    rw [hg]
    by_cases hlt : k < n
    · obtain ⟨ad, x, rfl, hb, hx, hc⟩ := hr.byte_at hlt
      have hxl := x.toNat_lt
      clear hr
      obtain ⟨m, hm⟩ : ∃ m, g ^^^ x.toNat = m := ⟨_, rfl⟩
      have hml : m < 4294967296 := by rw [← hm]; exact xor_lt32 hgl (by omega)
      have hx1 : bits .xor .u32 (g : Int) (x.toNat : Int) = (m : Int) := by rw [u32_xor_nat _ _ hgl (by omega), hm]
      have HG := Lib.hid (show regs maskN ((natB bs).take (k + 1)) = stepK 8 m from by
        have e : (natB bs).take (k + 1) = (natB bs).take k ++ [x.toNat] := by rw [List.take_add_one]; simp [natB, hx]
        rw [e, regs_append, hg]
        show reg g x.toNat = _
        unfold reg
        rw [hm, stepK_8])
      have hd : decide (k < n) = true := by simpa using hlt
      have hd' : decide ((k : Int) < (n : Int)) = true := by simpa using hlt
      clear hg hm hx
      go_wp2
      go_loop [3, 5] (fun t j => ∃ q : Nat, q ≤ 8 ∧ j = .int .i64 q ∧ t = .int .u32 (stepK q m)) (fun _ j => 8 - (intOf j).toNat)
      case atStart => exact ⟨0, Nat.zero_le _, rfl, rfl⟩
      case round =>
        obtain ⟨q, hq, rfl, rfl⟩ := hrel
        by_cases hq8 : q < 8
        · go_wp2_with (go_at_call 34; refine (rStep_c _ (stepK_lt hml q) _).mono ?_; rintro e w' ⟨rfl, rfl⟩)
          go_round
          case rel => exact ⟨q + 1, by omega, by go_num, rfl⟩
          case measure => simp [intOf]; omega
        · obtain rfl : q = 8 := by omega
          go_wp2
          go_round
          case rel => exact ⟨k + 1, by omega, by go_num, by rw [HG.out]⟩
          case measure => simp [intOf]; omega
    · have HT := Lib.hid (List.take_of_length_le (l := natB bs) (i := k) (by rw [natB_length, HL.out]; omega))
      have hx1 : bits .xor .u32 (g : Int) 4294967295 = ((g ^^^ maskN : Nat) : Int) := u32_xor_nat g maskN hgl (by decide)
      have HG := Lib.hid hg
      clear hg
      go_wp2
      go_ret
      exact ⟨retI (by unfold plainN; rw [← HG.out, HT.out]), rfl⟩
end Go.Proofs.Ytadidldkphimfaa
