/- The walk of the law CountTotal. -/
import Derived.Test.YtmdclaahfndhdaaLawCount
import Derived.BigQuiet
import Derived.Outline
import Derived.Deep.DeepMust
namespace Go.Proofs.Ytmdclaahfndhdaa
open Go.RowKit

theorem Try.infoI64 : (Try.prog.info? 2).map (fun i => (i.zero, i.size, i.bytes)) = some (some (.int .i64 0), 1, 8) := by kernel_rfl

theorem CountTotal_walk (A : Option Addr) (n c : Nat) (zs : List Int) (cut : Int) (w : World) (hz : IntArg .i64 w A n c zs) (hcut : (Lit.int .u16 cut).wf = true) :
    Calls Try.prog 5 #[.slice A n c, .int .u16 cut] w fun e w' => e = .returned (.bool true) ∧ Below w.heap.size w w' := by
  obtain ⟨hr, hnc, hcm, hnil, _⟩ := hz
  unfold maxLen at hcm
  have hl : zs.length = n := by simpa using hr.1
  have HL := Lib.hid hl; clear hl
  obtain ⟨c0, c1⟩ := bounds_u16 hcut
  by_cases h300 : n ≤ 300
  · obtain ⟨i0, hi0, hz0, hz1, hz2⟩ := info_parts Try.infoI64
    go_enter Try.func5, Try.ntmps5
    go_wp2_with (go_at_call 15; refine (Count_awake _).mono ?_; rintro e w1 ⟨rfl, hb1⟩)
    have hr1 := hr.below hb1
    have hw1 := hb1.size
    go_loopw [6, 7] (fun v i wr => ∃ k : Nat, k ≤ n ∧ i = .int .i64 ((n : Int) - 1 - k) ∧ wr.ownsRow w.heap.size 2 1 v k ((zs.reverse.take k).map (Value.int .i64)) ∧ Below w.heap.size w wr) (fun _ i _ => (intOf i + 1).toNat)
    case atStart => exact ⟨0, Nat.zero_le _, by simp, own_empty w1 _ _ hw1 1, hb1.alloc hw1 _⟩
    case round =>
      obtain ⟨k, hk, rfl, hown, hbr⟩ := hrel
      have hrr := hr.below hbr
      by_cases hlt : k < n
      · obtain ⟨ad, u, rfl, hb, hx, hc⟩ := hrr.at_ (k := n - 1 - k) (by omega)
        obtain ⟨x, hx', rfl⟩ : ∃ x, zs[n - 1 - k]? = some x ∧ Value.int .i64 x = u := by simpa using hx
        have HX := Lib.hid (take_succ_map zs.reverse k x (by rw [List.getElem?_reverse (by rw [HL.out]; exact hlt), HL.out]; exact hx'))
        clear hx hx' hrr hr1
        have hge : (0 : Int) ≤ (n : Int) - 1 - k := by omega
        have hcast : ((n : Int) - 1 - k).toNat = n - 1 - k := by omega
        go_wp2_with (at_builtin; go_must (refine wpList_append_one wr rfl _ _ 22 rfl w.heap.size 2 i0 (.int .i64 0) 8 Try.underlying22 hi0 hz0 hz1 hz2 rfl _ k _ hown rfl (.int .i64 x) rfl rfl (by unfold maxLen; omega) (by omega) hbr.size ?_); intro v' w2 hown2 hg2)
        go_roundw
        case rel => exact ⟨k + 1, by omega, by go_num, by rw [HX.out, List.map_append]; exact hown2, below_own hbr hg2 hown (Nat.le_refl _) hbr.size⟩
        case measure => simp [intOf]; omega
      · have HT := Lib.hid (List.take_of_length_le (l := zs.reverse) (i := k) (by rw [List.length_reverse, HL.out]; omega))
        rw [HT.out] at hown
        obtain rfl : k = n := by omega
        obtain ⟨q, hq, hqn⟩ : ∃ q : Nat, cut % ((k : Int) + 1) = (q : Int) ∧ q ≤ k := by
          have e1 := Int.emod_nonneg cut (b := (k : Int) + 1) (by omega)
          have e2 := Int.emod_lt_of_pos cut (b := (k : Int) + 1) (by omega)
          exact ⟨(cut % ((k : Int) + 1)).toNat, by omega, by omega⟩
        have HR := Lib.hid hrr; clear hrr hr1
        obtain ⟨A2, c2, rfl⟩ : ∃ A2 c2, u6 = .slice A2 k c2 := by
          rcases hown.2 with ⟨h1, h2⟩ | ⟨g, cap, cur, h1, _⟩
          · subst h2; exact ⟨none, 0, h1⟩
          · exact ⟨_, cap, h1⟩
        have HO := Lib.hid (Reads.of_own hown)
        go_wp2_with (go_at_call 22; refine (Total_c _ _ _ _ zs _ HR.out (by omega)).mono ?_; rintro e w' ⟨rfl, rfl⟩)
        have t1 := total_lo zs
        have t2 := total_hi zs
        have t3 : (total zs == up (total (zs.take q)) (total (zs.drop q))) = true := by rw [← total_append, List.take_append_drop]; simp
        have t4 : (total zs == total zs.reverse) = true := by rw [total_reverse]; simp
        have HC := Lib.hid (HR.out.suf (k := q) (cap := c) hqn hnc)
        have HP : Hid (Reads wr w.heap.size 1 A q ((zs.take q).map (Value.int .i64))) := Reads.pre HR.out hqn
        have hqc : q ≤ c := by omega
        clear hr hown t1 t2
        have t1 := total_lo zs
        have t2 := total_hi zs
        go_quiet ((first | (go_at_call 19; exact quiet_left (Up_c _ _ _)) | (go_at_call 22; first | (with_reducible exact quiet_left (Total_c _ _ _ _ (zs.take q) _ (HP.out.drewN _) (by omega))) | (with_reducible exact quiet_left (Total_c _ _ _ _ (zs.drop q) _ (HC.out.drewN _) (by omega))) | (with_reducible exact quiet_left (Total_c _ _ _ _ zs.reverse _ (HO.out.drewN _) (by omega))))))
        go_wp2
        all_goals
          go_ret
          exact ⟨rfl, below_drewN hbr _⟩
  · go_enter Try.func5, Try.ntmps5
    go_wp2_with (go_at_call 15; refine (Count_awake _).mono ?_; rintro e w1 ⟨rfl, hb1⟩)
    go_ret
    exact ⟨rfl, hb1⟩
end Go.Proofs.Ytmdclaahfndhdaa
