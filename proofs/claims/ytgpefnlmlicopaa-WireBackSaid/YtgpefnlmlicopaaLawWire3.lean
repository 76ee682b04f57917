/- The walk of WireBack. -/
import Derived.Test.YtgpefnlmlicopaaWire16
namespace Go.Proofs.Ytgpefnlmlicopaa
set_option linter.unusedVariables false
open Go.RowKit

/-- what was put so far: v reads as bs, of at most m bytes. -/
def PutSt (w wr : World) (v : Value) (bs : List UInt8) (m : Nat) : Prop :=
  Below w.heap.size w wr ∧ ∃ A n c, v = .slice A n c ∧ n ≤ c ∧ c ≤ 9223372036854775807 ∧ n ≤ m ∧ Reads wr wr.heap.size 1 A n (byteCells bs)
theorem PutSt.next {w wr w2 : World} {v2 : Value} {bs l : List UInt8} {n m : Nat} (h : Below w.heap.size w wr) (hb2 : Below wr.heap.size wr w2) (hown : w2.ownsRow wr.heap.size 5 1 v2 (n + l.length) (byteCells (bs ++ l))) (hm : n + l.length ≤ m) : PutSt w w2 v2 (bs ++ l) m := by
  obtain ⟨A, c, rfl, h1, h2, _, h3⟩ := own_reads hown
  exact ⟨h.trans (hb2.mono h.size), A, _, c, rfl, h1, h2, hm, h3⟩
theorem encAll_snoc (its : List Item) (it : Item) : encAll (its ++ [it]) = encAll its ++ it.enc := by simp [encAll]
theorem encAll_append (a b : List Item) : encAll (a ++ b) = encAll a ++ encAll b := by simp [encAll]
theorem enc_take {α : Type} (its : List Item) (f : α → Item) (xs : List α) (i : Nat) (x : α) (h : xs[i]? = some x) : encAll (its ++ (xs.take (i + 1)).map f) = encAll (its ++ (xs.take i).map f) ++ (f x).enc := by
  rw [take_item f xs i x h, ← List.append_assoc, encAll_snoc]
theorem all_take {α : Type} {P : α → Prop} (xs : List α) (i : Nat) (x : α) (h : xs[i]? = some x) (ha : ∀ y ∈ xs.take i, P y) (hx : P x) : ∀ y ∈ xs.take (i + 1), P y := by
  rw [List.take_add_one, h]
  intro y hy
  rcases List.mem_append.1 hy with h | h
  · exact ha y h
  · simp at h; subst h; exact hx
theorem read_v (A : Option Addr) (n c : Nat) (bs : List UInt8) (A1 : Option Addr) (n1 c1 : Nat) (us : List Nat) (A2 : Option Addr) (n2 c2 : Nat) (ks : List Int) (A3 : Option Addr) (n3 c3 : Nat) (ts : List (List UInt8)) (w : World)
    (hr : Reads w w.heap.size 1 A n (byteCells bs)) (hnc : n ≤ c) (hcm : c ≤ 9223372036854775807) (hn : n ≤ 10000)
    (hr1 : Reads w w.heap.size 1 A1 n1 (us.map (fun m : Nat => Value.int .u64 (m : Int)))) (hr2 : Reads w w.heap.size 1 A2 n2 (ks.map (fun m => Value.int .i64 m))) (hr3 : Reads w w.heap.size 1 A3 n3 (ts.map (fun t => Value.string ⟨t.toArray⟩)))
    (hn1 : n1 ≤ 20) (hn2 : n2 ≤ 20) (hn3 : n3 ≤ 20) (x y : Int) (o : Bool) (h : readF bs (us.map Item.u ++ ks.map Item.i ++ ts.map Item.t) (0, 0, true) = (x, y, o)) :
    Calls Try.prog 25 #[.agg #[.slice A n c, .int .i64 0, .int .i64 0], .slice A1 n1 c1, .slice A2 n2 c2, .slice A3 n3 c3] w fun e w' => e = .returned (.tuple #[.agg #[.slice A n c, .int .i64 x, .int .i64 y], .bool o]) ∧ Below w.heap.size w w' := by
  have q := read_c A n c 0 0 bs A1 n1 c1 us A2 n2 c2 ks A3 n3 c3 ts w hr hnc hcm hn hr1 hr2 hr3 hn1 hn2 hn3
  rw [h] at q
  exact q

set_option maxRecDepth 100000 in
theorem WireBack_l1 (A1 : Option Addr) (n1 c1 : Nat) (us : List Nat) (A2 : Option Addr) (n2 c2 : Nat) (ks : List Int) (A3 : Option Addr) (n3 c3 : Nat) (ts : List (List UInt8)) (cut : Nat) (w : World) (h : 20 < n1) : Calls Try.prog 4 #[.slice A1 n1 c1, .slice A2 n2 c2, .slice A3 n3 c3, .int .u16 cut] w fun e w' => e = .returned (.bool true) ∧ Below w.heap.size w w' := by
  have d1 : decide ((20 : Int) < (n1 : Int)) = true := by simp; omega
  go_enter Try.func4, Try.ntmps4
  go_wp2_with fail
  refine (Wire_awake _).mono ?_
  rintro e w1 ⟨rfl, hb⟩
  go_wp2
  go_ret
  exact ⟨rfl, hb⟩

set_option maxRecDepth 100000 in
theorem WireBack_l2 (A1 : Option Addr) (n1 c1 : Nat) (us : List Nat) (A2 : Option Addr) (n2 c2 : Nat) (ks : List Int) (A3 : Option Addr) (n3 c3 : Nat) (ts : List (List UInt8)) (cut : Nat) (w : World) (h0 : n1 ≤ 20) (h : 20 < n2) : Calls Try.prog 4 #[.slice A1 n1 c1, .slice A2 n2 c2, .slice A3 n3 c3, .int .u16 cut] w fun e w' => e = .returned (.bool true) ∧ Below w.heap.size w w' := by
  have d1 : decide ((20 : Int) < (n1 : Int)) = false := by simp; omega
  have d2 : decide ((20 : Int) < (n2 : Int)) = true := by simp; omega
  go_enter Try.func4, Try.ntmps4
  go_wp2_with fail
  refine (Wire_awake _).mono ?_
  rintro e w1 ⟨rfl, hb⟩
  go_wp2
  go_ret
  exact ⟨rfl, hb⟩

set_option maxRecDepth 100000 in
theorem WireBack_l3 (A1 : Option Addr) (n1 c1 : Nat) (us : List Nat) (A2 : Option Addr) (n2 c2 : Nat) (ks : List Int) (A3 : Option Addr) (n3 c3 : Nat) (ts : List (List UInt8)) (cut : Nat) (w : World) (h0 : n1 ≤ 20) (h1 : n2 ≤ 20) (h : 20 < n3) : Calls Try.prog 4 #[.slice A1 n1 c1, .slice A2 n2 c2, .slice A3 n3 c3, .int .u16 cut] w fun e w' => e = .returned (.bool true) ∧ Below w.heap.size w w' := by
  have d1 : decide ((20 : Int) < (n1 : Int)) = false := by simp; omega
  have d2 : decide ((20 : Int) < (n2 : Int)) = false := by simp; omega
  have d3 : decide ((20 : Int) < (n3 : Int)) = true := by simp; omega
  go_enter Try.func4, Try.ntmps4
  go_wp2_with fail
  refine (Wire_awake _).mono ?_
  rintro e w1 ⟨rfl, hb⟩
  go_wp2
  go_ret
  exact ⟨rfl, hb⟩

set_option maxRecDepth 100000 in
set_option maxHeartbeats 8000000 in
theorem WireBack_main (A1 : Option Addr) (n1 c1 : Nat) (us : List Nat) (A2 : Option Addr) (n2 c2 : Nat) (ks : List Int) (A3 : Option Addr) (n3 c3 : Nat) (ts : List (List UInt8)) (cut : Nat) (w : World) (hcut : cut < 65536) (hr1 : Reads w w.heap.size 1 A1 n1 (us.map (fun m : Nat => Value.int .u64 (m : Int)))) (hr2 : Reads w w.heap.size 1 A2 n2 (ks.map (fun m => Value.int .i64 m))) (hr3 : Reads w w.heap.size 1 A3 n3 (ts.map (fun t => Value.string ⟨t.toArray⟩)))
    (hn1 : n1 ≤ 20) (hn2 : n2 ≤ 20) (hn3 : n3 ≤ 20) (hu : ∀ x ∈ us, x < 18446744073709551616) (hk : ∀ x ∈ ks, -9223372036854775808 ≤ x ∧ x ≤ 9223372036854775807) : Calls Try.prog 4 #[.slice A1 n1 c1, .slice A2 n2 c2, .slice A3 n3 c3, .int .u16 cut] w fun e w' => e = .returned (.bool true) ∧ Below w.heap.size w w' := by
  have HL1 := Lib.hid (show us.length = n1 from by simpa using hr1.1)
  have HL2 := Lib.hid (show ks.length = n2 from by simpa using hr2.1)
  have HL3 := Lib.hid (show ts.length = n3 from by simpa using hr3.1)
  have HR1 := Lib.hid hr1
  have HR2 := Lib.hid hr2
  have HR3 := Lib.hid hr3
  have HU := Lib.hid hu
  have HK := Lib.hid hk
  clear hr1 hr2 hr3 hu hk
  have d1 : decide ((20 : Int) < (n1 : Int)) = false := by simp; omega
  have d2 : decide ((20 : Int) < (n2 : Int)) = false := by simp; omega
  have d3 : decide ((20 : Int) < (n3 : Int)) = false := by simp; omega
  go_enter Try.func4, Try.ntmps4
  go_wp2_with fail
  refine (Wire_awake _).mono ?_
  rintro e w1 ⟨rfl, hb⟩
  have HP0 := Lib.hid (show PutSt w w1 (.slice none 0 0) (encAll ([] ++ (us.take 0).map Item.u)) (0 + 10 * 0) from ⟨hb, none, 0, 0, rfl, Nat.le_refl _, by omega, Nat.le_refl _, Reads.none_⟩)
  clear hb
  go_wp2
  go_loopw [9, 10] (fun v iv wr => ∃ i : Nat, i ≤ n1 ∧ iv = .int .i64 i ∧ Hid (PutSt w wr v (encAll ([] ++ (us.take i).map Item.u)) (0 + 10 * i))) (fun _ iv _ => n1 - (intOf iv).toNat)
  case atStart => exact ⟨0, Nat.zero_le _, rfl, HP0⟩
  case round =>
    obtain ⟨i, hi, rfl, HP⟩ := hrel
    clear HP0
    obtain ⟨hbw, A, n, c, rfl, hnc, hcm, hnm, hr⟩ := HP.out
    have HBW := Lib.hid hbw
    have HR := Lib.hid hr
    clear hr hbw HP
    by_cases hlt : i < n1
    · obtain ⟨adx, u, hAx, hbx, hux, hcx⟩ := at_cell HR1.out hlt
      subst hAx
      have hcx' : wr.cell? (adx.add i) = some (.int .u64 (u : Int)) := (HBW.out.cell (by rw [block_of_add]; exact hbx)).trans hcx
      have i1 : (0 : Int) ≤ (i : Int) := by omega
      have i2 : (i : Int) < (n1 : Int) := by omega
      have EN := Lib.hid (enc_take [] Item.u us i u hux)
      have hub : u < 18446744073709551616 := HU.out u (List.mem_of_getElem? hux)
      have hlen := uencB_len u hub
      clear hux hcx
      go_wp2_with fail
      refine (PutUint_c A n c wr.heap.size _ u hub _ HR.out (Nat.le_refl _) (by omega)).mono ?_
      rintro e w2 ⟨v2, rfl, hown, hb2⟩
      have HPN := Lib.hid (PutSt.next HBW.out hb2 hown (show _ ≤ 0 + 10 * (i + 1) by omega))
      clear hown hb2
      go_wp2
      go_roundw
      case rel => exact ⟨i + 1, by omega, by go_num, Lib.hid (by rw [EN.out]; exact HPN.out)⟩
      case measure => simp [intOf]; omega
    · obtain rfl : n1 = i := by omega
      have HP1 := Lib.hid (show PutSt w wr (.slice A n c) (encAll ((us.map Item.u) ++ (ks.take 0).map Item.i)) (200 + 10 * 0) from ⟨HBW.out, A, n, c, rfl, hnc, hcm, by omega, by have h := HR.out; rw [List.take_of_length_le (by rw [HL1.out]; exact Nat.le_refl _)] at h; simpa using h⟩)
      clear HR HBW
      go_wp2
      go_loopw [9, 11] (fun v iv wr => ∃ i : Nat, i ≤ n2 ∧ iv = .int .i64 i ∧ Hid (PutSt w wr v (encAll ((us.map Item.u) ++ (ks.take i).map Item.i)) (200 + 10 * i))) (fun _ iv _ => n2 - (intOf iv).toNat)
      case atStart => exact ⟨0, Nat.zero_le _, rfl, HP1⟩
      case round =>
        obtain ⟨i, hi, rfl, HP⟩ := hrel
        clear HP1
        obtain ⟨hbw, A, n, c, rfl, hnc, hcm, hnm, hr⟩ := HP.out
        have HBW := Lib.hid hbw
        have HR := Lib.hid hr
        clear hr hbw HP
        by_cases hlt : i < n2
        · obtain ⟨adx, u, hAx, hbx, hux, hcx⟩ := at_cell HR2.out hlt
          subst hAx
          have hcx' : wr.cell? (adx.add i) = some (.int .i64 u) := (HBW.out.cell (by rw [block_of_add]; exact hbx)).trans hcx
          have i1 : (0 : Int) ≤ (i : Int) := by omega
          have i2 : (i : Int) < (n2 : Int) := by omega
          have EN := Lib.hid (enc_take (us.map Item.u) Item.i ks i u hux)
          have hub := HK.out u (List.mem_of_getElem? hux)
          have hlen := uencB_len (zig u) (zig_lt u hub.1 hub.2)
          clear hux hcx
          go_wp2_with fail
          refine (PutInt_c A n c wr.heap.size _ u hub.1 hub.2 _ HR.out (Nat.le_refl _) (by omega)).mono ?_
          rintro e w2 ⟨v2, rfl, hown, hb2⟩
          have HPN := Lib.hid (PutSt.next HBW.out hb2 hown (show _ ≤ 200 + 10 * (i + 1) by omega))
          clear hown hb2
          go_wp2
          go_roundw
          case rel => exact ⟨i + 1, by omega, by go_num, Lib.hid (by rw [EN.out]; exact HPN.out)⟩
          case measure => simp [intOf]; omega
        · obtain rfl : n2 = i := by omega
          have HP2 := Lib.hid (show PutSt w wr (.slice A n c) (encAll ((us.map Item.u ++ ks.map Item.i) ++ (ts.take 0).map Item.t)) (400 + 210 * 0) from ⟨HBW.out, A, n, c, rfl, hnc, hcm, by omega, by have h := HR.out; rw [List.take_of_length_le (by rw [HL2.out]; exact Nat.le_refl _)] at h; simpa using h⟩)
          clear HR HBW
          go_wp2
          go_loopw [9, 12] (fun v iv wr => ∃ i : Nat, i ≤ n3 ∧ iv = .int .i64 i ∧ Hid (PutSt w wr v (encAll ((us.map Item.u ++ ks.map Item.i) ++ (ts.take i).map Item.t)) (400 + 210 * i)) ∧ Hid (∀ y ∈ ts.take i, y.length ≤ 200)) (fun _ iv _ => n3 - (intOf iv).toNat)
          case atStart => exact ⟨0, Nat.zero_le _, rfl, HP2, Lib.hid (by simp)⟩
          case round =>
            obtain ⟨i, hi, rfl, HP, HT⟩ := hrel
            clear HP2
            obtain ⟨hbw, A, n, c, rfl, hnc, hcm, hnm, hr⟩ := HP.out
            have HBW := Lib.hid hbw
            have HR := Lib.hid hr
            clear hr hbw HP
            by_cases hlt : i < n3
            · obtain ⟨adx, u, hAx, hbx, hux, hcx⟩ := at_cell HR3.out hlt
              subst hAx
              have hcx' : wr.cell? (adx.add i) = some (.string ⟨u.toArray⟩) := (HBW.out.cell (by rw [block_of_add]; exact hbx)).trans hcx
              have i1 : (0 : Int) ≤ (i : Int) := by omega
              have i2 : (i : Int) < (n3 : Int) := by omega
              have EN := Lib.hid (enc_take (us.map Item.u ++ ks.map Item.i) Item.t ts i u hux)
              have HUX := Lib.hid hux
              clear hux hcx
              by_cases hle : u.length ≤ 200
              · have dl : decide ((200 : Int) < (u.length : Int)) = false := by simp; omega
                have hlen : (textB u).length ≤ 210 := by unfold textB; rw [List.length_append]; have := uencB_len u.length (by omega); omega
                have HT2 := Lib.hid (all_take (P := fun y => y.length ≤ 200) ts i u HUX.out HT.out hle)
                clear HT HUX
                go_wp2_with fail
                refine (PutText_c A n c wr.heap.size _ u _ HR.out (Nat.le_refl _) (by omega) (by omega)).mono ?_
                rintro e w2 ⟨v2, rfl, hown, hb2⟩
                have HPN := Lib.hid (PutSt.next HBW.out hb2 hown (show _ ≤ 400 + 210 * (i + 1) by omega))
                clear hown hb2
                go_wp2
                go_roundw
                case rel => exact ⟨i + 1, by omega, by go_num, Lib.hid (by rw [EN.out]; exact HPN.out), HT2⟩
                case measure => simp [intOf]; omega
              · have dl : decide ((200 : Int) < (u.length : Int)) = true := by simp; omega
                go_wp2
                go_ret
                exact ⟨rfl, HBW.out⟩
            · obtain rfl : n3 = i := by omega
              obtain ⟨its, hits⟩ : ∃ l, us.map Item.u ++ ks.map Item.i ++ ts.map Item.t = l := ⟨_, rfl⟩
              have hts : ts.take n3 = ts := List.take_of_length_le (by rw [HL3.out]; exact Nat.le_refl _)
              obtain ⟨bs, hbs⟩ : ∃ l, encAll its = l := ⟨_, rfl⟩
              have HR' := Lib.hid (show Reads wr wr.heap.size 1 A n (byteCells bs) from by have h := HR.out; rw [hts, hits, hbs] at h; exact h)
              have hok : ∀ it ∈ its, it.ok := by
                have h := HT.out
                rw [hts] at h
                rw [← hits]
                intro it hit
                rcases List.mem_append.1 hit with h1 | h1
                · rcases List.mem_append.1 h1 with h2 | h2
                  · obtain ⟨x, hx, rfl⟩ := List.mem_map.1 h2; exact HU.out x hx
                  · obtain ⟨x, hx, rfl⟩ := List.mem_map.1 h2; exact HK.out x hx
                · obtain ⟨x, hx, rfl⟩ := List.mem_map.1 h1; exact h x hx
              have hll : bs.length = n := HR'.out.lenB
              have HQ1 := Lib.hid (show readF bs (us.map Item.u ++ ks.map Item.i ++ ts.map Item.t) (0, 0, true) = ((n : Int), 0, true) from by have h := read_good its hok [] [] true; rw [hbs] at h; rw [hits, ← hll]; simpa using h)
              obtain ⟨k, hk⟩ : ∃ k, cut % (n + 1) = k := ⟨_, rfl⟩
              have hkn : k ≤ n := by have := Nat.mod_lt cut (show 0 < n + 1 by omega); omega
              have hkc : (cut : Int) % ((n : Int) + 1) = (k : Int) := by rw [← hk]; simp [Int.natCast_emod]
              obtain ⟨⟨x2, y2, o2⟩, hq2⟩ : ∃ r, readF (bs.take k) its (0, 0, true) = r := ⟨_, rfl⟩
              have hy2 : y2 = if k < n then 10 else 0 := by
                by_cases hkl : k < n
                · rw [if_pos hkl]
                  have h := read_cut its hok [] true k (by rw [hbs, hll]; exact hkl)
                  rw [hbs] at h
                  simp only [List.nil_append, List.length_nil] at h
                  rw [← h]
                  exact (congrArg (fun r => r.2.1) hq2).symm
                · rw [if_neg hkl]
                  have h := read_good its hok [] [] true
                  rw [hbs] at h
                  have hkl' : bs.take k = bs := List.take_of_length_le (by omega)
                  rw [hkl'] at hq2
                  have h' : readF bs its (0, 0, true) = ((bs.length : Int), 0, true) := by simpa using h
                  rw [h'] at hq2
                  exact (congrArg (fun r => r.2.1) hq2).symm
              have HQ2 := Lib.hid (show readF (bs.take k) (us.map Item.u ++ ks.map Item.i ++ ts.map Item.t) (0, 0, true) = (x2, y2, o2) from by rw [hits]; exact hq2)
              have HKC := Lib.hid hkc
              clear hq2 hts hits hbs hk hll HR HT hkc
              have hk0 : (0 : Int) ≤ (k : Int) := by omega
              have hk1 : (k : Int) ≤ (c : Int) := by omega
              have hk2 : k ≤ c := by omega
              have HS1 := Lib.hid (HR1.out.below HBW.out)
              have HS2 := Lib.hid (HR2.out.below HBW.out)
              have HS3 := Lib.hid (HR3.out.below HBW.out)
              have hzw := HBW.out.size
              go_wp2_with fail
              refine (Start_c A n c _ hnc).mono ?_
              rintro e w2 ⟨rfl, hb2⟩
              have hz2 := hb2.size
              have HB2 := Lib.hid (HBW.out.trans (hb2.mono hzw))
              have HX2 := Lib.hid ((HR'.out.below hb2).more hz2)
              clear hb2
              go_wp2_with fail
              refine (read_v A n n bs A1 n1 c1 us A2 n2 c2 ks A3 n3 c3 ts _ HX2.out (Nat.le_refl _) (by omega) (by omega) ((HR1.out.below HB2.out).more (by omega)) ((HR2.out.below HB2.out).more (by omega)) ((HR3.out.below HB2.out).more (by omega)) (by omega) (by omega) (by omega) _ _ _ HQ1.out).mono ?_
              rintro e w3 ⟨rfl, hb3⟩
              have hz3 := hb3.size
              have HB3 := Lib.hid (HB2.out.trans (hb3.mono (by omega)))
              have HX3 := Lib.hid ((HX2.out.below hb3).more hz3)
              clear hb3 HX2 HB2
              have HC4 := Lib.hid (Blk.new w3 26 #[.slice A n n, .int .i64 (n : Int), .int .i64 0])
              have HX4 := Lib.hid ((HX3.out.alloc (Nat.le_refl _) (.cells #[.slice A n n, .int .i64 (n : Int), .int .i64 0] 26)).more (show w3.heap.size ≤ (w3.alloc (.cells #[.slice A n n, .int .i64 (n : Int), .int .i64 0] 26)).heap.size by simp))
              have HB4 := Lib.hid (HB3.out.alloc (by omega) (.cells #[.slice A n n, .int .i64 (n : Int), .int .i64 0] 26))
              have hz4 : w3.heap.size < (w3.alloc (.cells #[.slice A n n, .int .i64 (n : Int), .int .i64 0] 26)).heap.size := by simp
              go_wp2_with fail
              generalize w3.alloc (.cells #[.slice A n n, .int .i64 (n : Int), .int .i64 0] 26) = w4 at HC4 HX4 HB4 hz4 ⊢
              have r0 : w4.cell? ⟨w3.heap.size, 0, none⟩ = some (.slice A n n) := HC4.out.cell 0
              have r1 : w4.cell? ⟨w3.heap.size, 1, none⟩ = some (.int .i64 (n : Int)) := HC4.out.cell 1
              have r2 : w4.cell? ⟨w3.heap.size, 2, none⟩ = some (.int .i64 0) := HC4.out.cell 2
              try go_wp2_with fail
              refine (Left_yes A n n (n : Int) _ (by omega) (by omega) (by omega)).mono ?_
              rintro e w5 ⟨rfl, hb5⟩
              rw [show (n : Int) - (n : Int) = 0 from by omega]
              have hz5 := hb5.size
              have HX5 := Lib.hid ((HX4.out.below hb5).more hz5)
              have HB5 := Lib.hid (HB4.out.trans (hb5.mono (by omega)))
              clear hb5 HX4 HB4 r0 r1 r2
              have hkc := HKC.out
              go_wp2_with fail
              clear hkc
              refine (Start_c A k c _ hk2).mono ?_
              rintro e w6 ⟨rfl, hb6⟩
              have hz6 := hb6.size
              have HX6 := Lib.hid ((HX5.out.below hb6).more hz6)
              have HB6 := Lib.hid (HB5.out.trans (hb6.mono (by omega)))
              clear hb6 HX5 HB5
              go_wp2_with fail
              refine (read_v A k k (bs.take k) A1 n1 c1 us A2 n2 c2 ks A3 n3 c3 ts _ (HX6.out.preB hkn) (Nat.le_refl _) (by omega) (by omega) ((HR1.out.below HB6.out).more (by omega)) ((HR2.out.below HB6.out).more (by omega)) ((HR3.out.below HB6.out).more (by omega)) (by omega) (by omega) (by omega) _ _ _ HQ2.out).mono ?_
              rintro e w7 ⟨rfl, hb7⟩
              have hz7 := hb7.size
              have HB7 := Lib.hid (HB6.out.trans (hb7.mono (by omega)))
              clear hb7 HX6 HB6
              by_cases hkl : k < n
              · rw [if_pos hkl] at hy2
                subst hy2
                have dk : decide (k < n) = true := by simp; omega
                have dj : decide ((cut : Int) % ((n : Int) + 1) < (n : Int)) = true := by rw [HKC.out]; simp; omega
                go_wp2
                go_ret
                exact ⟨rfl, HB7.out.alloc (by omega) _⟩
              · rw [if_neg hkl] at hy2
                subst hy2
                have dk : decide (k < n) = false := by simp; omega
                have dj : decide ((cut : Int) % ((n : Int) + 1) < (n : Int)) = false := by rw [HKC.out]; simp; omega
                go_wp2
                go_ret
                exact ⟨rfl, HB7.out.alloc (by omega) _⟩

theorem WireBack_walk (A1 : Option Addr) (n1 c1 : Nat) (z1 : List Int) (A2 : Option Addr) (n2 c2 : Nat) (ks : List Int) (A3 : Option Addr) (n3 c3 : Nat) (ss : List ByteArray) (cut : Int) (w : World) (h1 : IntArg .u64 w A1 n1 c1 z1) (h2 : IntArg .i64 w A2 n2 c2 ks) (h3 : StrArg w A3 n3 c3 ss) (hcu : (Lit.int .u16 cut).wf = true) :
    Calls Try.prog 4 #[.slice A1 n1 c1, .slice A2 n2 c2, .slice A3 n3 c3, .int .u16 cut] w fun e w' => e = .returned (.bool true) ∧ Below w.heap.size w w' := by
  have hc := bounds_u16 hcu
  obtain ⟨cut, rfl⟩ : ∃ m : Nat, cut = (m : Int) := ⟨cut.toNat, by omega⟩
  obtain ⟨hr1, _, _, _, hw1⟩ := h1
  obtain ⟨hr2, _, _, _, hw2⟩ := h2
  obtain ⟨hr3, _, _, _, _⟩ := h3
  have e1 : z1.map (Value.int .u64) = (z1.map Int.toNat).map (fun m : Nat => Value.int .u64 (m : Int)) := by
    rw [List.map_map]
    refine List.map_congr_left (fun z hz => ?_)
    have := bounds_u64 (hw1 z hz)
    simp only [Function.comp]
    congr 1
    omega
  have e3 : ss.map Value.string = (ss.map (fun s => s.data.toList)).map (fun t => Value.string ⟨t.toArray⟩) := by
    rw [List.map_map]
    rfl
  rw [e1] at hr1
  rw [e3] at hr3
  have hu : ∀ x ∈ z1.map Int.toNat, x < 18446744073709551616 := by
    intro x hx
    obtain ⟨z, hz, rfl⟩ := List.mem_map.1 hx
    have := bounds_u64 (hw1 z hz)
    omega
  have hk : ∀ x ∈ ks, -9223372036854775808 ≤ x ∧ x ≤ 9223372036854775807 := fun x hx => bounds_i64 (hw2 x hx)
  by_cases a1 : 20 < n1
  · exact WireBack_l1 A1 n1 c1 (z1.map Int.toNat) A2 n2 c2 ks A3 n3 c3 (ss.map (fun s => s.data.toList)) cut w a1
  · by_cases a2 : 20 < n2
    · exact WireBack_l2 A1 n1 c1 (z1.map Int.toNat) A2 n2 c2 ks A3 n3 c3 (ss.map (fun s => s.data.toList)) cut w (by omega) a2
    · by_cases a3 : 20 < n3
      · exact WireBack_l3 A1 n1 c1 (z1.map Int.toNat) A2 n2 c2 ks A3 n3 c3 (ss.map (fun s => s.data.toList)) cut w (by omega) (by omega) a3
      · exact WireBack_main A1 n1 c1 (z1.map Int.toNat) A2 n2 c2 ks A3 n3 c3 (ss.map (fun s => s.data.toList)) cut w (by omega) hr1 hr2 hr3 (by omega) (by omega) (by omega) hu hk
end Go.Proofs.Ytgpefnlmlicopaa
