/- The contract of filter.means. -/
import Derived.Test.YtjkaklfhcefkcaaNode2
import Derived.Laws.EntriesVeiled
import Derived.WideLaws
namespace Go.Proofs.Ytjkaklfhcefkcaa
set_option linter.unusedVariables false
open Go.RowKit Go.ChangeShapes

structure Evt where
  q : Int
  a : Int
  k : Int
  cm : ByteArray
  x : Int
  y : Int
  z : Int
abbrev evA (ev : Evt) : Array Value := #[.int .i64 ev.q, .int .i64 ev.a, .int .i64 ev.k, .string ev.cm, .int .i64 ev.x, .int .i64 ev.y, .int .i64 ev.z]
mutual
def meansF : FT → Evt → Bool
  | .mk op a b name ks, e => if op = 2 then decide (a ≤ e.a ∧ e.a ≤ b) else if op = 3 then decide (a ≤ e.q ∧ e.q ≤ b) else if op = 4 then (e.cm.toList == name.toList) else if op = 5 then decide (a ≤ e.k ∧ e.k ≤ a) else if op = 8 then !(meansH ks e) else if op = 7 then anyL ks e else allL ks e
def meansH : List FT → Evt → Bool
  | [], _ => false
  | t :: _, e => meansF t e
def anyL : List FT → Evt → Bool
  | [], _ => false
  | t :: ts, e => meansF t e || anyL ts e
def allL : List FT → Evt → Bool
  | [], _ => true
  | t :: ts, e => meansF t e && allL ts e
end
theorem anyL_none : ∀ (ks : List FT) (e : Evt), (∀ (j : Nat) t, ks[j]? = some t → meansF t e = false) → anyL ks e = false
  | [], e, h => by unfold anyL; rfl
  | t :: ks, e, h => by
    unfold anyL
    rw [h 0 t rfl, anyL_none ks e (fun j u hj => h (j + 1) u (by simpa using hj))]
    rfl
theorem allL_all : ∀ (ks : List FT) (e : Evt), (∀ (j : Nat) t, ks[j]? = some t → meansF t e = true) → allL ks e = true
  | [], e, h => by unfold allL; rfl
  | t :: ks, e, h => by
    unfold allL
    rw [h 0 t rfl, allL_all ks e (fun j u hj => h (j + 1) u (by simpa using hj))]
    rfl
theorem anyL_some : ∀ (ks : List FT) (e : Evt) (j : Nat) (t : FT), ks[j]? = some t → meansF t e = true → anyL ks e = true
  | [], e, j, t, h, _ => by simp at h
  | x :: ks, e, 0, t, h, hm => by simp at h; subst h; unfold anyL; rw [hm]; rfl
  | x :: ks, e, j + 1, t, h, hm => by unfold anyL; rw [anyL_some ks e j t (by simpa using h) hm]; simp
theorem allL_not : ∀ (ks : List FT) (e : Evt) (j : Nat) (t : FT), ks[j]? = some t → meansF t e = false → allL ks e = false
  | [], e, j, t, h, _ => by simp at h
  | x :: ks, e, 0, t, h, hm => by simp at h; subst h; unfold allL; rw [hm]; rfl
  | x :: ks, e, j + 1, t, h, hm => by unfold allL; rw [allL_not ks e j t (by simpa using h) hm]; simp
section
variable {op a b : Int} {name : ByteArray} {ks : List FT} {e : Evt}
theorem means_grp (h2 : op ≠ 2) (h3 : op ≠ 3) (h4 : op ≠ 4) (h5 : op ≠ 5) (h8 : op ≠ 8) : meansF (.mk op a b name ks) e = if op = 7 then anyL ks e else allL ks e := by
  rw [meansF, if_neg h2, if_neg h3, if_neg h4, if_neg h5, if_neg h8]
theorem means_all (h2 : op ≠ 2) (h3 : op ≠ 3) (h4 : op ≠ 4) (h5 : op ≠ 5) (h8 : op ≠ 8) (h : ∀ (j : Nat) t, ks[j]? = some t → meansF t e = (op != 7)) : meansF (.mk op a b name ks) e = (op != 7) := by
  rw [means_grp h2 h3 h4 h5 h8]
  by_cases h7 : op = 7
  · subst h7; rw [if_pos rfl, anyL_none ks e (fun j t hj => (h j t hj).trans rfl)]; rfl
  · have e7 : (op != 7) = true := by rw [bne_iff_ne]; exact h7
    rw [if_neg h7, e7, allL_all ks e (fun j t hj => (h j t hj).trans e7)]
theorem means_stop (h2 : op ≠ 2) (h3 : op ≠ 3) (h4 : op ≠ 4) (h5 : op ≠ 5) (h8 : op ≠ 8) (k : Nat) (t : FT) (hk : ks[k]? = some t) (h : meansF t e = !(op != 7)) : meansF (.mk op a b name ks) e = !(op != 7) := by
  rw [means_grp h2 h3 h4 h5 h8]
  by_cases h7 : op = 7
  · subst h7; rw [if_pos rfl, anyL_some ks e k t hk (h.trans rfl)]; rfl
  · have e7 : (op != 7) = true := by rw [bne_iff_ne]; exact h7
    rw [if_neg h7, e7, allL_not ks e k t hk (by rw [h, e7]; rfl)]; rfl
end
theorem num1_c (ev : Evt) (w : World) : Calls Try.prog 34 #[.agg (evA ev)] w fun e w' => e = .returned (.int .i64 ev.a) ∧ Below w.heap.size w w' := by
  go_enter Try.func34, Try.ntmps34
  go_wp2
  go_ret
  exact ⟨rfl, (Below.refl _ _).alloc (Nat.le_refl _) _⟩
theorem num2_c (ev : Evt) (w : World) : Calls Try.prog 35 #[.agg (evA ev)] w fun e w' => e = .returned (.int .i64 ev.q) ∧ Below w.heap.size w w' := by
  go_enter Try.func35, Try.ntmps35
  go_wp2
  go_ret
  exact ⟨rfl, (Below.refl _ _).alloc (Nat.le_refl _) _⟩
theorem num3_c (ev : Evt) (w : World) : Calls Try.prog 36 #[.agg (evA ev)] w fun e w' => e = .returned (.int .i64 ev.k) ∧ Below w.heap.size w w' := by
  go_enter Try.func36, Try.ntmps36
  go_wp2
  go_ret
  exact ⟨rfl, (Below.refl _ _).alloc (Nat.le_refl _) _⟩

set_option maxHeartbeats 4000000 in
theorem means_c {w : World} {P : Nat → Prop} {v : Value} {t : FT} (h : NTr w P v t) (ev : Evt) : ∀ W, (∀ b, P b → W.heap[b]? = w.heap[b]?) → (∀ b, P b → b < W.heap.size) → Calls Try.prog 27 #[v, .agg (evA ev)] W fun e w' => e = .returned (.bool (meansF t ev)) ∧ Below W.heap.size W w' := by
  induction h with
  | time a b name ks =>
    intro W hP hQ
    have t1 : ∀ w, (Instr.typeAssert (.iface 53 (.agg #[.func (.func 34) #[] #[], .int .i64 a, .int .i64 b])) 49 53 true).run Try.prog w = .ok (.tuple #[.agg #[.func (.func 34) #[] #[], .int .i64 a, .int .i64 b], .bool true]) w := fun _ => by kernel_rfl
    have HK1 := Lib.hid (show Kept W ((W.alloc (.cells #[.int .i64 ev.q, .int .i64 ev.a, .int .i64 ev.k, .string ev.cm, .int .i64 ev.x, .int .i64 ev.y, .int .i64 ev.z] 33)).alloc (.cells #[.func (.func 34) #[] #[], .int .i64 a, .int .i64 b] 53)) [(W.heap.size + 1, 53, #[.func (.func 34) #[] #[], .int .i64 a, .int .i64 b]), (W.heap.size, 33, #[.int .i64 ev.q, .int .i64 ev.a, .int .i64 ev.k, .string ev.cm, .int .i64 ev.x, .int .i64 ev.y, .int .i64 ev.z])] from (((Kept.start W).alloc_at 33 #[.int .i64 ev.q, .int .i64 ev.a, .int .i64 ev.k, .string ev.cm, .int .i64 ev.x, .int .i64 ev.y, .int .i64 ev.z] (W.heap.size) (by simp)).alloc_at 53 #[.func (.func 34) #[] #[], .int .i64 a, .int .i64 b] (W.heap.size + 1) (by simp)))
    go_enter Try.func27, Try.ntmps27
    go_wp2_with fail
    with_reducible refine (num1_c ev _).mono ?_
    rintro e w1 ⟨rfl, hb1⟩
    have HK2 := Lib.hid (show Kept W w1 [(W.heap.size + 1, 53, #[.func (.func 34) #[] #[], .int .i64 a, .int .i64 b]), (W.heap.size, 33, #[.int .i64 ev.q, .int .i64 ev.a, .int .i64 ev.k, .string ev.cm, .int .i64 ev.x, .int .i64 ev.y, .int .i64 ev.z])] from HK1.out.next hb1)
    clear HK1
    clear hb1
    have c_s_0 : w1.cell? ⟨W.heap.size + 1, 0, none⟩ = some (.func (.func 34) #[] #[]) := HK2.out.cell 0 rfl 0
    have c_s_1 : w1.cell? ⟨W.heap.size + 1, 1, none⟩ = some (.int .i64 a) := HK2.out.cell 0 rfl 1
    have c_s_2 : w1.cell? ⟨W.heap.size + 1, 2, none⟩ = some (.int .i64 b) := HK2.out.cell 0 rfl 2
    go_wp2
    all_goals
      go_ret
      refine ⟨ret_bool ?_, HK2.out.bel⟩
      rw [meansF]
      rw [if_pos rfl]
      first | (symm; rw [decide_eq_false_iff_not]; omega) | (rw [Bool.eq_iff_iff, decide_eq_true_eq, decide_eq_true_eq]; omega)
  | seq a b name ks =>
    intro W hP hQ
    have t1 : ∀ w, (Instr.typeAssert (.iface 53 (.agg #[.func (.func 35) #[] #[], .int .i64 a, .int .i64 b])) 49 53 true).run Try.prog w = .ok (.tuple #[.agg #[.func (.func 35) #[] #[], .int .i64 a, .int .i64 b], .bool true]) w := fun _ => by kernel_rfl
    have HK1 := Lib.hid (show Kept W ((W.alloc (.cells #[.int .i64 ev.q, .int .i64 ev.a, .int .i64 ev.k, .string ev.cm, .int .i64 ev.x, .int .i64 ev.y, .int .i64 ev.z] 33)).alloc (.cells #[.func (.func 35) #[] #[], .int .i64 a, .int .i64 b] 53)) [(W.heap.size + 1, 53, #[.func (.func 35) #[] #[], .int .i64 a, .int .i64 b]), (W.heap.size, 33, #[.int .i64 ev.q, .int .i64 ev.a, .int .i64 ev.k, .string ev.cm, .int .i64 ev.x, .int .i64 ev.y, .int .i64 ev.z])] from (((Kept.start W).alloc_at 33 #[.int .i64 ev.q, .int .i64 ev.a, .int .i64 ev.k, .string ev.cm, .int .i64 ev.x, .int .i64 ev.y, .int .i64 ev.z] (W.heap.size) (by simp)).alloc_at 53 #[.func (.func 35) #[] #[], .int .i64 a, .int .i64 b] (W.heap.size + 1) (by simp)))
    go_enter Try.func27, Try.ntmps27
    go_wp2_with fail
    with_reducible refine (num2_c ev _).mono ?_
    rintro e w1 ⟨rfl, hb1⟩
    have HK2 := Lib.hid (show Kept W w1 [(W.heap.size + 1, 53, #[.func (.func 35) #[] #[], .int .i64 a, .int .i64 b]), (W.heap.size, 33, #[.int .i64 ev.q, .int .i64 ev.a, .int .i64 ev.k, .string ev.cm, .int .i64 ev.x, .int .i64 ev.y, .int .i64 ev.z])] from HK1.out.next hb1)
    clear HK1
    clear hb1
    have c_s_0 : w1.cell? ⟨W.heap.size + 1, 0, none⟩ = some (.func (.func 35) #[] #[]) := HK2.out.cell 0 rfl 0
    have c_s_1 : w1.cell? ⟨W.heap.size + 1, 1, none⟩ = some (.int .i64 a) := HK2.out.cell 0 rfl 1
    have c_s_2 : w1.cell? ⟨W.heap.size + 1, 2, none⟩ = some (.int .i64 b) := HK2.out.cell 0 rfl 2
    go_wp2
    all_goals
      go_ret
      refine ⟨ret_bool ?_, HK2.out.bel⟩
      rw [meansF]
      rw [if_neg (by decide)]
      rw [if_pos rfl]
      first | (symm; rw [decide_eq_false_iff_not]; omega) | (rw [Bool.eq_iff_iff, decide_eq_true_eq, decide_eq_true_eq]; omega)
  | kind a b name ks =>
    intro W hP hQ
    have t1 : ∀ w, (Instr.typeAssert (.iface 53 (.agg #[.func (.func 36) #[] #[], .int .i64 a, .int .i64 a])) 49 53 true).run Try.prog w = .ok (.tuple #[.agg #[.func (.func 36) #[] #[], .int .i64 a, .int .i64 a], .bool true]) w := fun _ => by kernel_rfl
    have HK1 := Lib.hid (show Kept W ((W.alloc (.cells #[.int .i64 ev.q, .int .i64 ev.a, .int .i64 ev.k, .string ev.cm, .int .i64 ev.x, .int .i64 ev.y, .int .i64 ev.z] 33)).alloc (.cells #[.func (.func 36) #[] #[], .int .i64 a, .int .i64 a] 53)) [(W.heap.size + 1, 53, #[.func (.func 36) #[] #[], .int .i64 a, .int .i64 a]), (W.heap.size, 33, #[.int .i64 ev.q, .int .i64 ev.a, .int .i64 ev.k, .string ev.cm, .int .i64 ev.x, .int .i64 ev.y, .int .i64 ev.z])] from (((Kept.start W).alloc_at 33 #[.int .i64 ev.q, .int .i64 ev.a, .int .i64 ev.k, .string ev.cm, .int .i64 ev.x, .int .i64 ev.y, .int .i64 ev.z] (W.heap.size) (by simp)).alloc_at 53 #[.func (.func 36) #[] #[], .int .i64 a, .int .i64 a] (W.heap.size + 1) (by simp)))
    go_enter Try.func27, Try.ntmps27
    go_wp2_with fail
    with_reducible refine (num3_c ev _).mono ?_
    rintro e w1 ⟨rfl, hb1⟩
    have HK2 := Lib.hid (show Kept W w1 [(W.heap.size + 1, 53, #[.func (.func 36) #[] #[], .int .i64 a, .int .i64 a]), (W.heap.size, 33, #[.int .i64 ev.q, .int .i64 ev.a, .int .i64 ev.k, .string ev.cm, .int .i64 ev.x, .int .i64 ev.y, .int .i64 ev.z])] from HK1.out.next hb1)
    clear HK1
    clear hb1
    have c_s_0 : w1.cell? ⟨W.heap.size + 1, 0, none⟩ = some (.func (.func 36) #[] #[]) := HK2.out.cell 0 rfl 0
    have c_s_1 : w1.cell? ⟨W.heap.size + 1, 1, none⟩ = some (.int .i64 a) := HK2.out.cell 0 rfl 1
    have c_s_2 : w1.cell? ⟨W.heap.size + 1, 2, none⟩ = some (.int .i64 a) := HK2.out.cell 0 rfl 2
    go_wp2
    all_goals
      go_ret
      refine ⟨ret_bool ?_, HK2.out.bel⟩
      rw [meansF]
      rw [if_neg (by decide)]
      rw [if_neg (by decide)]
      rw [if_neg (by decide)]
      rw [if_pos rfl]
      first | (symm; rw [decide_eq_false_iff_not]; omega) | (rw [Bool.eq_iff_iff, decide_eq_true_eq, decide_eq_true_eq]; omega)
  | named a b name ks =>
    intro W hP hQ
    have t1 : ∀ w, (Instr.typeAssert (.iface 56 (.agg #[.string name])) 49 53 true).run Try.prog w = .ok (.tuple #[.agg #[.nilFunc, .int .i64 0, .int .i64 0], .bool false]) w := fun _ => by kernel_rfl
    have t2 : ∀ w, (Instr.typeAssert (.iface 56 (.agg #[.string name])) 49 56 true).run Try.prog w = .ok (.tuple #[.agg #[.string name], .bool true]) w := fun _ => by kernel_rfl
    have HK1 := Lib.hid (show Kept W (((W.alloc (.cells #[.int .i64 ev.q, .int .i64 ev.a, .int .i64 ev.k, .string ev.cm, .int .i64 ev.x, .int .i64 ev.y, .int .i64 ev.z] 33)).alloc (.cells #[.nilFunc, .int .i64 0, .int .i64 0] 53)).alloc (.cells #[.string name] 56)) [(W.heap.size + 2, 56, #[.string name]), (W.heap.size + 1, 53, #[.nilFunc, .int .i64 0, .int .i64 0]), (W.heap.size, 33, #[.int .i64 ev.q, .int .i64 ev.a, .int .i64 ev.k, .string ev.cm, .int .i64 ev.x, .int .i64 ev.y, .int .i64 ev.z])] from ((((Kept.start W).alloc_at 33 #[.int .i64 ev.q, .int .i64 ev.a, .int .i64 ev.k, .string ev.cm, .int .i64 ev.x, .int .i64 ev.y, .int .i64 ev.z] (W.heap.size) (by simp)).alloc_at 53 #[.nilFunc, .int .i64 0, .int .i64 0] (W.heap.size + 1) (by simp)).alloc_at 56 #[.string name] (W.heap.size + 2) (by simp)))
    go_enter Try.func27, Try.ntmps27
    go_wp2
    go_ret
    refine ⟨ret_bool ?_, HK1.out.bel⟩
    rw [meansF, if_neg (by decide), if_neg (by decide), if_pos rfl]
  | inverse a b name v t ks hk ih =>
    intro W hP hQ
    obtain ⟨ty, u, rfl⟩ := hk.iface
    have IH := Lib.hid ih
    clear ih hk
    have t1 : ∀ w, (Instr.typeAssert (.iface 59 (.agg #[.iface ty u])) 49 53 true).run Try.prog w = .ok (.tuple #[.agg #[.nilFunc, .int .i64 0, .int .i64 0], .bool false]) w := fun _ => by kernel_rfl
    have t2 : ∀ w, (Instr.typeAssert (.iface 59 (.agg #[.iface ty u])) 49 56 true).run Try.prog w = .ok (.tuple #[.agg #[.string ⟨#[]⟩], .bool false]) w := fun _ => by kernel_rfl
    have t3 : ∀ w, (Instr.typeAssert (.iface 59 (.agg #[.iface ty u])) 49 59 true).run Try.prog w = .ok (.tuple #[.agg #[.iface ty u], .bool true]) w := fun _ => by kernel_rfl
    have HK1 := Lib.hid (show Kept W ((((W.alloc (.cells #[.int .i64 ev.q, .int .i64 ev.a, .int .i64 ev.k, .string ev.cm, .int .i64 ev.x, .int .i64 ev.y, .int .i64 ev.z] 33)).alloc (.cells #[.nilFunc, .int .i64 0, .int .i64 0] 53)).alloc (.cells #[.string ⟨#[]⟩] 56)).alloc (.cells #[.iface ty u] 59)) [(W.heap.size + 3, 59, #[.iface ty u]), (W.heap.size + 2, 56, #[.string ⟨#[]⟩]), (W.heap.size + 1, 53, #[.nilFunc, .int .i64 0, .int .i64 0]), (W.heap.size, 33, #[.int .i64 ev.q, .int .i64 ev.a, .int .i64 ev.k, .string ev.cm, .int .i64 ev.x, .int .i64 ev.y, .int .i64 ev.z])] from (((((Kept.start W).alloc_at 33 #[.int .i64 ev.q, .int .i64 ev.a, .int .i64 ev.k, .string ev.cm, .int .i64 ev.x, .int .i64 ev.y, .int .i64 ev.z] (W.heap.size) (by simp)).alloc_at 53 #[.nilFunc, .int .i64 0, .int .i64 0] (W.heap.size + 1) (by simp)).alloc_at 56 #[.string ⟨#[]⟩] (W.heap.size + 2) (by simp)).alloc_at 59 #[.iface ty u] (W.heap.size + 3) (by simp)))
    have hsz := HK1.out.lt 3 rfl
    go_enter Try.func27, Try.ntmps27
    go_wp2_with fail
    with_reducible refine (IH.out _ (fun b' hb' => (HK1.out.bel.block b' (hQ b' hb')).trans (hP b' hb')) (fun b' hb' => Nat.lt_of_lt_of_le (hQ b' hb') HK1.out.size)).mono ?_
    rintro e w1 ⟨rfl, hb1⟩
    have HK2 := Lib.hid (show Kept W w1 [(W.heap.size + 3, 59, #[.iface ty u]), (W.heap.size + 2, 56, #[.string ⟨#[]⟩]), (W.heap.size + 1, 53, #[.nilFunc, .int .i64 0, .int .i64 0]), (W.heap.size, 33, #[.int .i64 ev.q, .int .i64 ev.a, .int .i64 ev.k, .string ev.cm, .int .i64 ev.x, .int .i64 ev.y, .int .i64 ev.z])] from HK1.out.next hb1)
    clear HK1
    clear hb1
    go_wp2
    go_ret
    exact ⟨ret_bool (by rw [meansF, if_neg (by decide), if_neg (by decide), if_neg (by decide), if_neg (by decide), if_pos rfl, meansH]), HK2.out.bel⟩
  | group op a b name A n c vs ks h2 h3 h4 h5 h8 hn hv hc hr hk ih =>
    intro W hP hQ
    have IH := Lib.hid ih
    have HR := Lib.hid hr
    have HK0 := Lib.hid hk
    have HN := Lib.hid hn
    have HV := Lib.hid hv
    clear ih hk hr hn hv
    have HG := Lib.hid (⟨h2, h3, h4, h5, h8⟩ : op ≠ 2 ∧ op ≠ 3 ∧ op ≠ 4 ∧ op ≠ 5 ∧ op ≠ 8)
    clear h2 h3 h4 h5 h8
    have HAll := Lib.hid (fun (h : ∀ (j : Nat) t, ks[j]? = some t → meansF t ev = (op != 7)) => means_all (a := a) (b := b) (name := name) HG.out.1 HG.out.2.1 HG.out.2.2.1 HG.out.2.2.2.1 HG.out.2.2.2.2 h)
    have HStop := Lib.hid (fun (k : Nat) (t : FT) (hk : ks[k]? = some t) (h : meansF t ev = !(op != 7)) => means_stop (a := a) (b := b) (name := name) HG.out.1 HG.out.2.1 HG.out.2.2.1 HG.out.2.2.2.1 HG.out.2.2.2.2 k t hk h)
    clear HG
    generalize meansF (.mk op a b name ks) ev = res at HAll HStop ⊢
    generalize (op != 7) = fl at HAll HStop ⊢
    have t1 : ∀ w, (Instr.typeAssert (.iface 63 (.agg #[.bool fl, .slice A n c])) 49 53 true).run Try.prog w = .ok (.tuple #[.agg #[.nilFunc, .int .i64 0, .int .i64 0], .bool false]) w := fun _ => by kernel_rfl
    have t2 : ∀ w, (Instr.typeAssert (.iface 63 (.agg #[.bool fl, .slice A n c])) 49 56 true).run Try.prog w = .ok (.tuple #[.agg #[.string ⟨#[]⟩], .bool false]) w := fun _ => by kernel_rfl
    have t3 : ∀ w, (Instr.typeAssert (.iface 63 (.agg #[.bool fl, .slice A n c])) 49 59 true).run Try.prog w = .ok (.tuple #[.agg #[.nilIface], .bool false]) w := fun _ => by kernel_rfl
    have t4 : ∀ w, (Instr.typeAssert (.iface 63 (.agg #[.bool fl, .slice A n c])) 49 63 false).run Try.prog w = .ok (.agg #[.bool fl, .slice A n c]) w := fun _ => by kernel_rfl
    have HK1 := Lib.hid (show Kept W (((((W.alloc (.cells #[.int .i64 ev.q, .int .i64 ev.a, .int .i64 ev.k, .string ev.cm, .int .i64 ev.x, .int .i64 ev.y, .int .i64 ev.z] 33)).alloc (.cells #[.nilFunc, .int .i64 0, .int .i64 0] 53)).alloc (.cells #[.string ⟨#[]⟩] 56)).alloc (.cells #[.nilIface] 59)).alloc (.cells #[.bool fl, .slice A n c] 63)) [(W.heap.size + 4, 63, #[.bool fl, .slice A n c]), (W.heap.size + 3, 59, #[.nilIface]), (W.heap.size + 2, 56, #[.string ⟨#[]⟩]), (W.heap.size + 1, 53, #[.nilFunc, .int .i64 0, .int .i64 0]), (W.heap.size, 33, #[.int .i64 ev.q, .int .i64 ev.a, .int .i64 ev.k, .string ev.cm, .int .i64 ev.x, .int .i64 ev.y, .int .i64 ev.z])] from ((((((Kept.start W).alloc_at 33 #[.int .i64 ev.q, .int .i64 ev.a, .int .i64 ev.k, .string ev.cm, .int .i64 ev.x, .int .i64 ev.y, .int .i64 ev.z] (W.heap.size) (by simp)).alloc_at 53 #[.nilFunc, .int .i64 0, .int .i64 0] (W.heap.size + 1) (by simp)).alloc_at 56 #[.string ⟨#[]⟩] (W.heap.size + 2) (by simp)).alloc_at 59 #[.nilIface] (W.heap.size + 3) (by simp)).alloc_at 63 #[.bool fl, .slice A n c] (W.heap.size + 4) (by simp)))
    go_enter Try.func27, Try.ntmps27
    go_wp2
    go_loopw [62] (fun i wr => ∃ (k : Nat), k ≤ n ∧ i = .int .i64 k ∧ Hid (∀ (j : Nat) t, j < k → ks[j]? = some t → meansF t ev = fl) ∧ Hid (Kept W wr [(W.heap.size + 4, 63, #[.bool fl, .slice A n c]), (W.heap.size + 3, 59, #[.nilIface]), (W.heap.size + 2, 56, #[.string ⟨#[]⟩]), (W.heap.size + 1, 53, #[.nilFunc, .int .i64 0, .int .i64 0]), (W.heap.size, 33, #[.int .i64 ev.q, .int .i64 ev.a, .int .i64 ev.k, .string ev.cm, .int .i64 ev.x, .int .i64 ev.y, .int .i64 ev.z])])) (fun i _ => n - (intOf i).toNat)
    case atStart => exact ⟨0, Nat.zero_le _, rfl, Lib.hid (fun j t hj => absurd hj (by omega)), HK1⟩
    case round =>
      clear HK1
      obtain ⟨k, hk, rfl, HS, HK⟩ := hrel
      have hz := HK.out.size
      by_cases hlt : k < n
      · obtain ⟨ad, rfl, hpa, hcell⟩ := HR.out (by omega)
        obtain ⟨x, hx⟩ : ∃ x, vs[k]? = some x := ⟨_, List.getElem?_eq_getElem (by rw [HV.out]; exact hlt)⟩
        obtain ⟨t, ht⟩ : ∃ t, ks[k]? = some t := ⟨_, List.getElem?_eq_getElem (by rw [HN.out]; exact hlt)⟩
        have hxc : wr.cell? (ad.add k) = some x := (World.cell?_of_block (by rw [block_of_add]; exact (HK.out.bel.block _ (hQ _ hpa)).trans (hP _ hpa))).trans (hcell k x hx)
        have HIK := Lib.hid (IH.out k x t hx ht)
        obtain ⟨ty, u, rfl⟩ := (HK0.out k x t hx ht).iface
        have HKT := Lib.hid ht
        clear hx ht hcell
        have i1 : (0 : Int) ≤ (k : Int) := by omega
        have i2 : (k : Int) < (n : Int) := by omega
        go_wp2_with fail
        clear hxc
        refine wp_region_noPanic ?_
        refine wp_region_held_drew (S := fun W' => Kept W W' [(W.heap.size + 4, 63, #[.bool fl, .slice (some ad) n c]), (W.heap.size + 3, 59, #[.nilIface]), (W.heap.size + 2, 56, #[.string ⟨#[]⟩]), (W.heap.size + 1, 53, #[.nilFunc, .int .i64 0, .int .i64 0]), (W.heap.size, 33, #[.int .i64 ev.q, .int .i64 ev.a, .int .i64 ev.k, .string ev.cm, .int .i64 ev.x, .int .i64 ev.y, .int .i64 ev.z])]) (by kernel_rfl) HK.out.drew (fun hHeld => ?_)
        refine takeH 0 (v := ?v0u1) rfl (by kernel_rfl) (by kernel_rfl) (by kernel_rfl) rfl (fun _ _ _ h => h) (Or.inl ⟨by rfl, ?y0u1⟩) hHeld ?r0u1
        case y0u1 => (intro W hSW; (try dsimp only at hSW); go_simp; try with_reducible rfl)
        simp only [Act.put, List.setIfInBounds_toArray, List.set_cons_zero, List.set_cons_succ]
        refine takeH 1 (v := ?v1u2) rfl (by kernel_rfl) (by kernel_rfl) (by kernel_rfl) rfl (fun _ _ _ h => h) (Or.inl ⟨by rfl, ?y1u2⟩) hHeld ?r1u2
        case y1u2 => (intro W hSW; (try dsimp only at hSW); have q0 := hSW.cell 4 rfl 0; have q1 := hSW.cell 4 rfl 1; have q2 := hSW.cell 4 rfl 2; have q3 := hSW.cell 4 rfl 3; have q4 := hSW.cell 4 rfl 4; have q5 := hSW.cell 4 rfl 5; have q6 := hSW.cell 4 rfl 6; simp only [List.getElem?_toArray, List.getElem?_cons_zero, List.getElem?_cons_succ] at q0 q1 q2 q3 q4 q5 q6; go_simp; try with_reducible rfl)
        simp only [Act.put, List.setIfInBounds_toArray, List.set_cons_zero, List.set_cons_succ]
        refine takeH 3 (v := ?v3u3) rfl (by kernel_rfl) (by kernel_rfl) (by kernel_rfl) rfl (fun _ _ _ h => h) (Or.inl ⟨by rfl, ?y3u3⟩) hHeld ?r3u3
        case y3u3 => (intro W hSW; (try dsimp only at hSW); go_simp; try with_reducible rfl)
        simp only [Act.put, List.setIfInBounds_toArray, List.set_cons_zero, List.set_cons_succ]
        refine takeH 4 (v := ?v4u4) rfl (by kernel_rfl) (by kernel_rfl) (by kernel_rfl) rfl (fun _ _ _ h => h) (Or.inl ⟨by rfl, ?y4u4⟩) hHeld ?r4u4
        case y4u4 => (intro W hSW; (try dsimp only at hSW); have q0 := hSW.cell 0 rfl 0; simp only [List.getElem?_toArray, List.getElem?_cons_zero] at q0; go_simp; try with_reducible rfl)
        simp only [Act.put, List.setIfInBounds_toArray, List.set_cons_zero, List.set_cons_succ]
        refine wpAnyH_ready (rs := [2]) (by kernel_rfl) (by simp) ?_
        refine AllReadyH.cons rfl (fun K hK => ?_) AllReadyH.nil
        go_simp
        with_reducible refine (HIK.out _ (fun b' hb' => (hHeld.bel.block b' (hQ b' hb')).trans (hP b' hb')) (fun b' hb' => Nat.lt_of_lt_of_le (hQ b' hb') hHeld.size)).mono ?_
        rintro e wn ⟨rfl, hbn⟩
        have hkn := hHeld.next hbn
        clear hbn
        refine hK.out _ _ hkn (fun hHeld => ?_)
        clear hK K
        try simp only [Act.put, List.setIfInBounds_toArray, List.set_cons_zero, List.set_cons_succ]
        refine takeH 5 (v := ?v5u5) rfl (by kernel_rfl) (by kernel_rfl) (by kernel_rfl) rfl (fun _ _ _ h => h) (Or.inl ⟨by rfl, ?y5u5⟩) hHeld ?r5u5
        case y5u5 => (intro W hSW; (try dsimp only at hSW); go_simp; try with_reducible rfl)
        simp only [Act.put, List.setIfInBounds_toArray, List.set_cons_zero, List.set_cons_succ]
        refine wpAnyH_done (by kernel_rfl) ?_ _
        refine NoPanic.normal ?_
        have HKn := Lib.hid hHeld
        clear hHeld HK
        have c_g_0 : wn.cell? ⟨W.heap.size + 4, 0, none⟩ = some (.bool fl) := HKn.out.cell 0 rfl 0
        have c_g_1 : wn.cell? ⟨W.heap.size + 4, 1, none⟩ = some (.slice (some ad) n c) := HKn.out.cell 0 rfl 1
        cases hm : meansF t ev <;> cases fl
        · have HS2 := Lib.hid (show ∀ (j : Nat) t, j < k + 1 → ks[j]? = some t → meansF t ev = false from fun j t' hj ht' => by
            by_cases hjk : j < k
            · exact HS.out j t' hjk ht'
            · obtain rfl : j = k := by omega
              rw [HKT.out] at ht'; injection ht' with ht'; subst ht'; exact hm)
          clear hm
          go_wp2
          exact ⟨⟨k + 1, by omega, rfl, HS2, HKn⟩, by simp [intOf]; omega⟩
        · have HE := Lib.hid (HStop.out k t HKT.out (by rw [hm]; rfl))
          clear hm
          go_wp2
          go_ret
          exact ⟨ret_bool HE.out.symm, HKn.out.bel⟩
        · have HE := Lib.hid (HStop.out k t HKT.out (by rw [hm]; rfl))
          clear hm
          go_wp2
          go_ret
          exact ⟨ret_bool HE.out.symm, HKn.out.bel⟩
        · have HS2 := Lib.hid (show ∀ (j : Nat) t, j < k + 1 → ks[j]? = some t → meansF t ev = true from fun j t' hj ht' => by
            by_cases hjk : j < k
            · exact HS.out j t' hjk ht'
            · obtain rfl : j = k := by omega
              rw [HKT.out] at ht'; injection ht' with ht'; subst ht'; exact hm)
          clear hm
          go_wp2
          exact ⟨⟨k + 1, by omega, rfl, HS2, HKn⟩, by simp [intOf]; omega⟩
      · obtain rfl : n = k := by omega
        have c_g_0 : wr.cell? ⟨W.heap.size + 4, 0, none⟩ = some (.bool fl) := HK.out.cell 0 rfl 0
        have c_g_1 : wr.cell? ⟨W.heap.size + 4, 1, none⟩ = some (.slice A n c) := HK.out.cell 0 rfl 1
        have HE := Lib.hid (HAll.out (fun j t ht => HS.out j t (by have := (List.getElem?_eq_some_iff.1 ht).1; rw [HN.out] at this; exact this) ht))
        go_wp2
        go_ret
        exact ⟨ret_bool HE.out.symm, HK.out.bel⟩
end Go.Proofs.Ytjkaklfhcefkcaa
