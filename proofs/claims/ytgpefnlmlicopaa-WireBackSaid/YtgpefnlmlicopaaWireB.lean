/- Plain facts: what was put is read as it was, one behind the other; cut off something is missing. -/
import Derived.Test.YtgpefnlmlicopaaWire14
namespace Go.Proofs.Ytgpefnlmlicopaa
set_option linter.unusedVariables false

inductive Item where
  | u (n : Nat)
  | i (k : Int)
  | t (l : List UInt8)
def Item.enc : Item → List UInt8
  | .u n => uencB n
  | .i k => uencB (zig k)
  | .t l => textB l
def Item.ok : Item → Prop
  | .u n => n < 18446744073709551616
  | .i k => -9223372036854775808 ≤ k ∧ k ≤ 9223372036854775807
  | .t l => l.length ≤ 200
def stepI (bs : List UInt8) (s : Int × Int × Bool) : Item → Int × Int × Bool
  | .u n => ((uRes bs s.1 s.2.1).1, (uRes bs s.1 s.2.1).2.1, s.2.2 && ((uRes bs s.1 s.2.1).2.2 == n))
  | .i k => ((uRes bs s.1 s.2.1).1, (uRes bs s.1 s.2.1).2.1, s.2.2 && (unzig (uRes bs s.1 s.2.1).2.2 == k))
  | .t l => ((xRes bs s.1 s.2.1 200).1, (xRes bs s.1 s.2.1 200).2.1, s.2.2 && ((xRes bs s.1 s.2.1 200).2.2 == l))
def encAll (its : List Item) : List UInt8 := its.flatMap Item.enc
def readF (bs : List UInt8) (its : List Item) (s : Int × Int × Bool) : Int × Int × Bool := its.foldl (stepI bs) s

theorem u_good (pre rest : List UInt8) (n : Nat) (hn : n < 18446744073709551616) : uRes (pre ++ uencB n ++ rest) (pre.length : Int) 0 = ((pre.length : Int) + ((uencB n).length : Nat), 0, n) := by
  rw [uRes_at _ _ (by simp), List.append_assoc, List.drop_left, natB_append, natB_uencB, uread_uenc (natB rest) n 0 (by omega) (by simpa using hn) (by omega), if_pos rfl, uencB_length]
theorem u_cut (pre : List UInt8) (n k : Nat) (hn : n < 18446744073709551616) (hk : k < (uencB n).length) : uRes (pre ++ (uencB n).take k) (pre.length : Int) 0 = ((pre.length : Int), 10, 0) := by
  rw [uRes_at _ _ (by simp), List.drop_left, natB_take, natB_uencB, uread_cut n 0 k (by omega) (by simpa using hn) (by rw [uencB_length] at hk; exact hk), if_neg (by simp)]
  rfl
theorem t_good (pre rest l : List UInt8) (hl : l.length ≤ 200) : xRes (pre ++ textB l ++ rest) (pre.length : Int) 0 200 = ((pre.length : Int) + ((textB l).length : Nat), 0, l) := by
  have h := u_good pre (l ++ rest) l.length (by omega)
  have e : pre ++ textB l ++ rest = pre ++ uencB l.length ++ (l ++ rest) := by unfold textB; simp
  unfold xRes
  rw [e, h]
  simp only
  rw [if_neg (by simp), if_neg (by omega), if_neg (by simp; omega)]
  rw [show ((pre.length : Int) + ((uencB l.length).length : Nat)).toNat = (pre ++ uencB l.length).length from by simp; omega, List.drop_left, List.take_left]
  simp only [Prod.mk.injEq, and_true]
  unfold textB
  rw [List.length_append]
  omega
theorem t_cut (pre l : List UInt8) (k : Nat) (hl : l.length ≤ 200) (hk : k < (textB l).length) : xRes (pre ++ (textB l).take k) (pre.length : Int) 0 200 = ((pre.length : Int), 10, []) := by
  unfold textB at hk ⊢
  rw [List.length_append] at hk
  unfold xRes
  by_cases h1 : k < (uencB l.length).length
  · rw [List.take_append_of_le_length (by omega), u_cut pre l.length k (by omega) h1]
    simp
  · have e : pre ++ (uencB l.length ++ l).take k = pre ++ uencB l.length ++ l.take (k - (uencB l.length).length) := by
      rw [List.take_append, List.take_of_length_le (by omega), List.append_assoc]
    rw [e, u_good pre _ l.length (by omega)]
    simp only
    rw [if_neg (by simp), if_neg (by omega), if_pos (by simp; omega)]

theorem step_err (bs : List UInt8) (at_ e : Int) (ok : Bool) (it : Item) (he : e ≠ 0) : ∃ ok', stepI bs (at_, e, ok) it = (at_, e, ok') := by
  cases it with
  | u n => exact ⟨_, by unfold stepI; rw [uRes_err bs at_ e he]⟩
  | i k => exact ⟨_, by unfold stepI; rw [uRes_err bs at_ e he]⟩
  | t l => exact ⟨ok && (([] : List UInt8) == l), by unfold stepI xRes; rw [uRes_err bs at_ e he]; simp only [if_pos he]⟩
theorem read_err (bs : List UInt8) (its : List Item) (at_ e : Int) (ok : Bool) (he : e ≠ 0) : (readF bs its (at_, e, ok)).2.1 = e := by
  induction its generalizing ok with
  | nil => rfl
  | cons it its ih =>
    obtain ⟨ok', h⟩ := step_err bs at_ e ok it he
    unfold readF
    rw [List.foldl_cons, h]
    exact ih ok'
theorem step_good (pre rest : List UInt8) (it : Item) (ok : Bool) (h : it.ok) : stepI (pre ++ it.enc ++ rest) ((pre.length : Int), 0, ok) it = (((pre ++ it.enc).length : Int), 0, ok) := by
  cases it with
  | u n => unfold stepI Item.enc; simp only; rw [u_good pre rest n h]; simp
  | i k =>
    unfold stepI Item.enc; simp only
    rw [u_good pre rest (zig k) (zig_lt k h.1 h.2), unzig_zig]; simp
  | t l => unfold stepI Item.enc; simp only; rw [t_good pre rest l h]; simp
theorem step_cut (pre : List UInt8) (it : Item) (ok : Bool) (k : Nat) (h : it.ok) (hk : k < it.enc.length) : ∃ ok', stepI (pre ++ it.enc.take k) ((pre.length : Int), 0, ok) it = ((pre.length : Int), 10, ok') := by
  cases it with
  | u n => exact ⟨_, by unfold stepI Item.enc; simp only; rw [u_cut pre n k h hk]⟩
  | i z => exact ⟨_, by unfold stepI Item.enc; simp only; rw [u_cut pre (zig z) k (zig_lt z h.1 h.2) hk]⟩
  | t l => exact ⟨_, by unfold stepI Item.enc; simp only; rw [t_cut pre l k h hk]⟩
theorem read_good (its : List Item) (hok : ∀ it ∈ its, it.ok) : ∀ (pre rest : List UInt8) (ok : Bool), readF (pre ++ encAll its ++ rest) its ((pre.length : Int), 0, ok) = (((pre ++ encAll its).length : Int), 0, ok) := by
  induction its with
  | nil => intro pre rest ok; simp [readF, encAll]
  | cons it its ih =>
    intro pre rest ok
    have e : pre ++ encAll (it :: its) ++ rest = pre ++ it.enc ++ (encAll its ++ rest) := by simp [encAll]
    unfold readF
    rw [e, List.foldl_cons, step_good pre _ it ok (hok it (List.mem_cons_self ..))]
    have h := ih (fun x hx => hok x (List.mem_cons_of_mem _ hx)) (pre ++ it.enc) rest ok
    unfold readF at h
    rw [show pre ++ it.enc ++ (encAll its ++ rest) = pre ++ it.enc ++ encAll its ++ rest from by simp, h]
    simp [encAll]
theorem read_cut (its : List Item) (hok : ∀ it ∈ its, it.ok) : ∀ (pre : List UInt8) (ok : Bool) (k : Nat), k < (encAll its).length → (readF (pre ++ (encAll its).take k) its ((pre.length : Int), 0, ok)).2.1 = 10 := by
  induction its with
  | nil => intro pre ok k hk; simp [encAll] at hk
  | cons it its ih =>
    intro pre ok k hk
    have e : encAll (it :: its) = it.enc ++ encAll its := by simp [encAll]
    rw [e] at hk ⊢
    rw [List.length_append] at hk
    unfold readF
    rw [List.foldl_cons]
    by_cases h1 : k < it.enc.length
    · rw [List.take_append_of_le_length (by omega)]
      obtain ⟨ok', h⟩ := step_cut pre it ok k (hok it (List.mem_cons_self ..)) h1
      rw [h]
      exact read_err _ its _ 10 ok' (by omega)
    · rw [List.take_append, List.take_of_length_le (by omega), ← List.append_assoc, step_good pre _ it ok (hok it (List.mem_cons_self ..))]
      exact ih (fun x hx => hok x (List.mem_cons_of_mem _ hx)) (pre ++ it.enc) ok (k - it.enc.length) (by omega)
end Go.Proofs.Ytgpefnlmlicopaa
