/- Nodes: what a filter grows to, in memory. -/
import Derived.Test.YtjkaklfhcefkcaaTreeP
import Derived.Test.YtjkaklfhcefkcaaKept
import Derived.Test.YtjkaklfhcefkcaaHeld
namespace Go.Proofs.Ytjkaklfhcefkcaa
set_option linter.unusedVariables false
open Go.RowKit Go.ChangeShapes

/-- the node v, whose rows lie in blocks that P allows, is that of the filter t. -/
inductive NTr (w : World) (P : Nat → Prop) : Value → FT → Prop
  | time (a b : Int) (name : ByteArray) (ks : List FT) : NTr w P (.iface 53 (.agg #[.func (.func 34) #[] #[], .int .i64 a, .int .i64 b])) (.mk 2 a b name ks)
  | seq (a b : Int) (name : ByteArray) (ks : List FT) : NTr w P (.iface 53 (.agg #[.func (.func 35) #[] #[], .int .i64 a, .int .i64 b])) (.mk 3 a b name ks)
  | kind (a b : Int) (name : ByteArray) (ks : List FT) : NTr w P (.iface 53 (.agg #[.func (.func 36) #[] #[], .int .i64 a, .int .i64 a])) (.mk 5 a b name ks)
  | named (a b : Int) (name : ByteArray) (ks : List FT) : NTr w P (.iface 56 (.agg #[.string name])) (.mk 4 a b name ks)
  | inverse (a b : Int) (name : ByteArray) (v : Value) (t : FT) (ks : List FT) (hk : NTr w P v t) : NTr w P (.iface 59 (.agg #[v])) (.mk 8 a b name (t :: ks))
  | group (op a b : Int) (name : ByteArray) (A : Option Addr) (n c : Nat) (vs : List Value) (ks : List FT) (h2 : op ≠ 2) (h3 : op ≠ 3) (h4 : op ≠ 4) (h5 : op ≠ 5) (h8 : op ≠ 8) (hn : ks.length = n) (hv : vs.length = n) (hc : n ≤ 9223372036854775807)
      (hr : 0 < n → ∃ ad, A = some ad ∧ P ad.block ∧ ∀ (i : Nat) v, vs[i]? = some v → w.cell? (ad.add i) = some v)
      (hk : ∀ (i : Nat) v t, vs[i]? = some v → ks[i]? = some t → NTr w P v t) : NTr w P (.iface 63 (.agg #[.bool (op != 7), .slice A n c])) (.mk op a b name ks)

theorem NTr.move {w w' : World} {P Q : Nat → Prop} {v : Value} {t : FT} (h : NTr w P v t) (hP : ∀ b, P b → w'.heap[b]? = w.heap[b]?) (hQ : ∀ b, P b → Q b) : NTr w' Q v t := by
  induction h with
  | time a b name ks => exact .time a b name ks
  | seq a b name ks => exact .seq a b name ks
  | kind a b name ks => exact .kind a b name ks
  | named a b name ks => exact .named a b name ks
  | inverse a b name v t ks hk ih => exact .inverse a b name v t ks ih
  | group op a b name A n c vs ks h2 h3 h4 h5 h8 hn hv hc hr hk ih =>
    refine .group op a b name A n c vs ks h2 h3 h4 h5 h8 hn hv hc (fun h0 => ?_) ih
    obtain ⟨ad, rfl, hp, hcell⟩ := hr h0
    refine ⟨ad, rfl, hQ _ hp, fun i v hv => (World.cell?_of_block ?_).trans (hcell i v hv)⟩
    rw [block_of_add]
    exact hP _ hp
theorem NTr.one {w : World} {P : Nat → Prop} {v : Value} {t : FT} (h : NTr w P v t) : v.oneCell' = true := by cases h <;> rfl
theorem NTr.iface {w : World} {P : Nat → Prop} {v : Value} {t : FT} (h : NTr w P v t) : ∃ ty u, v = .iface ty u := by cases h <;> exact ⟨_, _, rfl⟩
theorem everyL_get {ks : List FT} {i : Nat} {t : FT} (h : everyL ks = true) (hi : ks[i]? = some t) : everyF t = true := by
  cases he : everyF t
  · rw [everyL_false ks i t hi he] at h; cases h
  · rfl
theorem cntL_len : ∀ ks : List FT, ks.length ≤ cntL ks
  | [] => by simp
  | t :: ks => by have h := cntL_len ks; have h1 := (dp_pos t).2; unfold cntL; simp only [List.length_cons]; omega
theorem cntL_get : ∀ (ks : List FT) (i : Nat) (t : FT), ks[i]? = some t → cntF t ≤ cntL ks
  | [], i, t, h => by simp at h
  | x :: ks, 0, t, h => by simp at h; subst h; unfold cntL; omega
  | x :: ks, i + 1, t, h => by have := cntL_get ks i t (by simpa using h); unfold cntL; omega
def GrowOk (t : FT) (W : World) (e : Ending) (w' : World) : Prop := ∃ v, e = .returned v ∧ NTr w' (fun b => W.heap.size ≤ b ∧ b < w'.heap.size) v t ∧ Below W.heap.size W w'
/-- the kids that have grown so far. -/
def KidsOk (W : World) (g : Nat) (v : Value) (xs : List Value) (ks : List FT) : Prop := ∀ (i : Nat) x t, xs[i]? = some x → ks[i]? = some t → NTr W (fun b => g < b ∧ b < W.heap.size ∧ v.ownBlock ≠ some b) x t
end Go.Proofs.Ytjkaklfhcefkcaa
