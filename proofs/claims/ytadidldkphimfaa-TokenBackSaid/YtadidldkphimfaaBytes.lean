/- Slices of bytes as lists of UInt8; conversions to strings; clones. -/
import Derived.Test.YtadidldkphimfaaRows
import Derived.Test.YtadidldkphimfaaArgs
import Derived.Laws.IdiomStrings
import Derived.Lib.BufferRead
import Derived.Lib.SlBytesConst
import Derived.WalkLawsBesides
import Derived.WalkSpells
import Derived.Deep.DeepMust
import Derived.Outline
namespace Go.Proofs.Ytadidldkphimfaa
set_option linter.unusedVariables false
open Go.RowKit

def byteCells (bs : List UInt8) : List Value := bs.map (fun x => Value.int .u8 (x.toNat : Int))
def natB (bs : List UInt8) : List Nat := bs.map UInt8.toNat
theorem natB_lt (bs : List UInt8) : ∀ x ∈ natB bs, x < 256 := by
  intro x hx
  obtain ⟨b, _, rfl⟩ := List.mem_map.1 hx
  exact b.toNat_lt
theorem natB_append (a b : List UInt8) : natB (a ++ b) = natB a ++ natB b := by simp [natB]
theorem natB_take (a : List UInt8) (k : Nat) : natB (a.take k) = (natB a).take k := by simp [natB]
theorem natB_length (a : List UInt8) : (natB a).length = a.length := by simp [natB]
theorem natB_inj {a b : List UInt8} (h : natB a = natB b) : a = b := by
  induction a generalizing b with
  | nil => cases b with
    | nil => rfl
    | cons y b => simp [natB] at h
  | cons x a ih => cases b with
    | nil => simp [natB] at h
    | cons y b =>
      simp only [natB, List.map_cons, List.cons.injEq] at h
      rw [UInt8.toNat_inj.1 h.1, ih h.2]
theorem byteCells_length (bs : List UInt8) : (byteCells bs).length = bs.length := by simp [byteCells]
theorem byteCells_append (a b : List UInt8) : byteCells (a ++ b) = byteCells a ++ byteCells b := by simp [byteCells]
theorem byteCells_one (bs : List UInt8) : ∀ u ∈ byteCells bs, u.oneCell' = true := by
  intro u hu
  obtain ⟨s, _, rfl⟩ := List.mem_map.1 hu
  rfl
theorem byteCells_take (bs : List UInt8) (k : Nat) : byteCells (bs.take k) = (byteCells bs).take k := by simp [byteCells]
theorem byteCells_drop (bs : List UInt8) (k : Nat) : byteCells (bs.drop k) = (byteCells bs).drop k := by simp [byteCells]

theorem bytes_of_ints (zs : List Int) (h : ∀ z ∈ zs, (Lit.int .u8 z).wf = true) : ∃ bs : List UInt8, zs.map (Value.int .u8) = byteCells bs := by
  refine ⟨zs.map (fun z => UInt8.ofNat z.toNat), ?_⟩
  unfold byteCells
  rw [List.map_map]
  refine List.map_congr_left (fun z hz => ?_)
  have hb := bounds_u8 (h z hz)
  simp only [Function.comp, UInt8.toNat_ofNat']
  congr 1
  omega
theorem bytesArg {w : World} {A : Option Addr} {n c : Nat} {zs : List Int} (h : IntArg .u8 w A n c zs) : ∃ bs : List UInt8, Reads w w.heap.size 1 A n (byteCells bs) ∧ n ≤ c ∧ c ≤ maxLen ∧ (A = none → c = 0) := by
  obtain ⟨h1, h2, h3, h4, h5⟩ := h
  obtain ⟨bs, hb⟩ := bytes_of_ints zs h5
  exact ⟨bs, hb ▸ h1, h2, h3, h4⟩

theorem Reads.byte_at {w : World} {B n k : Nat} {A : Option Addr} {bs : List UInt8} (h : Reads w B 1 A n (byteCells bs)) (hk : k < n) : ∃ ad x, A = some ad ∧ ad.block < B ∧ bs[k]? = some x ∧ w.cell? (ad.add k) = some (.int .u8 (x.toNat : Int)) := by
  obtain ⟨ad, u, rfl, hb, hx, hc⟩ := h.at_ hk
  obtain ⟨s, hs, rfl⟩ : ∃ s, bs[k]? = some s ∧ Value.int .u8 (s.toNat : Int) = u := by simpa [byteCells] using hx
  exact ⟨ad, s, rfl, hb, hs, hc⟩
theorem Reads.preB {w : World} {B n k : Nat} {A : Option Addr} {bs : List UInt8} (h : Reads w B 1 A n (byteCells bs)) (hk : k ≤ n) : Reads w B 1 A k (byteCells (bs.take k)) := by
  have hl : bs.length = n := by simpa [byteCells] using h.1
  refine ⟨by simp [byteCells]; omega, fun hk0 => ?_⟩
  obtain ⟨ad, rfl, hb, hc⟩ := h.2 (by omega)
  refine ⟨ad, rfl, hb, fun j u hu => hc j u ?_⟩
  rw [byteCells_take, List.getElem?_take] at hu
  split at hu
  · exact hu
  · cases hu
theorem Reads.sufB {w : World} {B n k cap : Nat} {A : Option Addr} {bs : List UInt8} (h : Reads w B 1 A n (byteCells bs)) (hk : k ≤ n) (hc : n ≤ cap) : Reads w B 1 (if cap = k then A else A.map (·.add k)) (n - k) (byteCells (bs.drop k)) := by
  have := h.cut (k := k) (cap := cap) hk hc
  rw [byteCells_drop]
  simpa using this
theorem Reads.lenB {w : World} {B n : Nat} {A : Option Addr} {bs : List UInt8} (h : Reads w B 1 A n (byteCells bs)) : bs.length = n := by simpa [byteCells] using h.1

/-- string(b). -/
theorem conv_reads {w : World} {B n : Nat} {A : Option Addr} {bs : List UInt8} (h : Reads w B 1 A n (byteCells bs)) (c : Nat) : (convert 37 9 (.slice A n c)).run Try.prog w = .ok (.string ⟨bs.toArray⟩) w := by
  have hl := h.lenB
  rcases A with _ | ad
  · have hn : n = 0 := by
      rcases Nat.eq_zero_or_pos n with h0 | h0
      · exact h0
      · obtain ⟨_, e, _⟩ := h.2 h0; cases e
    subst hn
    have : bs = [] := List.eq_nil_of_length_eq_zero hl
    subst this
    exact Lib.run_convert_nil_bytes w _ _ _ c Try.underlying37 Try.underlying5 Try.underlying9
  · subst hl
    refine run_convert_bytes_back w _ _ _ ad c bs Try.underlying37 Try.underlying5 Try.underlying9 (fun j hj => ?_)
    obtain ⟨ad', e, _, hc⟩ := h.2 (by omega)
    cases e
    exact hc j _ (by simp [byteCells, List.getElem?_eq_getElem hj])

theorem Try.infoU8 : (Try.prog.info? 5).map (fun i => (i.zero, i.size, i.bytes)) = some (some (.int .u8 0), 1, 1) := by kernel_rfl

theorem CloneB_c (A : Option Addr) (n c B : Nat) (bs : List UInt8) (w : World) (hr : Reads w B 1 A n (byteCells bs)) (hB : B ≤ w.heap.size) (hn : n ≤ 1000000) :
    Calls Try.prog 30 #[.slice A n c] w fun e w' => ∃ v, e = .returned v ∧ w'.ownsRow w.heap.size 5 1 v n (byteCells bs) ∧ Below w.heap.size w w' := by
  have q : ∀ (w : World) (a : Option Addr) (n c n' c' : Nat), (binOp .eql 37 (.slice a n c) (.slice none n' c')).run Try.prog w = .ok (.bool a.isNone) w := fun w a n c n' c' => Lib.run_eql_slice_nil w _ _ a n c n' c' Try.underlying37
  obtain ⟨i0, hi0, hz0, hz1, hz2⟩ := info_parts Try.infoU8
  rcases A with _ | ad
  · have hn0 : n = 0 := by
      rcases Nat.eq_zero_or_pos n with h | h
      · exact h
      · obtain ⟨_, h, _⟩ := hr.2 h; cases h
    subst hn0
    have hs : byteCells bs = [] := List.eq_nil_of_length_eq_zero (by simpa using hr.1)
    have HS := Lib.hid hs; clear hs hr
    go_enter Try.func30, Try.ntmps30
    go_wp2
    go_ret
    exact ⟨_, rfl, ⟨by rw [HS.out]; rfl, .inl ⟨rfl, rfl⟩⟩, Below.refl _ _⟩
  · have HR := Lib.hid hr; clear hr
    go_enter Try.func30, Try.ntmps30
    go_wp2_with (at_builtin; go_must (refine wpList_append_any _ rfl _ _ 37 rfl w.heap.size 5 i0 _ 1 1 Try.underlying37 hi0 hz0 hz1 hz2 rfl (by omega) _ 0 [] rfl (own_empty w 5 w.heap.size (Nat.le_refl _) 1) B (some ad) n c _ rfl (HR.out.alloc hB _) (byteCells_one bs) (by unfold maxLen; omega) (by omega) (by simp) ?_); intro v1 w1 hown1 hg1 hat1)
    go_ret
    exact ⟨v1, rfl, by simpa using hown1, below_own ((Below.refl _ _).alloc (Nat.le_refl _) _) hg1 (own_empty w 5 w.heap.size (Nat.le_refl _) 1) (Nat.le_refl _) (by simp)⟩
end Go.Proofs.Ytadidldkphimfaa
