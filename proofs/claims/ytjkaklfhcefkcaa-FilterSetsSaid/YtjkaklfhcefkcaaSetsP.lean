/- Plain facts for FilterSets: sets, and that right filters of the same bytes are the same. -/
import Derived.Test.YtjkaklfhcefkcaaFBytes
namespace Go.Proofs.Ytjkaklfhcefkcaa
set_option linter.unusedVariables false

theorem byte_inj {m n : Nat} (hm : m < 256) (hn : n < 256) (h : UInt8.ofNat m = UInt8.ofNat n) : m = n := by
  have := congrArg UInt8.toNat h
  simp at this
  omega
theorem uencB_inj : ∀ (m n : Nat) (x y : List UInt8), uencB m ++ x = uencB n ++ y → m = n ∧ x = y := by
  intro m
  induction m using Nat.strongRecOn with
  | ind m ih =>
    intro n x y h
    by_cases hm : m < 128
    · rw [uencB_small hm] at h
      by_cases hn : n < 128
      · rw [uencB_small hn] at h
        simp only [List.cons_append, List.nil_append, List.cons.injEq] at h
        exact ⟨byte_inj (by omega) (by omega) h.1, h.2⟩
      · rw [uencB_big (by omega)] at h
        simp only [List.cons_append, List.nil_append, List.cons.injEq] at h
        have := byte_inj (by omega) (by omega) h.1
        omega
    · rw [uencB_big (n := m) (by omega)] at h
      by_cases hn : n < 128
      · rw [uencB_small hn] at h
        simp only [List.cons_append, List.nil_append, List.cons.injEq] at h
        have := byte_inj (by omega) (by omega) h.1
        omega
      · rw [uencB_big (n := n) (by omega)] at h
        simp only [List.cons_append, List.cons.injEq] at h
        have h1 := byte_inj (by omega) (by omega) h.1
        obtain ⟨h2, h3⟩ := ih (m / 128) (by omega) (n / 128) x y h.2
        exact ⟨by omega, h3⟩
theorem textB_inj (a b x y : List UInt8) (h : textB a ++ x = textB b ++ y) : a = b ∧ x = y := by
  unfold textB at h
  rw [List.append_assoc, List.append_assoc] at h
  obtain ⟨h1, h2⟩ := uencB_inj _ _ _ _ h
  exact List.append_inj h2 h1
theorem headB_inj {op a b op' a' b' : Int} {name name' : ByteArray} {n n' : Nat} {x y : List UInt8} (ho : 0 ≤ op) (ho' : 0 ≤ op') (ha : 0 ≤ a) (ha' : 0 ≤ a') (hb : 0 ≤ b) (hb' : 0 ≤ b') (h : headB op a b name n ++ x = headB op' a' b' name' n' ++ y) : op = op' ∧ a = a' ∧ b = b' ∧ name = name' ∧ n = n' ∧ x = y := by
  unfold headB at h
  simp only [List.append_assoc] at h
  obtain ⟨h1, h⟩ := uencB_inj _ _ _ _ h
  obtain ⟨h2, h⟩ := uencB_inj _ _ _ _ h
  obtain ⟨h3, h⟩ := uencB_inj _ _ _ _ h
  obtain ⟨h4, h⟩ := textB_inj _ _ _ _ h
  obtain ⟨h5, h⟩ := uencB_inj _ _ _ _ h
  refine ⟨by omega, by omega, by omega, ?_, h5, h⟩
  cases name; cases name'
  congr 1
  exact Array.toList_inj.1 h4
mutual
theorem encF_inj : ∀ (t u : FT) (x y : List UInt8), everyF t = true → everyF u = true → encF t ++ x = encF u ++ y → t = u ∧ x = y
  | .mk op a b name ks, .mk op' a' b' name' ks', x, y, ht, hu, h => by
    unfold everyF at ht hu
    rw [Bool.and_eq_true] at ht hu
    have f1 := one_facts ht.1
    have f2 := one_facts hu.1
    rw [encF, encF, List.append_assoc, List.append_assoc] at h
    obtain ⟨h1, h2, h3, h4, h5, h6⟩ := headB_inj (by omega) (by omega) (by omega) (by omega) (by omega) (by omega) h
    obtain ⟨h7, h8⟩ := encL_inj ks ks' x y h5 ht.2 hu.2 h6
    subst h1 h2 h3 h4 h7
    exact ⟨rfl, h8⟩
theorem encL_inj : ∀ (ts us : List FT) (x y : List UInt8), ts.length = us.length → everyL ts = true → everyL us = true → encL ts ++ x = encL us ++ y → ts = us ∧ x = y
  | [], [], x, y, _, _, _, h => ⟨rfl, by simpa [encL] using h⟩
  | t :: ts, u :: us, x, y, hl, ht, hu, h => by
    unfold everyL at ht hu
    rw [Bool.and_eq_true] at ht hu
    rw [encL, encL, List.append_assoc, List.append_assoc] at h
    obtain ⟨h1, h2⟩ := encF_inj t u _ _ ht.1 hu.1 h
    obtain ⟨h3, h4⟩ := encL_inj ts us x y (by simpa using hl) ht.2 hu.2 h2
    subst h1 h3
    exact ⟨rfl, h4⟩
  | [], _ :: _, _, _, hl, _, _, _ => by simp at hl
  | _ :: _, [], _, _, hl, _, _, _ => by simp at hl
end
theorem bytes_same {t u : FT} (ht : rightT t = true) (hu : rightT u = true) (h : bytesT t = bytesT u) : t = u := by
  unfold bytesT at h
  rw [ht, hu, if_pos rfl, if_pos rfl] at h
  exact (encF_inj t u [] [] (right_facts t ht).1 (right_facts u hu).1 (by rw [h])).1
theorem right_of {t : FT} (h1 : everyF t = true) (h2 : dpF t ≤ 16) (h3 : cntF t ≤ 64) : rightT t = true := by
  unfold rightT
  rw [(rightF_sem t 1 64).1 ⟨h1, by omega, h3⟩]
section
variable {t u : FT} {e : Evt}
abbrev nE : ByteArray := ⟨#[]⟩
theorem both_right (h : rightT (.mk 6 0 0 nE [t, u]) = true) : rightT t = true ∧ rightT u = true ∧ rightT (.mk 6 0 0 nE [u, t]) = true ∧ rightT (.mk 7 0 0 nE [t, u]) = true := by
  obtain ⟨h1, h2, h3⟩ := right_facts _ h
  simp only [everyF, everyL, Bool.and_eq_true, Bool.and_true] at h1
  simp only [dpF, dpL] at h2
  simp only [cntF, cntL] at h3
  have p1 := dp_pos t
  have p2 := dp_pos u
  refine ⟨right_of h1.2.1 (by omega) (by omega), right_of h1.2.2 (by omega) (by omega), right_of ?_ ?_ ?_, right_of ?_ ?_ ?_⟩
  · simp only [everyF, everyL, h1.2.1, h1.2.2, Bool.and_true, List.length_cons, List.length_nil]; decide
  · simp only [dpF, dpL]; omega
  · simp only [cntF, cntL]; omega
  · simp only [everyF, everyL, h1.2.1, h1.2.2, Bool.and_true, List.length_cons, List.length_nil]; decide
  · simp only [dpF, dpL]; omega
  · simp only [cntF, cntL]; omega
theorem m_and : meansF (.mk 6 0 0 nE [t, u]) e = (meansF t e && meansF u e) := by
  rw [means_grp (by decide) (by decide) (by decide) (by decide) (by decide), if_neg (by decide), allL, allL, allL, Bool.and_true]
theorem m_or : meansF (.mk 7 0 0 nE [t, u]) e = (meansF t e || meansF u e) := by
  rw [means_grp (by decide) (by decide) (by decide) (by decide) (by decide), if_pos rfl, anyL, anyL, anyL, Bool.or_false]
theorem m_none : meansF (.mk 8 0 0 nE [.mk 7 0 0 nE [u, t]]) e = !(meansF u e || meansF t e) := by
  rw [meansF, if_neg (by decide), if_neg (by decide), if_neg (by decide), if_neg (by decide), if_pos rfl, meansH, m_or]
theorem m_one : meansF (.mk 7 0 0 nE [.mk 6 0 0 nE [t]]) e = meansF t e := by
  rw [means_grp (by decide) (by decide) (by decide) (by decide) (by decide), if_pos rfl, anyL, anyL, Bool.or_false]
  rw [means_grp (by decide) (by decide) (by decide) (by decide) (by decide), if_neg (by decide), allL, allL, Bool.and_true]
end
end Go.Proofs.Ytjkaklfhcefkcaa
