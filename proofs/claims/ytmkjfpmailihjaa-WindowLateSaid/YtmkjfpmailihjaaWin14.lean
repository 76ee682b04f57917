/- Windows that live beside boxes; the fixed answer awake. -/
import Derived.Test.YtmkjfpmailihjaaWin13
namespace Go.Proofs.Ytmkjfpmailihjaa
set_option linter.unusedVariables false
open Go.RowKit Go.ChangeShapes

/-- the cells of a window, beside the boxes G of a walk. -/
def WinAt (w : World) (G : List Nat) (A : Option Addr) (n : Nat) (cs : List (Int × Int)) : Prop := Reads w w.heap.size 2 A n (cellCells cs) ∧ (0 < n → ∀ ad, A = some ad → ad.block ∉ G) ∧ ∀ g ∈ G, g < w.heap.size
section
variable {w w' : World} {G : List Nat} {A : Option Addr} {n : Nat} {cs : List (Int × Int)}
theorem WinAt.rd (h : WinAt w G A n cs) : Reads w w.heap.size 2 A n (cellCells cs) := h.1
theorem WinAt.len (h : WinAt w G A n cs) : cs.length = n := h.1.cell_len
theorem WinAt.next (h : WinAt w G A n cs) (hb : Below w.heap.size w w') : WinAt w' G A n cs := ⟨(h.1.below hb).more hb.size, h.2.1, fun g hg => Nat.lt_of_lt_of_le (h.2.2 g hg) hb.size⟩
theorem WinAt.alloc (h : WinAt w G A n cs) (o : Obj) : WinAt (w.alloc o) (w.heap.size :: G) A n cs := by
  refine ⟨(h.1.alloc (Nat.le_refl _) o).more (by simp), fun hn ad e hm => ?_, fun g hg => ?_⟩
  · rcases List.mem_cons.1 hm with hm | hm
    · have := h.1.lo hn ad e; omega
    · exact h.2.1 hn ad e hm
  · rcases List.mem_cons.1 hg with rfl | hg
    · simp
    · have := h.2.2 g hg; simp; omega
theorem WinAt.put3 (h : WinAt w G A n cs) {g : Nat} {a b c : Value} (hg : g ∈ G) : WinAt (((w.setCell ⟨g, 0, none⟩ a).setCell ⟨g, 1, none⟩ b).setCell ⟨g, 2, none⟩ c) G A n cs := by
  refine ⟨?_, h.2.1, fun g' hg' => by simp only [World.size_setCell]; exact h.2.2 g' hg'⟩
  simp only [World.size_setCell]
  exact reads_put3 h.1 (fun hn ad e he => h.2.1 hn ad e (he ▸ hg))
theorem WinAt.start (h : Reads w w.heap.size 2 A n (cellCells cs)) : WinAt w [] A n cs := ⟨h, fun _ _ _ => by simp, by simp⟩
theorem WinAt.res {A0 : Option Addr} {n0 : Nat} {cs0 : List (Int × Int)} (h0 : WinAt w G A0 n0 cs0) (hs : w.heap.size ≤ w'.heap.size) (h : Reads w' w'.heap.size 2 A n (cellCells cs)) (hlo : ∀ ad, A = some ad → A = A0 ∨ w.heap.size ≤ ad.block) (hn : n = n0) : WinAt w' G A n cs := by
  subst hn
  refine ⟨h, fun hn ad e hm => ?_, fun g hg => Nat.lt_of_lt_of_le (h0.2.2 g hg) hs⟩
  rcases hlo ad e with h' | h'
  · exact h0.2.1 hn ad (h' ▸ e) hm
  · have := h0.2.2 _ hm; omega
theorem WinAt.new (hG : ∀ g ∈ G, g < w.heap.size) (hs : w.heap.size ≤ w'.heap.size) (h : Reads w' w'.heap.size 2 A n (cellCells cs)) (hlo : ∀ ad, A = some ad → A = none ∨ w.heap.size ≤ ad.block) : WinAt w' G A n cs := by
  refine ⟨h, fun hn ad e hm => ?_, fun g hg => Nat.lt_of_lt_of_le (hG g hg) hs⟩
  rcases hlo ad e with h' | h'
  · rw [h'] at e; cases e
  · have := hG _ hm; omega
end

set_option maxRecDepth 100000 in
set_option maxHeartbeats 4000000 in
theorem awake_c (W : World) : Calls Try.prog 6 #[] W fun e w' => e = .returned (.bool true) ∧ Below W.heap.size W w' := by
  have HK1 := Lib.hid (show Kept W W [] from (Kept.start W))
  go_enter Try.func6, Try.ntmps6
  go_wp2_with fail
  with_reducible refine (New_c 10 2 5 _).mono ?_
  rw [show newR 10 2 5 = ⟨10, 0, [(0, 0), (0, 0)], 0⟩ from by rfl]
  rintro e w1 ⟨A1, n1, c1, rfl, hr1, hb1, hlo1⟩
  obtain rfl : n1 = 2 := by have := hr1.cell_len; simpa using this.symm
  have hz1 := hb1.size
  have HK2 := Lib.hid (show Kept W w1 [] from HK1.out.next hb1)
  clear HK1
  clear hb1
  have HW3 := Lib.hid (show WinAt w1 [] A1 2 [(0, 0), (0, 0)] from WinAt.new (w := W) (by simp) hz1 hr1 hlo1)
  clear hr1 hlo1 hz1
  go_wp2_with fail
  have HK4 := Lib.hid (show Kept W (w1.alloc (.cells #[.int .i64 10, .int .i64 0, .slice A1 2 c1] 24)) [(w1.heap.size, 24, #[.int .i64 10, .int .i64 0, .slice A1 2 c1])] from HK2.out.alloc 24 #[.int .i64 10, .int .i64 0, .slice A1 2 c1])
  clear HK2
  have HW5 := Lib.hid (show WinAt (w1.alloc (.cells #[.int .i64 10, .int .i64 0, .slice A1 2 c1] 24)) [w1.heap.size] A1 2 [(0, 0), (0, 0)] from HW3.out.alloc _)
  clear HW3
  generalize w1.alloc (.cells #[.int .i64 10, .int .i64 0, .slice A1 2 c1] 24) = v1 at HK4 HW5 ⊢
  with_reducible refine (Add_c 10 0 A1 2 c1 v1.heap.size [(0, 0), (0, 0)] 5 false v1 HW5.out.rd (Nat.le_refl _) (by omega)).mono ?_
  rw [show addR 10 0 [(0, 0), (0, 0)] 5 false = ⟨10, 0, [(0, 1), (0, 0)], 0⟩ from by rfl]
  rintro e w2 ⟨A2, n2, c2, rfl, hr2, hb2, hlo2⟩
  obtain rfl : n2 = 2 := by have := hr2.cell_len; simpa using this.symm
  have HW6 := Lib.hid (show WinAt w2 [w1.heap.size] A2 2 [(0, 1), (0, 0)] from HW5.out.res hb2.size hr2 hlo2 rfl)
  clear HW5
  have HK7 := Lib.hid (show Kept W w2 [(w1.heap.size, 24, #[.int .i64 10, .int .i64 0, .slice A1 2 c1])] from HK4.out.next hb2)
  clear HK4
  clear hb2
  clear hr2 hlo2
  have c_w_0 : w2.cell? ⟨w1.heap.size, 0, none⟩ = some (.int .i64 10) := HK7.out.cell 0 rfl 0
  have z_w_0 : w2.frozen? ⟨w1.heap.size, 0, none⟩ = false := HK7.out.frozen 0 rfl 0
  have c_w_1 : w2.cell? ⟨w1.heap.size, 1, none⟩ = some (.int .i64 0) := HK7.out.cell 0 rfl 1
  have z_w_1 : w2.frozen? ⟨w1.heap.size, 1, none⟩ = false := HK7.out.frozen 0 rfl 1
  have c_w_2 : w2.cell? ⟨w1.heap.size, 2, none⟩ = some (.slice A1 2 c1) := HK7.out.cell 0 rfl 2
  have z_w_2 : w2.frozen? ⟨w1.heap.size, 2, none⟩ = false := HK7.out.frozen 0 rfl 2
  go_wp2_with fail
  clear c_w_0 z_w_0 c_w_1 z_w_1 c_w_2 z_w_2
  have HK8 := Lib.hid (show Kept W (w2.setCell ⟨w1.heap.size, 0, none⟩ (.int .i64 10)) [(w1.heap.size, 24, #[.int .i64 10, .int .i64 0, .slice A1 2 c1])] from HK7.out.set_ 0 rfl 0 (.int .i64 10))
  clear HK7
  have HK9 := Lib.hid (show Kept W ((w2.setCell ⟨w1.heap.size, 0, none⟩ (.int .i64 10)).setCell ⟨w1.heap.size, 1, none⟩ (.int .i64 0)) [(w1.heap.size, 24, #[.int .i64 10, .int .i64 0, .slice A1 2 c1])] from HK8.out.set_ 0 rfl 1 (.int .i64 0))
  clear HK8
  have HK10 := Lib.hid (show Kept W (((w2.setCell ⟨w1.heap.size, 0, none⟩ (.int .i64 10)).setCell ⟨w1.heap.size, 1, none⟩ (.int .i64 0)).setCell ⟨w1.heap.size, 2, none⟩ (.slice A2 2 c2)) [(w1.heap.size, 24, #[.int .i64 10, .int .i64 0, .slice A2 2 c2])] from HK9.out.set_ 0 rfl 2 (.slice A2 2 c2))
  clear HK9
  have HW11 := Lib.hid (show WinAt (((w2.setCell ⟨w1.heap.size, 0, none⟩ (.int .i64 10)).setCell ⟨w1.heap.size, 1, none⟩ (.int .i64 0)).setCell ⟨w1.heap.size, 2, none⟩ (.slice A2 2 c2)) [w1.heap.size] A2 2 [(0, 1), (0, 0)] from HW6.out.put3 (by simp))
  clear HW6
  generalize ((w2.setCell ⟨w1.heap.size, 0, none⟩ (.int .i64 10)).setCell ⟨w1.heap.size, 1, none⟩ (.int .i64 0)).setCell ⟨w1.heap.size, 2, none⟩ (.slice A2 2 c2) = v2 at HK10 HW11 ⊢
  with_reducible refine (Add_c 10 0 A2 2 c2 v2.heap.size [(0, 1), (0, 0)] 12 false v2 HW11.out.rd (Nat.le_refl _) (by omega)).mono ?_
  rw [show addR 10 0 [(0, 1), (0, 0)] 12 false = ⟨10, 1, [(0, 1), (0, 1)], 0⟩ from by rfl]
  rintro e w3 ⟨A3, n3, c3, rfl, hr3, hb3, hlo3⟩
  obtain rfl : n3 = 2 := by have := hr3.cell_len; simpa using this.symm
  have HW12 := Lib.hid (show WinAt w3 [w1.heap.size] A3 2 [(0, 1), (0, 1)] from HW11.out.res hb3.size hr3 hlo3 rfl)
  clear HW11
  have HK13 := Lib.hid (show Kept W w3 [(w1.heap.size, 24, #[.int .i64 10, .int .i64 0, .slice A2 2 c2])] from HK10.out.next hb3)
  clear HK10
  clear hb3
  clear hr3 hlo3
  have c_w_0 : w3.cell? ⟨w1.heap.size, 0, none⟩ = some (.int .i64 10) := HK13.out.cell 0 rfl 0
  have z_w_0 : w3.frozen? ⟨w1.heap.size, 0, none⟩ = false := HK13.out.frozen 0 rfl 0
  have c_w_1 : w3.cell? ⟨w1.heap.size, 1, none⟩ = some (.int .i64 0) := HK13.out.cell 0 rfl 1
  have z_w_1 : w3.frozen? ⟨w1.heap.size, 1, none⟩ = false := HK13.out.frozen 0 rfl 1
  have c_w_2 : w3.cell? ⟨w1.heap.size, 2, none⟩ = some (.slice A2 2 c2) := HK13.out.cell 0 rfl 2
  have z_w_2 : w3.frozen? ⟨w1.heap.size, 2, none⟩ = false := HK13.out.frozen 0 rfl 2
  go_wp2_with fail
  clear c_w_0 z_w_0 c_w_1 z_w_1 c_w_2 z_w_2
  have HK14 := Lib.hid (show Kept W (w3.setCell ⟨w1.heap.size, 0, none⟩ (.int .i64 10)) [(w1.heap.size, 24, #[.int .i64 10, .int .i64 0, .slice A2 2 c2])] from HK13.out.set_ 0 rfl 0 (.int .i64 10))
  clear HK13
  have HK15 := Lib.hid (show Kept W ((w3.setCell ⟨w1.heap.size, 0, none⟩ (.int .i64 10)).setCell ⟨w1.heap.size, 1, none⟩ (.int .i64 1)) [(w1.heap.size, 24, #[.int .i64 10, .int .i64 1, .slice A2 2 c2])] from HK14.out.set_ 0 rfl 1 (.int .i64 1))
  clear HK14
  have HK16 := Lib.hid (show Kept W (((w3.setCell ⟨w1.heap.size, 0, none⟩ (.int .i64 10)).setCell ⟨w1.heap.size, 1, none⟩ (.int .i64 1)).setCell ⟨w1.heap.size, 2, none⟩ (.slice A3 2 c3)) [(w1.heap.size, 24, #[.int .i64 10, .int .i64 1, .slice A3 2 c3])] from HK15.out.set_ 0 rfl 2 (.slice A3 2 c3))
  clear HK15
  have HW17 := Lib.hid (show WinAt (((w3.setCell ⟨w1.heap.size, 0, none⟩ (.int .i64 10)).setCell ⟨w1.heap.size, 1, none⟩ (.int .i64 1)).setCell ⟨w1.heap.size, 2, none⟩ (.slice A3 2 c3)) [w1.heap.size] A3 2 [(0, 1), (0, 1)] from HW12.out.put3 (by simp))
  clear HW12
  generalize ((w3.setCell ⟨w1.heap.size, 0, none⟩ (.int .i64 10)).setCell ⟨w1.heap.size, 1, none⟩ (.int .i64 1)).setCell ⟨w1.heap.size, 2, none⟩ (.slice A3 2 c3) = v3 at HK16 HW17 ⊢
  with_reducible refine (Add_c 10 1 A3 2 c3 v3.heap.size [(0, 1), (0, 1)] 13 true v3 HW17.out.rd (Nat.le_refl _) (by omega)).mono ?_
  rw [show addR 10 1 [(0, 1), (0, 1)] 13 true = ⟨10, 1, [(0, 1), (1, 1)], 0⟩ from by rfl]
  rintro e w4 ⟨A4, n4, c4, rfl, hr4, hb4, hlo4⟩
  obtain rfl : n4 = 2 := by have := hr4.cell_len; simpa using this.symm
  have HW18 := Lib.hid (show WinAt w4 [w1.heap.size] A4 2 [(0, 1), (1, 1)] from HW17.out.res hb4.size hr4 hlo4 rfl)
  clear HW17
  have HK19 := Lib.hid (show Kept W w4 [(w1.heap.size, 24, #[.int .i64 10, .int .i64 1, .slice A3 2 c3])] from HK16.out.next hb4)
  clear HK16
  clear hb4
  clear hr4 hlo4
  have c_w_0 : w4.cell? ⟨w1.heap.size, 0, none⟩ = some (.int .i64 10) := HK19.out.cell 0 rfl 0
  have z_w_0 : w4.frozen? ⟨w1.heap.size, 0, none⟩ = false := HK19.out.frozen 0 rfl 0
  have c_w_1 : w4.cell? ⟨w1.heap.size, 1, none⟩ = some (.int .i64 1) := HK19.out.cell 0 rfl 1
  have z_w_1 : w4.frozen? ⟨w1.heap.size, 1, none⟩ = false := HK19.out.frozen 0 rfl 1
  have c_w_2 : w4.cell? ⟨w1.heap.size, 2, none⟩ = some (.slice A3 2 c3) := HK19.out.cell 0 rfl 2
  have z_w_2 : w4.frozen? ⟨w1.heap.size, 2, none⟩ = false := HK19.out.frozen 0 rfl 2
  go_wp2_with fail
  clear c_w_0 z_w_0 c_w_1 z_w_1 c_w_2 z_w_2
  have HK20 := Lib.hid (show Kept W (w4.setCell ⟨w1.heap.size, 0, none⟩ (.int .i64 10)) [(w1.heap.size, 24, #[.int .i64 10, .int .i64 1, .slice A3 2 c3])] from HK19.out.set_ 0 rfl 0 (.int .i64 10))
  clear HK19
  have HK21 := Lib.hid (show Kept W ((w4.setCell ⟨w1.heap.size, 0, none⟩ (.int .i64 10)).setCell ⟨w1.heap.size, 1, none⟩ (.int .i64 1)) [(w1.heap.size, 24, #[.int .i64 10, .int .i64 1, .slice A3 2 c3])] from HK20.out.set_ 0 rfl 1 (.int .i64 1))
  clear HK20
  have HK22 := Lib.hid (show Kept W (((w4.setCell ⟨w1.heap.size, 0, none⟩ (.int .i64 10)).setCell ⟨w1.heap.size, 1, none⟩ (.int .i64 1)).setCell ⟨w1.heap.size, 2, none⟩ (.slice A4 2 c4)) [(w1.heap.size, 24, #[.int .i64 10, .int .i64 1, .slice A4 2 c4])] from HK21.out.set_ 0 rfl 2 (.slice A4 2 c4))
  clear HK21
  have HW23 := Lib.hid (show WinAt (((w4.setCell ⟨w1.heap.size, 0, none⟩ (.int .i64 10)).setCell ⟨w1.heap.size, 1, none⟩ (.int .i64 1)).setCell ⟨w1.heap.size, 2, none⟩ (.slice A4 2 c4)) [w1.heap.size] A4 2 [(0, 1), (1, 1)] from HW18.out.put3 (by simp))
  clear HW18
  generalize ((w4.setCell ⟨w1.heap.size, 0, none⟩ (.int .i64 10)).setCell ⟨w1.heap.size, 1, none⟩ (.int .i64 1)).setCell ⟨w1.heap.size, 2, none⟩ (.slice A4 2 c4) = v4 at HK22 HW23 ⊢
  with_reducible refine (Move_c 10 1 A4 2 c4 v4.heap.size [(0, 1), (1, 1)] 25 v4 HW23.out.rd (Nat.le_refl _) (by omega)).mono ?_
  rw [show moveR 10 1 [(0, 1), (1, 1)] 25 = ⟨10, 2, [(0, 0), (1, 1)], 0⟩ from by rfl]
  rintro e w5 ⟨A5, n5, c5, rfl, hr5, hb5, hlo5⟩
  obtain rfl : n5 = 2 := by have := hr5.cell_len; simpa using this.symm
  have HW24 := Lib.hid (show WinAt w5 [w1.heap.size] A5 2 [(0, 0), (1, 1)] from HW23.out.res hb5.size hr5 hlo5 rfl)
  have HW25 := Lib.hid (show WinAt w5 [w1.heap.size] A4 2 [(0, 1), (1, 1)] from HW23.out.next hb5)
  clear HW23
  have HK26 := Lib.hid (show Kept W w5 [(w1.heap.size, 24, #[.int .i64 10, .int .i64 1, .slice A4 2 c4])] from HK22.out.next hb5)
  clear HK22
  clear hb5
  clear hr5 hlo5
  have c_w_0 : w5.cell? ⟨w1.heap.size, 0, none⟩ = some (.int .i64 10) := HK26.out.cell 0 rfl 0
  have c_w_1 : w5.cell? ⟨w1.heap.size, 1, none⟩ = some (.int .i64 1) := HK26.out.cell 0 rfl 1
  have c_w_2 : w5.cell? ⟨w1.heap.size, 2, none⟩ = some (.slice A4 2 c4) := HK26.out.cell 0 rfl 2
  have hlt5 := HK26.out.lt 0 rfl
  go_wp2_with fail
  clear c_w_0 c_w_1 c_w_2
  have HK27 := Lib.hid (show Kept W (w5.alloc (.cells #[.int .i64 10, .int .i64 2, .slice A5 2 c5] 24)) [(w5.heap.size, 24, #[.int .i64 10, .int .i64 2, .slice A5 2 c5]), (w1.heap.size, 24, #[.int .i64 10, .int .i64 1, .slice A4 2 c4])] from HK26.out.alloc 24 #[.int .i64 10, .int .i64 2, .slice A5 2 c5])
  clear HK26
  have HW28 := Lib.hid (show WinAt (w5.alloc (.cells #[.int .i64 10, .int .i64 2, .slice A5 2 c5] 24)) [w5.heap.size, w1.heap.size] A4 2 [(0, 1), (1, 1)] from HW25.out.alloc _)
  clear HW25
  have HW29 := Lib.hid (show WinAt (w5.alloc (.cells #[.int .i64 10, .int .i64 2, .slice A5 2 c5] 24)) [w5.heap.size, w1.heap.size] A5 2 [(0, 0), (1, 1)] from HW24.out.alloc _)
  clear HW24
  generalize w5.alloc (.cells #[.int .i64 10, .int .i64 2, .slice A5 2 c5] 24) = v5 at HK27 HW28 HW29 ⊢
  with_reducible refine (wBeat_c 10 1 A4 2 c4 v5.heap.size [(0, 1), (1, 1)] v5 HW28.out.rd (Nat.le_refl _) (by omega)).mono ?_
  rw [show beatW 10 1 [(0, 1), (1, 1)] = (1, 1) from by rfl]
  rintro e w6 ⟨rfl, hb6⟩
  have HW30 := Lib.hid (show WinAt w6 [w5.heap.size, w1.heap.size] A4 2 [(0, 1), (1, 1)] from HW28.out.next hb6)
  clear HW28
  have HW31 := Lib.hid (show WinAt w6 [w5.heap.size, w1.heap.size] A5 2 [(0, 0), (1, 1)] from HW29.out.next hb6)
  clear HW29
  have HK32 := Lib.hid (show Kept W w6 [(w5.heap.size, 24, #[.int .i64 10, .int .i64 2, .slice A5 2 c5]), (w1.heap.size, 24, #[.int .i64 10, .int .i64 1, .slice A4 2 c4])] from HK27.out.next hb6)
  clear HK27
  clear hb6
  have c_w_0 : w6.cell? ⟨w1.heap.size, 0, none⟩ = some (.int .i64 10) := HK32.out.cell 1 rfl 0
  have c_w_1 : w6.cell? ⟨w1.heap.size, 1, none⟩ = some (.int .i64 1) := HK32.out.cell 1 rfl 1
  have c_w_2 : w6.cell? ⟨w1.heap.size, 2, none⟩ = some (.slice A4 2 c4) := HK32.out.cell 1 rfl 2
  go_wp2_with fail
  with_reducible refine (wSum_c 10 1 A4 2 c4 w6.heap.size [(0, 1), (1, 1)] w6 HW30.out.rd (Nat.le_refl _) (by omega)).mono ?_
  rw [show sumW 10 1 [(0, 1), (1, 1)] = (1, 2) from by rfl]
  rintro e w7 ⟨rfl, hb7⟩
  have HW33 := Lib.hid (show WinAt w7 [w5.heap.size, w1.heap.size] A4 2 [(0, 1), (1, 1)] from HW30.out.next hb7)
  clear HW30
  have HW34 := Lib.hid (show WinAt w7 [w5.heap.size, w1.heap.size] A5 2 [(0, 0), (1, 1)] from HW31.out.next hb7)
  clear HW31
  clear c_w_0 c_w_1 c_w_2
  have HK35 := Lib.hid (show Kept W w7 [(w5.heap.size, 24, #[.int .i64 10, .int .i64 2, .slice A5 2 c5]), (w1.heap.size, 24, #[.int .i64 10, .int .i64 1, .slice A4 2 c4])] from HK32.out.next hb7)
  clear HK32
  clear hb7
  have c_x_0 : w7.cell? ⟨w5.heap.size, 0, none⟩ = some (.int .i64 10) := HK35.out.cell 0 rfl 0
  have c_x_1 : w7.cell? ⟨w5.heap.size, 1, none⟩ = some (.int .i64 2) := HK35.out.cell 0 rfl 1
  have c_x_2 : w7.cell? ⟨w5.heap.size, 2, none⟩ = some (.slice A5 2 c5) := HK35.out.cell 0 rfl 2
  go_wp2_with fail
  with_reducible refine (wSum_c 10 2 A5 2 c5 w7.heap.size [(0, 0), (1, 1)] w7 HW34.out.rd (Nat.le_refl _) (by omega)).mono ?_
  rw [show sumW 10 2 [(0, 0), (1, 1)] = (1, 1) from by rfl]
  rintro e w8 ⟨rfl, hb8⟩
  have HW36 := Lib.hid (show WinAt w8 [w5.heap.size, w1.heap.size] A4 2 [(0, 1), (1, 1)] from HW33.out.next hb8)
  clear HW33
  have HW37 := Lib.hid (show WinAt w8 [w5.heap.size, w1.heap.size] A5 2 [(0, 0), (1, 1)] from HW34.out.next hb8)
  clear HW34
  clear c_x_0 c_x_1 c_x_2
  have HK38 := Lib.hid (show Kept W w8 [(w5.heap.size, 24, #[.int .i64 10, .int .i64 2, .slice A5 2 c5]), (w1.heap.size, 24, #[.int .i64 10, .int .i64 1, .slice A4 2 c4])] from HK35.out.next hb8)
  clear HK35
  clear hb8
  have c_w_0 : w8.cell? ⟨w1.heap.size, 0, none⟩ = some (.int .i64 10) := HK38.out.cell 1 rfl 0
  have c_w_1 : w8.cell? ⟨w1.heap.size, 1, none⟩ = some (.int .i64 1) := HK38.out.cell 1 rfl 1
  have c_w_2 : w8.cell? ⟨w1.heap.size, 2, none⟩ = some (.slice A4 2 c4) := HK38.out.cell 1 rfl 2
  go_wp2_with fail
  with_reducible refine (wPart_c 10 1 A4 2 c4 w8.heap.size [(0, 1), (1, 1)] w8 HW36.out.rd (Nat.le_refl _) (by omega)).mono ?_
  rw [show partW (sumW 10 1 [(0, 1), (1, 1)]) = 666 from by rfl]
  rintro e w9 ⟨rfl, hb9⟩
  have HW39 := Lib.hid (show WinAt w9 [w5.heap.size, w1.heap.size] A4 2 [(0, 1), (1, 1)] from HW36.out.next hb9)
  clear HW36
  have HW40 := Lib.hid (show WinAt w9 [w5.heap.size, w1.heap.size] A5 2 [(0, 0), (1, 1)] from HW37.out.next hb9)
  clear HW37
  clear c_w_0 c_w_1 c_w_2
  have HK41 := Lib.hid (show Kept W w9 [(w5.heap.size, 24, #[.int .i64 10, .int .i64 2, .slice A5 2 c5]), (w1.heap.size, 24, #[.int .i64 10, .int .i64 1, .slice A4 2 c4])] from HK38.out.next hb9)
  clear HK38
  clear hb9
  have c_x_0 : w9.cell? ⟨w5.heap.size, 0, none⟩ = some (.int .i64 10) := HK41.out.cell 0 rfl 0
  have c_x_1 : w9.cell? ⟨w5.heap.size, 1, none⟩ = some (.int .i64 2) := HK41.out.cell 0 rfl 1
  have c_x_2 : w9.cell? ⟨w5.heap.size, 2, none⟩ = some (.slice A5 2 c5) := HK41.out.cell 0 rfl 2
  go_wp2_with fail
  with_reducible refine (wRight_c 10 2 A5 2 c5 w9.heap.size [(0, 0), (1, 1)] w9 HW40.out.rd (Nat.le_refl _) (by omega)).mono ?_
  rw [show rightW 10 2 [(0, 0), (1, 1)] = true from by rfl]
  rintro e w10 ⟨rfl, hb10⟩
  have HW42 := Lib.hid (show WinAt w10 [w5.heap.size, w1.heap.size] A4 2 [(0, 1), (1, 1)] from HW39.out.next hb10)
  clear HW39
  have HW43 := Lib.hid (show WinAt w10 [w5.heap.size, w1.heap.size] A5 2 [(0, 0), (1, 1)] from HW40.out.next hb10)
  clear HW40
  clear c_x_0 c_x_1 c_x_2
  have HK44 := Lib.hid (show Kept W w10 [(w5.heap.size, 24, #[.int .i64 10, .int .i64 2, .slice A5 2 c5]), (w1.heap.size, 24, #[.int .i64 10, .int .i64 1, .slice A4 2 c4])] from HK41.out.next hb10)
  clear HK41
  clear hb10
  have c_x_0 : w10.cell? ⟨w5.heap.size, 0, none⟩ = some (.int .i64 10) := HK44.out.cell 0 rfl 0
  have c_x_1 : w10.cell? ⟨w5.heap.size, 1, none⟩ = some (.int .i64 2) := HK44.out.cell 0 rfl 1
  have c_x_2 : w10.cell? ⟨w5.heap.size, 2, none⟩ = some (.slice A5 2 c5) := HK44.out.cell 0 rfl 2
  go_wp2
  go_ret
  exact ⟨rfl, HK44.out.bel⟩
end Go.Proofs.Ytmkjfpmailihjaa
