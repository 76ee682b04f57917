/- TopBytes: the walk of the law, and what it rests on. -/
import Derived.StillTailTactics
import Derived.Deep.RegionHeld3
import Derived.JoinedOf
import Derived.RowKit
import Derived.RowKitTokens
import Derived.LaidLaws
import Derived.LaidHandle
import Derived.Stop.Joined
import Derived.Test.YtpokkciheejeiaaGreatDoorRows
import Derived.Test.YtpokkciheejeiaaGreatDoorTie
import Derived.Test.YtpokkciheejeiaaGreatDoorCards
import Derived.Test.YtpokkciheejeiaaGreatDoorTbK
set_option linter.unusedVariables false
set_option linter.unusedSimpArgs false
namespace Go.Proofs.YtpokkciheejeiaaGreatDoor
section
set_option maxRecDepth 100000
open Go.RowKit
theorem flat_body : (Tryz.f6.body.map flat).getD [] = [((((Tryz.f6.body.map flat).getD [])[0]?).getD .skip), ((((Tryz.f6.body.map flat).getD [])[1]?).getD .skip), ((((Tryz.f6.body.map flat).getD [])[2]?).getD .skip), ((((Tryz.f6.body.map flat).getD [])[3]?).getD .skip), ((((Tryz.f6.body.map flat).getD [])[4]?).getD .skip), ((((Tryz.f6.body.map flat).getD [])[5]?).getD .skip), ((((Tryz.f6.body.map flat).getD [])[6]?).getD .skip), ((((Tryz.f6.body.map flat).getD [])[7]?).getD .skip)] := by kernel_rfl
theorem body_some : Tryz.f6.body.isSome = true := by kernel_rfl
theorem written_c (w : World) : Calls Tryz.prog 6 #[] w fun e w' => e = .returned (.bool true) ∧ Below w.heap.size w w' := by
  obtain ⟨c, hc⟩ := Option.isSome_iff_exists.1 body_some
  have hfl := flat_body
  have hE := mkEnv_ok Tryz.prog reachAll plans
  have hC := aCalls_ok mixed_ok hE goodAll hook0_ok 1000000 59
  rw [← fCalls_eq] at hC
  have hg : goodC (mkEnv Tryz.prog reachAll plans) 6 c = true := goodAll 6 Tryz.f6 c (by kernel_rfl) hc
  refine calls_of_wp Tryz.func6 hc ?_
  have hn : Tryz.f6.ntmps = 70 := by kernel_rfl
  refine wp_flat c _ _ ?_
  have hf2 : flat c = [((((Tryz.f6.body.map flat).getD [])[0]?).getD .skip), ((((Tryz.f6.body.map flat).getD [])[1]?).getD .skip), ((((Tryz.f6.body.map flat).getD [])[2]?).getD .skip), ((((Tryz.f6.body.map flat).getD [])[3]?).getD .skip), ((((Tryz.f6.body.map flat).getD [])[4]?).getD .skip), ((((Tryz.f6.body.map flat).getD [])[5]?).getD .skip), ((((Tryz.f6.body.map flat).getD [])[6]?).getD .skip), ((((Tryz.f6.body.map flat).getD [])[7]?).getD .skip)] := by
    rw [← hfl, hc]; rfl
  have hgs : ∀ k ∈ flat c, goodC (mkEnv Tryz.prog reachAll plans) 6 k = true := goodC_flat c hg
  rw [hf2] at hgs ⊢
  have h0 : At w 70 ⟨[], 0, []⟩ { tmps := (#[] : Array Value) ++ Array.replicate (Tryz.f6.ntmps - (#[] : Array Value).size) undef, defers := [] } w := At.start w 70 _ rfl (by simp [hn])
  refine At.step mixed_ok hE hC h0 (hgs _ (by simp)) piece0 (fun a1 w1 h1 => ?_)
  refine At.step mixed_ok hE hC h1 (hgs _ (by simp)) piece1 (fun a2 w2 h2 => ?_)
  refine At.step mixed_ok hE hC h2 (hgs _ (by simp)) piece2 (fun a3 w3 h3 => ?_)
  refine At.step mixed_ok hE hC h3 (hgs _ (by simp)) piece3 (fun a4 w4 h4 => ?_)
  refine At.step mixed_ok hE hC h4 (hgs _ (by simp)) piece4 (fun a5 w5 h5 => ?_)
  refine At.step mixed_ok hE hC h5 (hgs _ (by simp)) piece5 (fun a6 w6 h6 => ?_)
  refine At.step mixed_ok hE hC h6 (hgs _ (by simp)) piece6 (fun a7 w7 h7 => ?_)
  refine At.step mixed_ok hE hC h7 (hgs _ (by simp)) piece7 (fun a8 w8 h8 => ?_)
  obtain ⟨ρ, k1, k2, k3, k4⟩ := h8.ex
  have hv := k1.get 0 (.bool true) (by kernel_rfl)
  refine ⟨k1.defers, .bool true, ?_, rfl, k3.below⟩
  have hres : Tryz.f6.results = #[.tmp 0] := by kernel_rfl
  have he : ∃ v, a8.tmps.getD 0 undef = v ∧ VR ρ (.bool true) v := ⟨_, rfl, hv⟩
  obtain ⟨v, e1, e2⟩ := he
  cases e2
  rw [Array.getD_eq_getD_getElem?] at e1
  simp [results, hres, e1]
end
section
set_option maxRecDepth 100000
open Go.RowKit
abbrev Ent : Type := Nat × TypeId × Array Value
def Kept (w0 W : World) (L : List Ent) : Prop :=
  Below w0.heap.size w0 W ∧ (∀ x ∈ L, Blk W x.1 x.2.1 x.2.2 ∧ w0.heap.size ≤ x.1) ∧ L.Pairwise (fun x y => y.1 < x.1)
section
variable {w0 W W' : World} {L : List Ent} {g : Nat} {t : TypeId} {cs : Array Value}
theorem Kept.start (w : World) : Kept w w [] := ⟨Below.refl _ _, by simp, List.Pairwise.nil⟩
theorem Kept.bel (h : Kept w0 W L) : Below w0.heap.size w0 W := h.1
theorem Kept.size (h : Kept w0 W L) : w0.heap.size ≤ W.heap.size := h.1.size
theorem Kept.next (h : Kept w0 W L) (hb : Below W.heap.size W W') : Kept w0 W' L :=
  ⟨h.1.trans (hb.mono h.1.size), fun x hx => ⟨(h.2.1 x hx).1.below hb (h.2.1 x hx).1.lt, (h.2.1 x hx).2⟩, h.2.2⟩
theorem Kept.alloc (h : Kept w0 W L) (t : TypeId) (cs : Array Value) : Kept w0 (W.alloc (.cells cs t)) ((W.heap.size, t, cs) :: L) := by
  refine ⟨h.1.alloc h.1.size _, fun x hx => ?_, List.Pairwise.cons (fun y hy => (h.2.1 y hy).1.lt) h.2.2⟩
  rcases List.mem_cons.1 hx with rfl | hx
  · exact ⟨Blk.new W t cs, h.1.size⟩
  · exact ⟨(h.2.1 x hx).1.alloc _, (h.2.1 x hx).2⟩
theorem Kept.alloc_at (h : Kept w0 W L) (t : TypeId) (cs : Array Value) (g : Nat) (hg : W.heap.size = g) : Kept w0 (W.alloc (.cells cs t)) ((g, t, cs) :: L) := hg ▸ h.alloc t cs
theorem Kept.alloc_off (h : Kept w0 W L) (o : Obj) : Kept w0 (W.alloc o) L :=
  ⟨h.1.alloc h.1.size _, fun x hx => ⟨(h.2.1 x hx).1.alloc _, (h.2.1 x hx).2⟩, h.2.2⟩
theorem Kept.drew (h : Kept w0 W L) : Kept w0 W.drew L := ⟨h.1.drew, h.2.1, h.2.2⟩
theorem Kept.drewN (h : Kept w0 W L) (n : Nat) : Kept w0 (W.drewN n) L := ⟨below_drewN h.1 n, h.2.1, h.2.2⟩
theorem Kept.blk (h : Kept w0 W L) (i : Nat) (hi : L[i]? = some (g, t, cs)) : Blk W g t cs := (h.2.1 _ (List.mem_of_getElem? hi)).1
theorem Kept.cell (h : Kept w0 W L) (i : Nat) (hi : L[i]? = some (g, t, cs)) (j : Nat) : W.cell? ⟨g, j, none⟩ = cs[j]? := (h.blk i hi).cell j
theorem Kept.frozen (h : Kept w0 W L) (i : Nat) (hi : L[i]? = some (g, t, cs)) (j : Nat) : W.frozen? ⟨g, j, none⟩ = false := (h.blk i hi).frozen j
theorem Kept.lt (h : Kept w0 W L) (i : Nat) (hi : L[i]? = some (g, t, cs)) : g < W.heap.size := (h.blk i hi).lt
theorem Kept.ge (h : Kept w0 W L) (i : Nat) (hi : L[i]? = some (g, t, cs)) : w0.heap.size ≤ g := (h.2.1 _ (List.mem_of_getElem? hi)).2
theorem Kept.ord (h : Kept w0 W L) (i j : Nat) (hij : i < j) {x y : Ent} (hi : L[i]? = some x) (hj : L[j]? = some y) : y.1 < x.1 := by
  obtain ⟨hi', rfl⟩ := List.getElem?_eq_some_iff.1 hi
  obtain ⟨hj', rfl⟩ := List.getElem?_eq_some_iff.1 hj
  exact List.pairwise_iff_getElem.1 h.2.2 i j hi' hj' hij
theorem Kept.sub (h : Kept w0 W L) {L' : List Ent} (hs : L'.Sublist L) : Kept w0 W L' := ⟨h.1, fun y hy => h.2.1 y (hs.subset hy), h.2.2.sublist hs⟩
theorem Kept.turn (h : Kept w0 W L) (i : Nat) (hi : L[i]? = some (g, t, cs)) (cs' : Array Value) (hB : Below w0.heap.size w0 W') (hg : Blk W' g t cs') (hf : ∀ x ∈ L, x.1 ≠ g → Blk W x.1 x.2.1 x.2.2 → Blk W' x.1 x.2.1 x.2.2) : Kept w0 W' (L.set i (g, t, cs')) := by
  refine ⟨hB, fun x hx => ?_, ?_⟩
  · obtain ⟨j, hj⟩ := List.mem_iff_getElem?.1 hx
    rw [List.getElem?_set] at hj
    by_cases hij : i = j
    · subst hij
      have hil : i < L.length := (List.getElem?_eq_some_iff.1 hi).1
      simp [hil] at hj
      subst hj
      exact ⟨hg, h.ge i hi⟩
    · rw [if_neg hij] at hj
      have hx' := h.2.1 x (List.mem_of_getElem? hj)
      refine ⟨hf x (List.mem_of_getElem? hj) ?_ hx'.1, hx'.2⟩
      rcases Nat.lt_or_ge i j with hlt | hge
      · have := h.ord i j hlt hi hj; simp only at this; omega
      · have := h.ord j i (by omega) hj hi; simp only at this; omega
  · have hl : (L.set i (g, t, cs')).map (fun x : Ent => x.1) = L.map (fun x : Ent => x.1) := by
      apply List.ext_getElem?
      intro j
      simp only [List.getElem?_map, List.getElem?_set]
      by_cases hij : i = j
      · subst hij
        have hil : i < L.length := (List.getElem?_eq_some_iff.1 hi).1
        simp [hil]
        obtain ⟨_, he⟩ := List.getElem?_eq_some_iff.1 hi
        rw [he]
      · rw [if_neg hij]
    have hp : (L.map (fun x : Ent => x.1)).Pairwise (fun a b => b < a) := List.pairwise_map.2 h.2.2
    rw [← hl] at hp
    exact List.pairwise_map.1 hp
theorem Kept.set_ (h : Kept w0 W L) (i : Nat) (hi : L[i]? = some (g, t, cs)) (o : Nat) (u : Value) : Kept w0 (W.setCell ⟨g, o, none⟩ u) (L.set i (g, t, cs.setIfInBounds o u)) :=
  h.turn i hi _ (h.1.setCell (by simpa using h.ge i hi) u) ((h.blk i hi).set_ o u) (fun x _ hne hb => hb.far (by simpa using hne) u)
theorem Kept.grown (h : Kept w0 W L) (i : Nat) (hi : L[i]? = some (g, t, cs)) (cs' : Array Value) (hg : W.grownBy W' (some g)) (hb : Blk W' g t cs') : Kept w0 W' (L.set i (g, t, cs')) :=
  h.turn i hi _ (h.1.grown hg h.1.size (fun g' hg' => by injection hg' with e; subst e; exact h.ge i hi)) hb (fun x _ hne hb' => hb'.grown hg (by simpa using hne))
end
end
section
set_option maxRecDepth 100000
open Go.RowKit Go.ChangeShapes
theorem ev_ne (e1 e2 : Evt) (h : e1 ≠ e2) : e1.q = e2.q → e1.a = e2.a → e1.k = e2.k → e1.cm.toList = e2.cm.toList → e1.x = e2.x → e1.y = e2.y → ¬ e1.z = e2.z := by
  intro h1 h2 h3 h4 h5 h6 h7
  apply h
  rw [ByteArray.toList_eq, ByteArray.toList_eq] at h4
  have h4' : e1.cm = e2.cm := by cases hc : e1.cm; cases hd : e2.cm; rw [hc, hd] at h4; congr 1; exact Array.toList_inj.1 h4
  cases e1; cases e2; simp only at h1 h2 h3 h4' h5 h6 h7; subst h1 h2 h3 h4' h5 h6 h7; rfl
theorem EvSame_eq (A : Option Addr) (n c B : Nat) (xs : List Evt) (A2 : Option Addr) (c2 : Nat) (ys : List Evt) (W : World) (hr : Reads W B 7 A n (evCells xs)) (hr2 : Reads W B 7 A2 n (evCells ys)) (hB : B ≤ W.heap.size) (hn : n ≤ 9223372036854775807) : Calls Tryz.prog 16 #[.slice A n c, .slice A2 n c2] W fun e w' => ∃ r, e = .returned (.bool r) ∧ (r = true ↔ xs = ys) ∧ Below W.heap.size W w' := by
  have HR := Lib.hid hr
  have HR2 := Lib.hid hr2
  have HL := Lib.hid hr.ev_len
  have HL2 := Lib.hid hr2.ev_len
  clear hr hr2
  have x0 : ((n : Int) != (n : Int)) = false := by simp
  have HK0 := Lib.hid (Kept.start W)
  go_enter Tryz.func16, Tryz.ntmps16
  go_wp2
  clear x0
  go_loopw [5] (fun i wr => ∃ (k : Nat), k ≤ n ∧ i = .int .i64 k ∧ Hid (∀ (j : Nat) e, j < k → xs[j]? = some e → ys[j]? = some e) ∧ Hid (Kept W wr [])) (fun i _ => n - (intOf i).toNat)
  case atStart => exact ⟨0, Nat.zero_le _, rfl, Lib.hid (fun j e hj => absurd hj (by omega)), HK0⟩
  case round =>
    clear HK0
    obtain ⟨k, hk, rfl, HS, HK⟩ := hrel
    by_cases hlt : k < n
    · obtain ⟨ad, e1, rfl, hb1, he1, d0, d1, d2, d3, d4, d5, d6⟩ := ev_in HR.out hlt
      obtain ⟨ad2, e2, rfl, hb2, he2, d20, d21, d22, d23, d24, d25, d26⟩ := ev_in HR2.out hlt
      have HE1 := Lib.hid he1
      have HE2 := Lib.hid he2
      clear he1 he2
      have i1 : (0 : Int) ≤ (k : Int) := by omega
      have i2 : (k : Int) < (n : Int) := by omega
      have bl : (ad.add (k * 7)).block < W.heap.size := World.block_lt_of_cell? W _ d0
      have bl2 : (ad2.add (k * 7)).block < W.heap.size := World.block_lt_of_cell? W _ d20
      go_wp2_with fail
      refine wp_region_noPanic ?_
      refine wp_region_held_drew (S := fun W' => Kept W W' []) (by kernel_rfl) HK.out.drew (fun hHeld => ?_)
      refine takeH 0 (v := ?v0u6) rfl (by kernel_rfl) (by kernel_rfl) (by kernel_rfl) rfl (fun _ _ _ h => h) (Or.inl ⟨by rfl, ?y0u6⟩) hHeld ?r0u6
      case y0u6 => (intro W hSW; (try dsimp only at hSW); go_simp; try with_reducible rfl)
      simp only [Act.put, sI, sZ, sS]
      refine takeH 1 (v := ?v1u7) rfl (by kernel_rfl) (by kernel_rfl) (by kernel_rfl) rfl (fun _ _ _ h => h) (Or.inl ⟨by rfl, ?y1u7⟩) hHeld ?r1u7
      case y1u7 => (intro W hSW; (try dsimp only at hSW); go_simp; try with_reducible rfl)
      simp only [Act.put, sI, sZ, sS]
      refine takeH 2 (v := ?v2u8) rfl (by kernel_rfl) (by kernel_rfl) (by kernel_rfl) rfl (fun _ _ _ h => h) (Or.inl ⟨by rfl, ?y2u8⟩) hHeld ?r2u8
      case y2u8 => (intro W hSW; (try dsimp only at hSW); go_simp; try with_reducible rfl)
      simp only [Act.put, sI, sZ, sS]
      refine takeH 3 (v := ?v3u9) rfl (by kernel_rfl) (by kernel_rfl) (by kernel_rfl) rfl (fun _ _ _ h => h) (Or.inl ⟨by rfl, ?y3u9⟩) hHeld ?r3u9
      case y3u9 => (intro W hSW; (try dsimp only at hSW); have q0 := (hSW.bel.cell (p := (ad.add (k * 7))) bl).trans d0; have q1 := (hSW.bel.cell (p := ⟨(ad.add (k * 7)).block, (ad.add (k * 7)).off + 1, none⟩) bl).trans d1; have q2 := (hSW.bel.cell (p := ⟨(ad.add (k * 7)).block, (ad.add (k * 7)).off + 2, none⟩) bl).trans d2; have q3 := (hSW.bel.cell (p := ⟨(ad.add (k * 7)).block, (ad.add (k * 7)).off + 3, none⟩) bl).trans d3; have q4 := (hSW.bel.cell (p := ⟨(ad.add (k * 7)).block, (ad.add (k * 7)).off + 4, none⟩) bl).trans d4; have q5 := (hSW.bel.cell (p := ⟨(ad.add (k * 7)).block, (ad.add (k * 7)).off + 5, none⟩) bl).trans d5; have q6 := (hSW.bel.cell (p := ⟨(ad.add (k * 7)).block, (ad.add (k * 7)).off + 6, none⟩) bl).trans d6; go_simp; try with_reducible rfl)
      simp only [Act.put, sI, sZ, sS]
      refine takeH 4 (v := ?v4u10) rfl (by kernel_rfl) (by kernel_rfl) (by kernel_rfl) rfl (fun _ _ _ h => h) (Or.inl ⟨by rfl, ?y4u10⟩) hHeld ?r4u10
      case y4u10 => (intro W hSW; (try dsimp only at hSW); go_simp; try with_reducible rfl)
      simp only [Act.put, sI, sZ, sS]
      refine takeH 5 (v := ?v5u11) rfl (by kernel_rfl) (by kernel_rfl) (by kernel_rfl) rfl (fun _ _ _ h => h) (Or.inl ⟨by rfl, ?y5u11⟩) hHeld ?r5u11
      case y5u11 => (intro W hSW; (try dsimp only at hSW); go_simp; try with_reducible rfl)
      simp only [Act.put, sI, sZ, sS]
      refine takeH 6 (v := ?v6u12) rfl (by kernel_rfl) (by kernel_rfl) (by kernel_rfl) rfl (fun _ _ _ h => h) (Or.inl ⟨by rfl, ?y6u12⟩) hHeld ?r6u12
      case y6u12 => (intro W hSW; (try dsimp only at hSW); go_simp; try with_reducible rfl)
      simp only [Act.put, sI, sZ, sS]
      refine takeH 7 (v := ?v7u13) rfl (by kernel_rfl) (by kernel_rfl) (by kernel_rfl) rfl (fun _ _ _ h => h) (Or.inl ⟨by rfl, ?y7u13⟩) hHeld ?r7u13
      case y7u13 => (intro W hSW; (try dsimp only at hSW); have q0 := (hSW.bel.cell (p := (ad2.add (k * 7))) bl2).trans d20; have q1 := (hSW.bel.cell (p := ⟨(ad2.add (k * 7)).block, (ad2.add (k * 7)).off + 1, none⟩) bl2).trans d21; have q2 := (hSW.bel.cell (p := ⟨(ad2.add (k * 7)).block, (ad2.add (k * 7)).off + 2, none⟩) bl2).trans d22; have q3 := (hSW.bel.cell (p := ⟨(ad2.add (k * 7)).block, (ad2.add (k * 7)).off + 3, none⟩) bl2).trans d23; have q4 := (hSW.bel.cell (p := ⟨(ad2.add (k * 7)).block, (ad2.add (k * 7)).off + 4, none⟩) bl2).trans d24; have q5 := (hSW.bel.cell (p := ⟨(ad2.add (k * 7)).block, (ad2.add (k * 7)).off + 5, none⟩) bl2).trans d25; have q6 := (hSW.bel.cell (p := ⟨(ad2.add (k * 7)).block, (ad2.add (k * 7)).off + 6, none⟩) bl2).trans d26; go_simp; try with_reducible rfl)
      simp only [Act.put, sI, sZ, sS]
      by_cases hne : e1 = e2
      · subst hne
        refine takeH 8 (v := ?v8u14) rfl (by kernel_rfl) (by kernel_rfl) (by kernel_rfl) rfl (fun _ _ _ h => h) (Or.inl ⟨by rfl, ?y8u14⟩) hHeld ?r8u14
        case y8u14 => (intro W hSW; (try dsimp only at hSW); go_simp; try with_reducible rfl)
        simp only [Act.put, sI, sZ, sS]
        refine wpAnyH_done (by kernel_rfl) ?_ _
        refine NoPanic.normal ?_
        have HS2 := Lib.hid (show ∀ (j : Nat) e, j < k + 1 → xs[j]? = some e → ys[j]? = some e from fun j e hj he => by
          by_cases hjk : j < k
          · exact HS.out j e hjk he
          · obtain rfl : j = k := by omega
            rw [HE1.out] at he; injection he with he; subst he; exact HE2.out)
        have HKn := Lib.hid hHeld
        clear hHeld HK d0 d1 d2 d3 d4 d5 d6 d20 d21 d22 d23 d24 d25 d26
        go_wp2
        exact ⟨⟨k + 1, by omega, rfl, HS2, HKn⟩, by simp [intOf]; omega⟩
      · refine takeH 8 (v := .bool true) rfl (by kernel_rfl) (by kernel_rfl) (by kernel_rfl) rfl (fun _ _ _ h => h) (Or.inl ⟨by rfl, ?y8u15⟩) hHeld ?r8u15
        case y8u15 => (intro W hSW; (try dsimp only at hSW); go_simp; exact ev_ne e1 e2 hne)
        simp only [Act.put, sI, sZ, sS]
        refine wpAnyH_done (by kernel_rfl) ?_ _
        refine NoPanic.normal ?_
        clear HK d0 d1 d2 d3 d4 d5 d6 d20 d21 d22 d23 d24 d25 d26
        go_wp2
        go_ret
        exact ⟨false, rfl, by constructor; (intro h; cases h); (intro h; subst h; rw [HE1.out] at HE2; exact absurd (Option.some.inj HE2.out) hne), hHeld.bel⟩
    · obtain rfl : n = k := by omega
      have HE := Lib.hid (show xs = ys from by
        apply List.ext_getElem?
        intro j
        by_cases hj : j < n
        · rw [HS.out j _ hj (List.getElem?_eq_getElem (by rw [HL.out]; exact hj)), List.getElem?_eq_getElem (by rw [HL.out]; exact hj)]
        · rw [List.getElem?_eq_none (by rw [HL.out]; omega), List.getElem?_eq_none (by rw [HL2.out]; omega)])
      go_wp2
      go_ret
      exact ⟨true, rfl, ⟨fun _ => HE.out, fun _ => rfl⟩, HK.out.bel⟩
theorem EvSame_c (A : Option Addr) (n c B : Nat) (xs : List Evt) (A2 : Option Addr) (n2 c2 : Nat) (ys : List Evt) (W : World) (hr : Reads W B 7 A n (evCells xs)) (hr2 : Reads W B 7 A2 n2 (evCells ys)) (hB : B ≤ W.heap.size) (hn : n ≤ 9223372036854775807) (hn2 : n2 ≤ 9223372036854775807) : Calls Tryz.prog 16 #[.slice A n c, .slice A2 n2 c2] W fun e w' => ∃ r, e = .returned (.bool r) ∧ (r = true ↔ xs = ys) ∧ Below W.heap.size W w' := by
  by_cases h : n = n2
  · subst h
    exact EvSame_eq A n c B xs A2 c2 ys W hr hr2 hB hn
  · have x0 : ((n : Int) != (n2 : Int)) = true := by rw [bne_iff_ne]; omega
    have HE := Lib.hid (show ¬ xs = ys from by intro e; subst e; exact h (hr.ev_len.symm.trans hr2.ev_len))
    clear hr hr2
    go_enter Tryz.func16, Tryz.ntmps16
    go_wp2
    go_ret
    exact ⟨false, rfl, ⟨fun h => (by cases h), fun h => absurd h HE.out⟩, Below.refl _ _⟩
end
section
set_option maxRecDepth 100000
open Go.RowKit
theorem someB_ff {n : Int} (h : ¬ (0 ≤ n ∧ n ≤ 2147483647)) : someB n = false := by
  unfold someB
  by_cases h1 : 0 ≤ n
  · rw [decide_eq_true h1, decide_eq_false (by omega)]; rfl
  · rw [decide_eq_false h1]; rfl
theorem someB_tt {n : Int} (h1 : 0 ≤ n) (h2 : n ≤ 2147483647) : someB n = true := by unfold someB; rw [decide_eq_true h1, decide_eq_true h2]; rfl
set_option maxHeartbeats 4000000 in
theorem values_c (e0 : Evt) (w : World) : Calls Tryz.prog 60 #[.agg (evA e0)] w fun e w' => e = .returned (.bool (withinE e0)) ∧ Below w.heap.size w w' := by
  have HE : Hid (withinE e0 = (inB e0.x (bndE e0.k).1 && inB e0.y (bndE e0.k).2.1 && inB e0.z (bndE e0.k).2.2)) := rfl
  generalize withinE e0 = r at HE ⊢
  obtain ⟨q, a, k, cm, x, y, z⟩ := e0
  simp only at HE
  have HX := fun W => Lib.hid (some_c x W)
  have HY := fun W => Lib.hid (some_c y W)
  have HZ := fun W => Lib.hid (some_c z W)
  by_cases k1 : k = 1
  · subst k1
    by_cases lx : x < 1
    · skip
      go_enter Tryz.func60, Tryz.ntmps60
      go_wp2
      go_ret
      exact ⟨ret_b (by rw [HE.out]; simp [bndE, inB]; omega), (Below.refl _ _).alloc (Nat.le_refl _) _⟩
    have mx : 1 ≤ x := by omega
    clear lx
    by_cases gx : 3 < x
    · skip
      go_enter Tryz.func60, Tryz.ntmps60
      go_wp2
      go_ret
      exact ⟨ret_b (by rw [HE.out]; simp [bndE, inB]; omega), (Below.refl _ _).alloc (Nat.le_refl _) _⟩
    have nx : x ≤ 3 := by omega
    clear gx
    by_cases zy : y = 0
    rotate_left
    · have qzy : (y == 0) = false := by rw [beq_eq_false_iff_ne]; exact zy
      have Zy := Lib.hid zy
      clear zy
      go_enter Tryz.func60, Tryz.ntmps60
      go_wp2
      go_ret
      exact ⟨ret_b (by rw [HE.out]; have := Zy.out; simp [bndE, inB]; omega), (Below.refl _ _).alloc (Nat.le_refl _) _⟩
    subst zy
    by_cases zz : z = 0
    rotate_left
    · have qzz : (z == 0) = false := by rw [beq_eq_false_iff_ne]; exact zz
      have Zz := Lib.hid zz
      clear zz
      go_enter Tryz.func60, Tryz.ntmps60
      go_wp2
      go_ret
      exact ⟨ret_b (by rw [HE.out]; have := Zz.out; simp [bndE, inB]; omega), (Below.refl _ _).alloc (Nat.le_refl _) _⟩
    subst zz
    go_enter Tryz.func60, Tryz.ntmps60
    go_wp2
    go_ret
    exact ⟨ret_b (by rw [HE.out]; simp [bndE, inB]; omega), (Below.refl _ _).alloc (Nat.le_refl _) _⟩
  by_cases k2 : k = 2
  · subst k2
    by_cases sx : 0 ≤ x ∧ x ≤ 2147483647
    rotate_left
    · have tx := someB_ff sx
      rw [tx] at HX
      have Sx := Lib.hid sx
      clear sx tx
      go_enter Tryz.func60, Tryz.ntmps60
      go_wp2_with (first | (go_at_call 124; refine ((HX _).out).mono ?_; rintro e w' ⟨rfl, rfl⟩))
      go_ret
      exact ⟨ret_b (by rw [HE.out]; have := Sx.out; simp [bndE, inB]; omega), (Below.refl _ _).alloc (Nat.le_refl _) _⟩
    obtain ⟨lx, gx⟩ := sx
    rw [someB_tt lx gx] at HX
    by_cases sy : 0 ≤ y ∧ y ≤ 2147483647
    rotate_left
    · have ty := someB_ff sy
      rw [ty] at HY
      have Sy := Lib.hid sy
      clear sy ty
      go_enter Tryz.func60, Tryz.ntmps60
      go_wp2_with (first | (go_at_call 124; refine ((HX _).out).mono ?_; rintro e w' ⟨rfl, rfl⟩) | (go_at_call 124; refine ((HY _).out).mono ?_; rintro e w' ⟨rfl, rfl⟩))
      go_ret
      exact ⟨ret_b (by rw [HE.out]; have := Sy.out; simp [bndE, inB]; omega), (Below.refl _ _).alloc (Nat.le_refl _) _⟩
    obtain ⟨ly, gy⟩ := sy
    rw [someB_tt ly gy] at HY
    by_cases sz : 0 ≤ z ∧ z ≤ 2147483647
    rotate_left
    · have tz := someB_ff sz
      rw [tz] at HZ
      have Sz := Lib.hid sz
      clear sz tz
      go_enter Tryz.func60, Tryz.ntmps60
      go_wp2_with (first | (go_at_call 124; refine ((HX _).out).mono ?_; rintro e w' ⟨rfl, rfl⟩) | (go_at_call 124; refine ((HY _).out).mono ?_; rintro e w' ⟨rfl, rfl⟩) | (go_at_call 124; refine ((HZ _).out).mono ?_; rintro e w' ⟨rfl, rfl⟩))
      go_ret
      exact ⟨ret_b (by rw [HE.out]; have := Sz.out; simp [bndE, inB]; omega), (Below.refl _ _).alloc (Nat.le_refl _) _⟩
    obtain ⟨lz, gz⟩ := sz
    rw [someB_tt lz gz] at HZ
    go_enter Tryz.func60, Tryz.ntmps60
    go_wp2_with (first | (go_at_call 124; refine ((HX _).out).mono ?_; rintro e w' ⟨rfl, rfl⟩) | (go_at_call 124; refine ((HY _).out).mono ?_; rintro e w' ⟨rfl, rfl⟩) | (go_at_call 124; refine ((HZ _).out).mono ?_; rintro e w' ⟨rfl, rfl⟩))
    go_ret
    exact ⟨ret_b (by rw [HE.out]; simp [bndE, inB]; omega), (Below.refl _ _).alloc (Nat.le_refl _) _⟩
  by_cases k3 : k = 3
  · subst k3
    by_cases lx : x < 0
    · skip
      go_enter Tryz.func60, Tryz.ntmps60
      go_wp2
      go_ret
      exact ⟨ret_b (by rw [HE.out]; simp [bndE, inB]; omega), (Below.refl _ _).alloc (Nat.le_refl _) _⟩
    have mx : 0 ≤ x := by omega
    clear lx
    by_cases gx : 2 < x
    · skip
      go_enter Tryz.func60, Tryz.ntmps60
      go_wp2
      go_ret
      exact ⟨ret_b (by rw [HE.out]; simp [bndE, inB]; omega), (Below.refl _ _).alloc (Nat.le_refl _) _⟩
    have nx : x ≤ 2 := by omega
    clear gx
    by_cases sy : 0 ≤ y ∧ y ≤ 2147483647
    rotate_left
    · have ty := someB_ff sy
      rw [ty] at HY
      have Sy := Lib.hid sy
      clear sy ty
      go_enter Tryz.func60, Tryz.ntmps60
      go_wp2_with (first | (go_at_call 124; refine ((HY _).out).mono ?_; rintro e w' ⟨rfl, rfl⟩))
      go_ret
      exact ⟨ret_b (by rw [HE.out]; have := Sy.out; simp [bndE, inB]; omega), (Below.refl _ _).alloc (Nat.le_refl _) _⟩
    obtain ⟨ly, gy⟩ := sy
    rw [someB_tt ly gy] at HY
    by_cases zz : z = 0
    rotate_left
    · have qzz : (z == 0) = false := by rw [beq_eq_false_iff_ne]; exact zz
      have Zz := Lib.hid zz
      clear zz
      go_enter Tryz.func60, Tryz.ntmps60
      go_wp2_with (first | (go_at_call 124; refine ((HY _).out).mono ?_; rintro e w' ⟨rfl, rfl⟩))
      go_ret
      exact ⟨ret_b (by rw [HE.out]; have := Zz.out; simp [bndE, inB]; omega), (Below.refl _ _).alloc (Nat.le_refl _) _⟩
    subst zz
    go_enter Tryz.func60, Tryz.ntmps60
    go_wp2_with (first | (go_at_call 124; refine ((HY _).out).mono ?_; rintro e w' ⟨rfl, rfl⟩))
    go_ret
    exact ⟨ret_b (by rw [HE.out]; simp [bndE, inB]; omega), (Below.refl _ _).alloc (Nat.le_refl _) _⟩
  by_cases k4 : k = 4
  · subst k4
    by_cases lx : x < 0
    · skip
      go_enter Tryz.func60, Tryz.ntmps60
      go_wp2
      go_ret
      exact ⟨ret_b (by rw [HE.out]; simp [bndE, inB]; omega), (Below.refl _ _).alloc (Nat.le_refl _) _⟩
    have mx : 0 ≤ x := by omega
    clear lx
    by_cases gx : 2 < x
    · skip
      go_enter Tryz.func60, Tryz.ntmps60
      go_wp2
      go_ret
      exact ⟨ret_b (by rw [HE.out]; simp [bndE, inB]; omega), (Below.refl _ _).alloc (Nat.le_refl _) _⟩
    have nx : x ≤ 2 := by omega
    clear gx
    by_cases zy : y = 0
    rotate_left
    · have qzy : (y == 0) = false := by rw [beq_eq_false_iff_ne]; exact zy
      have Zy := Lib.hid zy
      clear zy
      go_enter Tryz.func60, Tryz.ntmps60
      go_wp2
      go_ret
      exact ⟨ret_b (by rw [HE.out]; have := Zy.out; simp [bndE, inB]; omega), (Below.refl _ _).alloc (Nat.le_refl _) _⟩
    subst zy
    by_cases zz : z = 0
    rotate_left
    · have qzz : (z == 0) = false := by rw [beq_eq_false_iff_ne]; exact zz
      have Zz := Lib.hid zz
      clear zz
      go_enter Tryz.func60, Tryz.ntmps60
      go_wp2
      go_ret
      exact ⟨ret_b (by rw [HE.out]; have := Zz.out; simp [bndE, inB]; omega), (Below.refl _ _).alloc (Nat.le_refl _) _⟩
    subst zz
    go_enter Tryz.func60, Tryz.ntmps60
    go_wp2
    go_ret
    exact ⟨ret_b (by rw [HE.out]; simp [bndE, inB]; omega), (Below.refl _ _).alloc (Nat.le_refl _) _⟩
  by_cases k8 : k = 8
  · subst k8
    by_cases lx : x < 1
    · skip
      go_enter Tryz.func60, Tryz.ntmps60
      go_wp2
      go_ret
      exact ⟨ret_b (by rw [HE.out]; simp [bndE, inB]; omega), (Below.refl _ _).alloc (Nat.le_refl _) _⟩
    have mx : 1 ≤ x := by omega
    clear lx
    by_cases sx : 0 ≤ x ∧ x ≤ 2147483647
    rotate_left
    · have tx := someB_ff sx
      rw [tx] at HX
      have Sx := Lib.hid sx
      clear sx tx
      go_enter Tryz.func60, Tryz.ntmps60
      go_wp2_with (first | (go_at_call 124; refine ((HX _).out).mono ?_; rintro e w' ⟨rfl, rfl⟩))
      go_ret
      exact ⟨ret_b (by rw [HE.out]; have := Sx.out; simp [bndE, inB]; omega), (Below.refl _ _).alloc (Nat.le_refl _) _⟩
    obtain ⟨lx, gx⟩ := sx
    rw [someB_tt lx gx] at HX
    by_cases zy : y = 0
    rotate_left
    · have qzy : (y == 0) = false := by rw [beq_eq_false_iff_ne]; exact zy
      have Zy := Lib.hid zy
      clear zy
      go_enter Tryz.func60, Tryz.ntmps60
      go_wp2_with (first | (go_at_call 124; refine ((HX _).out).mono ?_; rintro e w' ⟨rfl, rfl⟩))
      go_ret
      exact ⟨ret_b (by rw [HE.out]; have := Zy.out; simp [bndE, inB]; omega), (Below.refl _ _).alloc (Nat.le_refl _) _⟩
    subst zy
    by_cases zz : z = 0
    rotate_left
    · have qzz : (z == 0) = false := by rw [beq_eq_false_iff_ne]; exact zz
      have Zz := Lib.hid zz
      clear zz
      go_enter Tryz.func60, Tryz.ntmps60
      go_wp2_with (first | (go_at_call 124; refine ((HX _).out).mono ?_; rintro e w' ⟨rfl, rfl⟩))
      go_ret
      exact ⟨ret_b (by rw [HE.out]; have := Zz.out; simp [bndE, inB]; omega), (Below.refl _ _).alloc (Nat.le_refl _) _⟩
    subst zz
    go_enter Tryz.func60, Tryz.ntmps60
    go_wp2_with (first | (go_at_call 124; refine ((HX _).out).mono ?_; rintro e w' ⟨rfl, rfl⟩))
    go_ret
    exact ⟨ret_b (by rw [HE.out]; simp [bndE, inB]; omega), (Below.refl _ _).alloc (Nat.le_refl _) _⟩
  by_cases k10 : k = 10
  · subst k10
    by_cases lx : x < 1
    · skip
      go_enter Tryz.func60, Tryz.ntmps60
      go_wp2
      go_ret
      exact ⟨ret_b (by rw [HE.out]; simp [bndE, inB]; omega), (Below.refl _ _).alloc (Nat.le_refl _) _⟩
    have mx : 1 ≤ x := by omega
    clear lx
    by_cases sx : 0 ≤ x ∧ x ≤ 2147483647
    rotate_left
    · have tx := someB_ff sx
      rw [tx] at HX
      have Sx := Lib.hid sx
      clear sx tx
      go_enter Tryz.func60, Tryz.ntmps60
      go_wp2_with (first | (go_at_call 124; refine ((HX _).out).mono ?_; rintro e w' ⟨rfl, rfl⟩))
      go_ret
      exact ⟨ret_b (by rw [HE.out]; have := Sx.out; simp [bndE, inB]; omega), (Below.refl _ _).alloc (Nat.le_refl _) _⟩
    obtain ⟨lx, gx⟩ := sx
    rw [someB_tt lx gx] at HX
    by_cases zy : y = 0
    rotate_left
    · have qzy : (y == 0) = false := by rw [beq_eq_false_iff_ne]; exact zy
      have Zy := Lib.hid zy
      clear zy
      go_enter Tryz.func60, Tryz.ntmps60
      go_wp2_with (first | (go_at_call 124; refine ((HX _).out).mono ?_; rintro e w' ⟨rfl, rfl⟩))
      go_ret
      exact ⟨ret_b (by rw [HE.out]; have := Zy.out; simp [bndE, inB]; omega), (Below.refl _ _).alloc (Nat.le_refl _) _⟩
    subst zy
    by_cases zz : z = 0
    rotate_left
    · have qzz : (z == 0) = false := by rw [beq_eq_false_iff_ne]; exact zz
      have Zz := Lib.hid zz
      clear zz
      go_enter Tryz.func60, Tryz.ntmps60
      go_wp2_with (first | (go_at_call 124; refine ((HX _).out).mono ?_; rintro e w' ⟨rfl, rfl⟩))
      go_ret
      exact ⟨ret_b (by rw [HE.out]; have := Zz.out; simp [bndE, inB]; omega), (Below.refl _ _).alloc (Nat.le_refl _) _⟩
    subst zz
    go_enter Tryz.func60, Tryz.ntmps60
    go_wp2_with (first | (go_at_call 124; refine ((HX _).out).mono ?_; rintro e w' ⟨rfl, rfl⟩))
    go_ret
    exact ⟨ret_b (by rw [HE.out]; simp [bndE, inB]; omega), (Below.refl _ _).alloc (Nat.le_refl _) _⟩
  have n1 : (k == 1) = false := by rw [beq_eq_false_iff_ne]; exact k1
  have n2 : (k == 2) = false := by rw [beq_eq_false_iff_ne]; exact k2
  have n3 : (k == 3) = false := by rw [beq_eq_false_iff_ne]; exact k3
  have n4 : (k == 4) = false := by rw [beq_eq_false_iff_ne]; exact k4
  have n8 : (k == 8) = false := by rw [beq_eq_false_iff_ne]; exact k8
  have n10 : (k == 10) = false := by rw [beq_eq_false_iff_ne]; exact k10
  have HB := Lib.hid (show bndE k = ((0, 2147483647), (0, 0), (0, 0)) from by unfold bndE; rw [if_neg k1, if_neg k2, if_neg k3, if_neg k4, if_neg (by omega)])
  rw [HB.out] at HE
  clear HB k1 k2 k3 k4 k8 k10
  by_cases sx : 0 ≤ x ∧ x ≤ 2147483647
  rotate_left
  · have tx := someB_ff sx
    rw [tx] at HX
    have Sx := Lib.hid sx
    clear sx tx
    go_enter Tryz.func60, Tryz.ntmps60
    go_wp2_with (first | (go_at_call 124; refine ((HX _).out).mono ?_; rintro e w' ⟨rfl, rfl⟩))
    go_ret
    exact ⟨ret_b (by rw [HE.out]; have := Sx.out; simp [inB]; omega), (Below.refl _ _).alloc (Nat.le_refl _) _⟩
  obtain ⟨lx, gx⟩ := sx
  rw [someB_tt lx gx] at HX
  by_cases zy : y = 0
  rotate_left
  · have qzy : (y == 0) = false := by rw [beq_eq_false_iff_ne]; exact zy
    have Zy := Lib.hid zy
    clear zy
    go_enter Tryz.func60, Tryz.ntmps60
    go_wp2_with (first | (go_at_call 124; refine ((HX _).out).mono ?_; rintro e w' ⟨rfl, rfl⟩))
    go_ret
    exact ⟨ret_b (by rw [HE.out]; have := Zy.out; simp [inB]; omega), (Below.refl _ _).alloc (Nat.le_refl _) _⟩
  subst zy
  by_cases zz : z = 0
  rotate_left
  · have qzz : (z == 0) = false := by rw [beq_eq_false_iff_ne]; exact zz
    have Zz := Lib.hid zz
    clear zz
    go_enter Tryz.func60, Tryz.ntmps60
    go_wp2_with (first | (go_at_call 124; refine ((HX _).out).mono ?_; rintro e w' ⟨rfl, rfl⟩))
    go_ret
    exact ⟨ret_b (by rw [HE.out]; have := Zz.out; simp [inB]; omega), (Below.refl _ _).alloc (Nat.le_refl _) _⟩
  subst zz
  go_enter Tryz.func60, Tryz.ntmps60
  go_wp2_with (first | (go_at_call 124; refine ((HX _).out).mono ?_; rintro e w' ⟨rfl, rfl⟩))
  go_ret
  exact ⟨ret_b (by rw [HE.out]; simp [inB]; omega), (Below.refl _ _).alloc (Nat.le_refl _) _⟩
set_option maxHeartbeats 2000000 in
theorem rCheck_c (e0 : Evt) (hcm : e0.cm.size ≤ maxLen) (w : World) : Calls Tryz.prog 19 #[.agg (evA e0)] w fun e w' => e = .returned (.int .i64 (chkE e0)) ∧ Below w.heap.size w w' := by
  have HE : Hid (chkE e0 = if manyE e0.k = 0 then 2 else if namedE e0.cm = false then 3 else if withinE e0 = false then 4 else if e0.a < 0 ∨ 1099511627776 < e0.a then 5 else if e0.q < 0 ∨ 4294967296 < e0.q then 1 else 0) := rfl
  have HW := fun W => Lib.hid (values_c e0 W)
  have HM : Hid (manyE e0.k = 0 ↔ e0.k < 1 ∨ 10 < e0.k) := by
    refine Lib.hid ?_
    unfold manyE
    by_cases h : e0.k < 1 ∨ 10 < e0.k
    · rw [if_pos h]; simp [h]
    · rw [if_neg h]
      constructor
      · intro h'; split at h' <;> first | omega | (split at h' <;> omega)
      · intro h'; exact absurd h' h
  have HN : Hid (namedE e0.cm = false ↔ e0.cm.size = 0 ∨ 24 < e0.cm.size) := by
    refine Lib.hid ?_
    unfold namedE
    rw [Bool.and_eq_false_iff, decide_eq_false_iff_not, decide_eq_false_iff_not]
    omega
  generalize chkE e0 = r at HE ⊢
  generalize manyE e0.k = m at HM HE
  generalize namedE e0.cm = nm at HN HE
  generalize withinE e0 = wi at HW HE
  obtain ⟨q, a, k, cm, x, y, z⟩ := e0
  simp only at HE HM HN HW hcm
  unfold maxLen at hcm
  by_cases h1 : k < 1 ∨ 10 < k
  · rw [if_pos (HM.out.2 h1)] at HE
    rcases h1 with h1 | h1
    all_goals
      go_enter Tryz.func19, Tryz.ntmps19
      go_wp2
      go_ret
      exact ⟨ret_i (by rw [HE.out]), (Below.refl _ _).alloc (Nat.le_refl _) _⟩
  rw [if_neg (fun h => h1 (HM.out.1 h))] at HE
  have k1 : 1 ≤ k := by omega
  have k2 : k ≤ 10 := by omega
  clear h1 HM
  by_cases h2 : cm.size = 0 ∨ 24 < cm.size
  · rw [if_pos (HN.out.2 h2)] at HE
    rcases h2 with h2 | h2
    · have b2 : ((cm.size : Int) == 0) = true := by rw [beq_iff_eq]; omega
      have b3 : (cm.size == 0) = true := by rw [beq_iff_eq]; omega
      clear h2
      go_enter Tryz.func19, Tryz.ntmps19
      go_wp2
      go_ret
      exact ⟨ret_i (by rw [HE.out]), (Below.refl _ _).alloc (Nat.le_refl _) _⟩
    · have b2 : ((cm.size : Int) == 0) = false := by rw [beq_eq_false_iff_ne]; omega
      have b3 : (cm.size == 0) = false := by rw [beq_eq_false_iff_ne]; omega
      go_enter Tryz.func19, Tryz.ntmps19
      go_wp2
      go_ret
      exact ⟨ret_i (by rw [HE.out]), (Below.refl _ _).alloc (Nat.le_refl _) _⟩
  rw [if_neg (fun h => h2 (HN.out.1 h))] at HE
  have b2 : ((cm.size : Int) == 0) = false := by rw [beq_eq_false_iff_ne]; omega
  have b3 : (cm.size == 0) = false := by rw [beq_eq_false_iff_ne]; omega
  have b4 : cm.size ≤ 24 := by omega
  clear h2 HN
  cases wi
  · skip
    rw [if_pos rfl] at HE
    go_enter Tryz.func19, Tryz.ntmps19
    go_wp2_with (go_at_call 60; refine ((HW _).out).mono ?_; rintro e w1 ⟨rfl, hb⟩; have HB := Lib.hid hb; obtain ⟨hc, hf⟩ := bcell hb; clear hb)
    go_ret
    exact ⟨ret_i (by rw [HE.out]), ((Below.refl _ _).alloc (Nat.le_refl _) _).trans (HB.out.mono (by simp))⟩
  rw [if_neg (by simp)] at HE
  by_cases h4 : a < 0 ∨ 1099511627776 < a
  · rw [if_pos h4] at HE
    rcases h4 with h4 | h4
    all_goals
      go_enter Tryz.func19, Tryz.ntmps19
      go_wp2_with (go_at_call 60; refine ((HW _).out).mono ?_; rintro e w1 ⟨rfl, hb⟩; have HB := Lib.hid hb; obtain ⟨hc, hf⟩ := bcell hb; clear hb)
      go_ret
      exact ⟨ret_i (by rw [HE.out]), ((Below.refl _ _).alloc (Nat.le_refl _) _).trans (HB.out.mono (by simp))⟩
  rw [if_neg h4] at HE
  have a1 : 0 ≤ a := by omega
  have a2 : a ≤ 1099511627776 := by omega
  clear h4
  by_cases h5 : q < 0 ∨ 4294967296 < q
  · rw [if_pos h5] at HE
    rcases h5 with h5 | h5
    all_goals
      go_enter Tryz.func19, Tryz.ntmps19
      go_wp2_with (go_at_call 60; refine ((HW _).out).mono ?_; rintro e w1 ⟨rfl, hb⟩; have HB := Lib.hid hb; obtain ⟨hc, hf⟩ := bcell hb; clear hb)
      go_ret
      exact ⟨ret_i (by rw [HE.out]), ((Below.refl _ _).alloc (Nat.le_refl _) _).trans (HB.out.mono (by simp))⟩
  rw [if_neg h5] at HE
  have q1 : 0 ≤ q := by omega
  have q2 : q ≤ 4294967296 := by omega
  clear h5
  go_enter Tryz.func19, Tryz.ntmps19
  go_wp2_with (go_at_call 60; refine ((HW _).out).mono ?_; rintro e w1 ⟨rfl, hb⟩; have HB := Lib.hid hb; obtain ⟨hc, hf⟩ := bcell hb; clear hb)
  go_ret
  exact ⟨ret_i (by rw [HE.out]), ((Below.refl _ _).alloc (Nat.le_refl _) _).trans (HB.out.mono (by simp))⟩
end
section
set_option maxRecDepth 100000
open Go.RowKit
theorem okE_of {e : Evt} (h : chkE e = 0) : okE e := by
  obtain ⟨k1, k2, hn, hw, a1, a2, q1, q2⟩ := chkE_ok h
  obtain ⟨⟨x1, x2⟩, ⟨y1, y2⟩, ⟨z1, z2⟩, -, -⟩ := within_nums ⟨k1, k2⟩ hw
  have hcm : e.cm.size ≤ 24 := by unfold namedE at hn; simp only [Bool.and_eq_true, decide_eq_true_iff] at hn; exact hn.2
  unfold okE maxLen
  simp only [wf_i64]
  omega
theorem recsB_ge : ∀ (c : Cx) (l : List Evt), l.length ≤ (recsB c l).length
  | _, [] => Nat.zero_le _
  | c, e :: l => by
    have := recsB_ge (nextC c e) l
    simp only [recsB, List.length_append, frameB_length, List.length_cons]
    omega
structure Scanned (bs : List UInt8) (s : Scn) (st : Int) : Prop where
  lo : 0 ≤ s.size
  hi : s.size ≤ (bs.length : Int)
  chk : ∀ e ∈ s.evs, chkE e = 0
  next : ∀ (i : Nat) (a b : Evt), s.evs[i]? = some a → s.evs[i + 1]? = some b → a.q < b.q ∧ a.a ≤ b.a
  make : 0 < s.num → (st = 1 ∨ st = 4) → numB s.num = true ∧ rightC ⟨s.bq, s.ba, []⟩ = true ∧ okL ⟨s.bq, s.ba, []⟩ s.evs ∧ makeR s.num ⟨s.bq, s.ba, []⟩ s.evs (decide (st = 4)) = bs
  many : s.evs.length ≤ bs.length
theorem scanned (bs : List UInt8) : Scanned bs (scanF bs scn0).1 (scanF bs scn0).2 := by
  obtain ⟨h1, h2⟩ := scan_end bs
  obtain ⟨h3, h4⟩ := scan_events bs
  refine ⟨h1.lo, h1.hi, h3, h4, scan_make bs, ?_⟩
  have hb := congrArg List.length h1.built
  rw [List.length_take] at hb
  by_cases hn : (scanF bs scn0).1.num = 0
  · rw [(h1.good.none_ hn).1]; exact Nat.zero_le _
  · unfold builtS at hb
    rw [if_neg hn] at hb
    simp only [List.length_append] at hb
    have := recsB_ge ⟨(scanF bs scn0).1.bq, (scanF bs scn0).1.ba, []⟩ (scanF bs scn0).1.evs
    omega
theorem w64_in (j : Nat) (h : j ≤ 1000000) : IntKind.i64.wrap (j : Int) = (j : Int) := IntWalk.i64_in _ (by omega)
theorem repAll_ev {w : World} {X : List Nat} (l : List Evt) (h : ∀ e ∈ l, okE e) : RepAll evSh w X (evCells l) l := (repAll_flat).2 ⟨by simp [evCells], h⟩
theorem Sl.evr {w : World} {X : List Nat} {A : Option Addr} {n c : Nat} {l : List Evt} (h : Sl evSh w X A n c l) : Reads w w.heap.size 7 A n (evCells l) := by
  obtain ⟨h1, h2, h3, h4, vs, hr, hx, ha⟩ := h
  obtain ⟨rfl, _⟩ := repAll_flat.1 ha
  have e : l.flatMap (fun x => (evA x).toList) = evCells l := by simp [evCells]
  exact e ▸ hr
set_option maxHeartbeats 4000000 in
theorem TopBytes_w (A : Option Addr) (n c : Nat) (bs : List UInt8) (cut : Int) (w : World) (hs : Sl byteSh w [] A n c bs) (hc0 : 0 ≤ cut) (hc1 : cut ≤ 65535) :
    Calls Tryz.prog 4 #[.slice A n c, .int .u16 cut] w fun e w' => e = .returned (.bool true) ∧ Below w.heap.size w w' := by
  have hX : XOk [] w := fun b hb => (by cases hb)
  have HSL := Lib.hid hs.len
  have HCM := Lib.hid hs.max
  have HCL := Lib.hid hs.le
  have HSA := Lib.hid (scanned bs)
  have HCUT := fun k hk => Lib.hid (scan_cut bs k hk)
  have HK1 := Lib.hid (show Held w [] [] w [] [Sl.fact byteSh A n c bs] from ((Held.start w hX).know0 (Sl.fact byteSh A n c bs) hs))
  clear hs
  go_enter Tryz.func4, Tryz.ntmps4
  go_wp2_with fail
  with_reducible refine (written_c w).mono ?_
  rintro e w1 ⟨rfl, hb⟩
  have HK2 := Lib.hid (show Held w [] [] w1 [] [Sl.fact byteSh A n c bs] from (HK1.out.on hb))
  clear HK1
  clear hb
  by_cases hbig : 3000 < n
  · skip
    have d1 : decide ((3000 : Int) < (n : Int)) = true := by simp; omega
    go_wp2
    go_ret
    exact ⟨rfl, HK2.out.below⟩
  have d1 : decide ((3000 : Int) < (n : Int)) = false := by simp; omega
  go_wp2_with fail
  have hsz1 := HK2.out.size
  with_reducible refine (Read_s A n c w1.heap.size bs _ w1 HK2.out.xok' (HK2.out.sl 0 rfl).bytes (Nat.le_refl _) HCL.out (by have := HCM.out; unfold maxLen at this; omega) (by omega)).mono ?_
  generalize hsc : scanF bs scn0 = R at HSA HCUT ⊢
  have HSC := Lib.hid hsc
  clear hsc
  obtain ⟨s, st⟩ := R
  rintro e w2 ⟨hb, ve, An, nn, cn, rfl, hown, hns, -, hvx⟩
  simp only at HSA HCUT
  obtain ⟨Ae, ce, rfl, hse⟩ := Sl.of_own (s := evSh) hown hvx (repAll_ev _ (fun e he => okE_of (HSA.out.chk e he))) (by decide)
  clear hown hvx hns
  have HK3 := Lib.hid (show Held w [] [] w2 [] [Sl.fact evSh Ae s.evs.length ce s.evs, Sl.fact byteSh A n c bs] from ((HK2.out.on hb).know (Sl.fact evSh Ae s.evs.length ce s.evs) hse))
  clear HK2
  clear hb
  clear hse
  clear d1
  have HK4 := Lib.hid (show Held w [] [] (w2.alloc (.cells #[.int .i64 s.num, .int .i64 s.bq, .int .i64 s.ba, .slice none 0 0, .slice Ae s.evs.length ce, .int .i64 s.c.q, .int .i64 s.c.a, .slice An nn cn, .int .i64 st, .int .i64 s.size] 54)) [.box (w2.heap.size) 54 #[.int .i64 s.num, .int .i64 s.bq, .int .i64 s.ba, .slice none 0 0, .slice Ae s.evs.length ce, .int .i64 s.c.q, .int .i64 s.c.a, .slice An nn cn, .int .i64 st, .int .i64 s.size]] [Sl.fact evSh Ae s.evs.length ce s.evs, Sl.fact byteSh A n c bs] from HK3.out.alloc_at 54 #[.int .i64 s.num, .int .i64 s.bq, .int .i64 s.ba, .slice none 0 0, .slice Ae s.evs.length ce, .int .i64 s.c.q, .int .i64 s.c.a, .slice An nn cn, .int .i64 st, .int .i64 s.size] (w2.heap.size) (by simp))
  clear HK3
  go_upto_region 6 with (fail)
  generalize w2.alloc (.cells #[.int .i64 s.num, .int .i64 s.bq, .int .i64 s.ba, .slice none 0 0, .slice Ae s.evs.length ce, .int .i64 s.c.q, .int .i64 s.c.a, .slice An nn cn, .int .i64 st, .int .i64 s.size] 54) = w3 at HK4 ⊢
  generalize w2.heap.size = gs at HK4 ⊢
  have c_s_0_5 : w3.cell? ⟨gs, 0, none⟩ = some (.int .i64 s.num) := HK4.out.cell 0 rfl 0
  have c_s_1_6 : w3.cell? ⟨gs, 1, none⟩ = some (.int .i64 s.bq) := HK4.out.cell 0 rfl 1
  have c_s_2_7 : w3.cell? ⟨gs, 2, none⟩ = some (.int .i64 s.ba) := HK4.out.cell 0 rfl 2
  have c_s_3_8 : w3.cell? ⟨gs, 3, none⟩ = some (.slice none 0 0) := HK4.out.cell 0 rfl 3
  have c_s_4_9 : w3.cell? ⟨gs, 4, none⟩ = some (.slice Ae s.evs.length ce) := HK4.out.cell 0 rfl 4
  have c_s_5_10 : w3.cell? ⟨gs, 5, none⟩ = some (.int .i64 s.c.q) := HK4.out.cell 0 rfl 5
  have c_s_6_11 : w3.cell? ⟨gs, 6, none⟩ = some (.int .i64 s.c.a) := HK4.out.cell 0 rfl 6
  have c_s_7_12 : w3.cell? ⟨gs, 7, none⟩ = some (.slice An nn cn) := HK4.out.cell 0 rfl 7
  have c_s_8_13 : w3.cell? ⟨gs, 8, none⟩ = some (.int .i64 st) := HK4.out.cell 0 rfl 8
  have c_s_9_14 : w3.cell? ⟨gs, 9, none⟩ = some (.int .i64 s.size) := HK4.out.cell 0 rfl 9
  have d1 : decide (s.size < 0) = false := by have := HSA.out.lo; simp; omega
  have d2 : decide ((n : Int) < s.size) = false := by have := HSA.out.hi; have := HSL.out; simp; omega
  go_upto_region 8 with (fail)
  clear c_s_0_5 c_s_1_6 c_s_2_7 c_s_3_8 c_s_4_9 c_s_5_10 c_s_6_11 c_s_7_12 c_s_8_13 c_s_9_14
  clear d1 d2
  go_wp2_with fail
  go_loopw [6] (fun i wr => ∃ k : Nat, k ≤ s.evs.length ∧ i = .int .i64 (k : Int) ∧ Hid (Held w [] [] wr [.box (gs) 54 #[.int .i64 s.num, .int .i64 s.bq, .int .i64 s.ba, .slice none 0 0, .slice Ae s.evs.length ce, .int .i64 s.c.q, .int .i64 s.c.a, .slice An nn cn, .int .i64 st, .int .i64 s.size]] [Sl.fact evSh Ae s.evs.length ce s.evs, Sl.fact byteSh A n c bs])) (fun i _ => s.evs.length - (intOf i).toNat)
  case atStart => exact ⟨0, Nat.zero_le _, rfl, HK4⟩
  case round =>
    clear HK4
    obtain ⟨k, hk, rfl, HKl⟩ := hrel
    by_cases hlt : k < s.evs.length
    · skip
      obtain ⟨e0, he⟩ : ∃ e0, s.evs[k]? = some e0 := ⟨_, List.getElem?_eq_getElem hlt⟩
      obtain ⟨ad, rfl, hbk, hbx, hoe, y0, y1, y2, y3, y4, y5, y6⟩ := ev_at (HKl.out.sl 0 rfl) he
      have d1 : decide ((k : Int) < (s.evs.length : Int)) = true := by simp; omega
      have hck := HSA.out.chk e0 (List.mem_of_getElem? he)
      have HCK := Lib.hid hck
      clear hck
      have hcme : e0.cm.size ≤ maxLen := by unfold okE at hoe; exact hoe.2.2.2.1
      have HHE := Lib.hid he
      clear he hoe
      have c_s_0_15 : wr.cell? ⟨gs, 0, none⟩ = some (.int .i64 s.num) := HKl.out.cell 0 rfl 0
      have c_s_1_16 : wr.cell? ⟨gs, 1, none⟩ = some (.int .i64 s.bq) := HKl.out.cell 0 rfl 1
      have c_s_2_17 : wr.cell? ⟨gs, 2, none⟩ = some (.int .i64 s.ba) := HKl.out.cell 0 rfl 2
      have c_s_3_18 : wr.cell? ⟨gs, 3, none⟩ = some (.slice none 0 0) := HKl.out.cell 0 rfl 3
      have c_s_4_19 : wr.cell? ⟨gs, 4, none⟩ = some (.slice (some ad) s.evs.length ce) := HKl.out.cell 0 rfl 4
      have c_s_5_20 : wr.cell? ⟨gs, 5, none⟩ = some (.int .i64 s.c.q) := HKl.out.cell 0 rfl 5
      have c_s_6_21 : wr.cell? ⟨gs, 6, none⟩ = some (.int .i64 s.c.a) := HKl.out.cell 0 rfl 6
      have c_s_7_22 : wr.cell? ⟨gs, 7, none⟩ = some (.slice An nn cn) := HKl.out.cell 0 rfl 7
      have c_s_8_23 : wr.cell? ⟨gs, 8, none⟩ = some (.int .i64 st) := HKl.out.cell 0 rfl 8
      have c_s_9_24 : wr.cell? ⟨gs, 9, none⟩ = some (.int .i64 s.size) := HKl.out.cell 0 rfl 9
      go_upto_region 12 with (fail)
      clear c_s_0_15 c_s_1_16 c_s_2_17 c_s_3_18 c_s_4_19 c_s_5_20 c_s_6_21 c_s_7_22 c_s_8_23 c_s_9_24
      clear y0 y1 y2 y3 y4 y5 y6 hbk hbx d1
      have HK25 := Lib.hid (show Held w [] [] (wr.alloc (.cells #[.int .i64 e0.q, .int .i64 e0.a, .int .i64 e0.k, .string e0.cm, .int .i64 e0.x, .int .i64 e0.y, .int .i64 e0.z] 44)) [.box (wr.heap.size) 44 #[.int .i64 e0.q, .int .i64 e0.a, .int .i64 e0.k, .string e0.cm, .int .i64 e0.x, .int .i64 e0.y, .int .i64 e0.z], .box (gs) 54 #[.int .i64 s.num, .int .i64 s.bq, .int .i64 s.ba, .slice none 0 0, .slice (some ad) s.evs.length ce, .int .i64 s.c.q, .int .i64 s.c.a, .slice An nn cn, .int .i64 st, .int .i64 s.size]] [Sl.fact evSh (some ad) s.evs.length ce s.evs, Sl.fact byteSh A n c bs] from HKl.out.alloc_at 44 #[.int .i64 e0.q, .int .i64 e0.a, .int .i64 e0.k, .string e0.cm, .int .i64 e0.x, .int .i64 e0.y, .int .i64 e0.z] (wr.heap.size) (by simp))
      clear HKl
      generalize wr.alloc (.cells #[.int .i64 e0.q, .int .i64 e0.a, .int .i64 e0.k, .string e0.cm, .int .i64 e0.x, .int .i64 e0.y, .int .i64 e0.z] 44) = w4 at HK25 ⊢
      generalize wr.heap.size = ge at HK25 ⊢
      by_cases hk0 : k = 0
      · skip
        subst hk0
        refine wp_region_noPanic ?_
        refine wp_region_held_drew (S := fun W' => Held w [] [] W' [.box (ge) 44 #[.int .i64 e0.q, .int .i64 e0.a, .int .i64 e0.k, .string e0.cm, .int .i64 e0.x, .int .i64 e0.y, .int .i64 e0.z], .box (gs) 54 #[.int .i64 s.num, .int .i64 s.bq, .int .i64 s.ba, .slice none 0 0, .slice (some ad) s.evs.length ce, .int .i64 s.c.q, .int .i64 s.c.a, .slice An nn cn, .int .i64 st, .int .i64 s.size]] [Sl.fact evSh (some ad) s.evs.length ce s.evs, Sl.fact byteSh A n c bs]) (by kernel_rfl) HK25.out.drew (fun hHeld => ?_)
        have HK26 := Lib.hid (show Held w [] [] w4.drew [.box (ge) 44 #[.int .i64 e0.q, .int .i64 e0.a, .int .i64 e0.k, .string e0.cm, .int .i64 e0.x, .int .i64 e0.y, .int .i64 e0.z], .box (gs) 54 #[.int .i64 s.num, .int .i64 s.bq, .int .i64 s.ba, .slice none 0 0, .slice (some ad) s.evs.length ce, .int .i64 s.c.q, .int .i64 s.c.a, .slice An nn cn, .int .i64 st, .int .i64 s.size]] [Sl.fact evSh (some ad) s.evs.length ce s.evs, Sl.fact byteSh A n c bs] from HK25.out.drew)
        clear HK25
        generalize w4.drew = wd at hHeld HK26 ⊢
        refine takeH 0 (v := ?v0u1) rfl (by kernel_rfl) (by kernel_rfl) (by kernel_rfl) rfl (fun _ _ _ h => h) (Or.inl ⟨by rfl, ?y0u1⟩) hHeld ?r0u1
        case y0u1 => (intro W hSW; (try dsimp only at hSW); have q0 : W.cell? ⟨ge, 0, none⟩ = some (.int .i64 e0.q) := hSW.cell 0 rfl 0; have q1 : W.cell? ⟨ge, 1, none⟩ = some (.int .i64 e0.a) := hSW.cell 0 rfl 1; have q2 : W.cell? ⟨ge, 2, none⟩ = some (.int .i64 e0.k) := hSW.cell 0 rfl 2; have q3 : W.cell? ⟨ge, 3, none⟩ = some (.string e0.cm) := hSW.cell 0 rfl 3; have q4 : W.cell? ⟨ge, 4, none⟩ = some (.int .i64 e0.x) := hSW.cell 0 rfl 4; have q5 : W.cell? ⟨ge, 5, none⟩ = some (.int .i64 e0.y) := hSW.cell 0 rfl 5; have q6 : W.cell? ⟨ge, 6, none⟩ = some (.int .i64 e0.z) := hSW.cell 0 rfl 6; go_simp; try with_reducible rfl)
        simp only [Act.put, sI, sZ, sS]
        refine wpAnyH_ready (rs := [1]) (by kernel_rfl) (by simp) ?_
        refine AllReadyH.cons rfl (fun K hK => ?_) AllReadyH.nil
        go_simp
        with_reducible refine (Check_c e0 hcme _).mono ?_
        rw [HCK.out]
        rintro e w8 ⟨rfl, hb9⟩
        have hkn := hHeld.on hb9
        clear hb9
        refine hK.out _ _ hkn (fun hHeld => ?_)
        clear hK K
        try simp only [Act.put, sI, sZ, sS]
        refine takeH 2 (v := ?v2u2) rfl (by kernel_rfl) (by kernel_rfl) (by kernel_rfl) rfl (fun _ _ _ h => h) (Or.inl ⟨by rfl, ?y2u2⟩) hHeld ?r2u2
        case y2u2 => (intro W hSW; (try dsimp only at hSW); go_simp; try with_reducible rfl)
        simp only [Act.put, sI, sZ, sS]
        refine takeH 3 (v := ?v3u3) rfl (by kernel_rfl) (by kernel_rfl) (by kernel_rfl) rfl (fun _ _ _ h => h) (Or.inl ⟨by rfl, ?y3u3⟩) hHeld ?r3u3
        case y3u3 => (intro W hSW; (try dsimp only at hSW); go_simp; try with_reducible rfl)
        simp only [Act.put, sI, sZ, sS]
        refine takeH 4 (v := ?v4u4) rfl (by kernel_rfl) (by kernel_rfl) (by kernel_rfl) rfl (fun _ _ _ h => h) (Or.inl ⟨by rfl, ?y4u4⟩) hHeld ?r4u4
        case y4u4 => (intro W hSW; (try dsimp only at hSW); have q0 : W.cell? ⟨ge, 0, none⟩ = some (.int .i64 e0.q) := hSW.cell 0 rfl 0; have q1 : W.cell? ⟨ge, 1, none⟩ = some (.int .i64 e0.a) := hSW.cell 0 rfl 1; have q2 : W.cell? ⟨ge, 2, none⟩ = some (.int .i64 e0.k) := hSW.cell 0 rfl 2; have q3 : W.cell? ⟨ge, 3, none⟩ = some (.string e0.cm) := hSW.cell 0 rfl 3; have q4 : W.cell? ⟨ge, 4, none⟩ = some (.int .i64 e0.x) := hSW.cell 0 rfl 4; have q5 : W.cell? ⟨ge, 5, none⟩ = some (.int .i64 e0.y) := hSW.cell 0 rfl 5; have q6 : W.cell? ⟨ge, 6, none⟩ = some (.int .i64 e0.z) := hSW.cell 0 rfl 6; go_simp; try with_reducible rfl)
        simp only [Act.put, sI, sZ, sS]
        refine wpAnyH_ready (rs := [5]) (by kernel_rfl) (by simp) ?_
        refine AllReadyH.cons rfl (fun K hK => ?_) AllReadyH.nil
        go_simp
        with_reducible refine (rCheck_c e0 hcme _).mono ?_
        rw [HCK.out]
        rintro e w9 ⟨rfl, hb9⟩
        have hkn := hHeld.on hb9
        clear hb9
        refine hK.out _ _ hkn (fun hHeld => ?_)
        clear hK K
        try simp only [Act.put, sI, sZ, sS]
        refine takeH 6 (v := ?v6u5) rfl (by kernel_rfl) (by kernel_rfl) (by kernel_rfl) rfl (fun _ _ _ h => h) (Or.inl ⟨by rfl, ?y6u5⟩) hHeld ?r6u5
        case y6u5 => (intro W hSW; (try dsimp only at hSW); go_simp; try with_reducible rfl)
        simp only [Act.put, sI, sZ, sS]
        refine takeH 7 (v := ?v7u6) rfl (by kernel_rfl) (by kernel_rfl) (by kernel_rfl) rfl (fun _ _ _ h => h) (Or.inl ⟨by rfl, ?y7u6⟩) hHeld ?r7u6
        case y7u6 => (intro W hSW; (try dsimp only at hSW); go_simp; try with_reducible rfl)
        simp only [Act.put, sI, sZ, sS]
        refine takeH 8 (v := ?v8u7) rfl (by kernel_rfl) (by kernel_rfl) (by kernel_rfl) rfl (fun _ _ _ h => h) (Or.inl ⟨by rfl, ?y8u7⟩) hHeld ?r8u7
        case y8u7 => (intro W hSW; (try dsimp only at hSW); go_simp; try with_reducible rfl)
        simp only [Act.put, sI, sZ, sS]
        refine takeH 9 (v := ?v9u8) rfl (by kernel_rfl) (by kernel_rfl) (by kernel_rfl) rfl (fun _ _ _ h => h) (Or.inl ⟨by rfl, ?y9u8⟩) hHeld ?r9u8
        case y9u8 => (intro W hSW; (try dsimp only at hSW); go_simp; try with_reducible rfl)
        simp only [Act.put, sI, sZ, sS]
        refine takeH 10 (v := ?v10u9) rfl (by kernel_rfl) (by kernel_rfl) (by kernel_rfl) rfl (fun _ _ _ h => h) (Or.inl ⟨by rfl, ?y10u9⟩) hHeld ?r10u9
        case y10u9 => (intro W hSW; (try dsimp only at hSW); go_simp; try with_reducible rfl)
        simp only [Act.put, sI, sZ, sS]
        refine takeH 11 (v := ?v11u10) rfl (by kernel_rfl) (by kernel_rfl) (by kernel_rfl) rfl (fun _ _ _ h => h) (Or.inl ⟨by rfl, ?y11u10⟩) hHeld ?r11u10
        case y11u10 => (intro W hSW; (try dsimp only at hSW); go_simp; try with_reducible rfl)
        simp only [Act.put, sI, sZ, sS]
        refine takeH 12 (v := undef) rfl (by kernel_rfl) (by kernel_rfl) (by kernel_rfl) rfl (fun _ _ _ h => h) (Or.inr ⟨by rfl, rfl⟩) hHeld ?_
        simp only [Act.put, sI, sZ, sS]
        refine takeH 13 (v := undef) rfl (by kernel_rfl) (by kernel_rfl) (by kernel_rfl) rfl (fun _ _ _ h => h) (Or.inr ⟨by rfl, rfl⟩) hHeld ?_
        simp only [Act.put, sI, sZ, sS]
        refine takeH 14 (v := undef) rfl (by kernel_rfl) (by kernel_rfl) (by kernel_rfl) rfl (fun _ _ _ h => h) (Or.inr ⟨by rfl, rfl⟩) hHeld ?_
        simp only [Act.put, sI, sZ, sS]
        refine takeH 15 (v := undef) rfl (by kernel_rfl) (by kernel_rfl) (by kernel_rfl) rfl (fun _ _ _ h => h) (Or.inr ⟨by rfl, rfl⟩) hHeld ?_
        simp only [Act.put, sI, sZ, sS]
        refine takeH 16 (v := undef) rfl (by kernel_rfl) (by kernel_rfl) (by kernel_rfl) rfl (fun _ _ _ h => h) (Or.inr ⟨by rfl, rfl⟩) hHeld ?_
        simp only [Act.put, sI, sZ, sS]
        refine takeH 17 (v := undef) rfl (by kernel_rfl) (by kernel_rfl) (by kernel_rfl) rfl (fun _ _ _ h => h) (Or.inr ⟨by rfl, rfl⟩) hHeld ?_
        simp only [Act.put, sI, sZ, sS]
        refine takeH 18 (v := undef) rfl (by kernel_rfl) (by kernel_rfl) (by kernel_rfl) rfl (fun _ _ _ h => h) (Or.inr ⟨by rfl, rfl⟩) hHeld ?_
        simp only [Act.put, sI, sZ, sS]
        refine takeH 19 (v := undef) rfl (by kernel_rfl) (by kernel_rfl) (by kernel_rfl) rfl (fun _ _ _ h => h) (Or.inr ⟨by rfl, rfl⟩) hHeld ?_
        simp only [Act.put, sI, sZ, sS]
        refine takeH 20 (v := undef) rfl (by kernel_rfl) (by kernel_rfl) (by kernel_rfl) rfl (fun _ _ _ h => h) (Or.inr ⟨by rfl, rfl⟩) hHeld ?_
        simp only [Act.put, sI, sZ, sS]
        refine takeH 21 (v := undef) rfl (by kernel_rfl) (by kernel_rfl) (by kernel_rfl) rfl (fun _ _ _ h => h) (Or.inr ⟨by rfl, rfl⟩) hHeld ?_
        simp only [Act.put, sI, sZ, sS]
        refine takeH 22 (v := undef) rfl (by kernel_rfl) (by kernel_rfl) (by kernel_rfl) rfl (fun _ _ _ h => h) (Or.inr ⟨by rfl, rfl⟩) hHeld ?_
        simp only [Act.put, sI, sZ, sS]
        refine takeH 23 (v := undef) rfl (by kernel_rfl) (by kernel_rfl) (by kernel_rfl) rfl (fun _ _ _ h => h) (Or.inr ⟨by rfl, rfl⟩) hHeld ?_
        simp only [Act.put, sI, sZ, sS]
        refine takeH 24 (v := undef) rfl (by kernel_rfl) (by kernel_rfl) (by kernel_rfl) rfl (fun _ _ _ h => h) (Or.inr ⟨by rfl, rfl⟩) hHeld ?_
        simp only [Act.put, sI, sZ, sS]
        refine takeH 25 (v := undef) rfl (by kernel_rfl) (by kernel_rfl) (by kernel_rfl) rfl (fun _ _ _ h => h) (Or.inr ⟨by rfl, rfl⟩) hHeld ?_
        simp only [Act.put, sI, sZ, sS]
        refine takeH 26 (v := undef) rfl (by kernel_rfl) (by kernel_rfl) (by kernel_rfl) rfl (fun _ _ _ h => h) (Or.inr ⟨by rfl, rfl⟩) hHeld ?_
        simp only [Act.put, sI, sZ, sS]
        refine takeH 27 (v := undef) rfl (by kernel_rfl) (by kernel_rfl) (by kernel_rfl) rfl (fun _ _ _ h => h) (Or.inr ⟨by rfl, rfl⟩) hHeld ?_
        simp only [Act.put, sI, sZ, sS]
        refine takeH 28 (v := undef) rfl (by kernel_rfl) (by kernel_rfl) (by kernel_rfl) rfl (fun _ _ _ h => h) (Or.inr ⟨by rfl, rfl⟩) hHeld ?_
        simp only [Act.put, sI, sZ, sS]
        refine takeH 29 (v := undef) rfl (by kernel_rfl) (by kernel_rfl) (by kernel_rfl) rfl (fun _ _ _ h => h) (Or.inr ⟨by rfl, rfl⟩) hHeld ?_
        simp only [Act.put, sI, sZ, sS]
        refine takeH 30 (v := undef) rfl (by kernel_rfl) (by kernel_rfl) (by kernel_rfl) rfl (fun _ _ _ h => h) (Or.inr ⟨by rfl, rfl⟩) hHeld ?_
        simp only [Act.put, sI, sZ, sS]
        refine takeH 31 (v := undef) rfl (by kernel_rfl) (by kernel_rfl) (by kernel_rfl) rfl (fun _ _ _ h => h) (Or.inr ⟨by rfl, rfl⟩) hHeld ?_
        simp only [Act.put, sI, sZ, sS]
        refine takeH 32 (v := undef) rfl (by kernel_rfl) (by kernel_rfl) (by kernel_rfl) rfl (fun _ _ _ h => h) (Or.inr ⟨by rfl, rfl⟩) hHeld ?_
        simp only [Act.put, sI, sZ, sS]
        refine takeH 33 (v := undef) rfl (by kernel_rfl) (by kernel_rfl) (by kernel_rfl) rfl (fun _ _ _ h => h) (Or.inr ⟨by rfl, rfl⟩) hHeld ?_
        simp only [Act.put, sI, sZ, sS]
        refine takeH 34 (v := ?v34u11) rfl (by kernel_rfl) (by kernel_rfl) (by kernel_rfl) rfl (fun _ _ _ h => h) (Or.inl ⟨by rfl, ?y34u11⟩) hHeld ?r34u11
        case y34u11 => (intro W hSW; (try dsimp only at hSW); go_simp; try with_reducible rfl)
        simp only [Act.put, sI, sZ, sS]
        refine takeH 35 (v := ?v35u12) rfl (by kernel_rfl) (by kernel_rfl) (by kernel_rfl) rfl (fun _ _ _ h => h) (Or.inl ⟨by rfl, ?y35u12⟩) hHeld ?r35u12
        case y35u12 => (intro W hSW; (try dsimp only at hSW); go_simp; try with_reducible rfl)
        simp only [Act.put, sI, sZ, sS]
        refine wpAnyH_done (by kernel_rfl) ?_ _
        refine NoPanic.normal ?_
        have HKr := Lib.hid hHeld
        clear hHeld HK26
        have HK27 := Lib.hid (show Held w [] [] w9 [.box (gs) 54 #[.int .i64 s.num, .int .i64 s.bq, .int .i64 s.ba, .slice none 0 0, .slice (some ad) s.evs.length ce, .int .i64 s.c.q, .int .i64 s.c.a, .slice An nn cn, .int .i64 st, .int .i64 s.size]] [Sl.fact evSh (some ad) s.evs.length ce s.evs, Sl.fact byteSh A n c bs] from (HKr.out.drop (List.Sublist.cons _ (List.Sublist.cons_cons _ List.Sublist.slnil))))
        clear HKr
        go_wp2
        exact ⟨⟨0 + 1, by omega, by rfl, HK27⟩, by simp [intOf]; omega⟩
      obtain ⟨j, rfl⟩ : ∃ j, k = j + 1 := ⟨k - 1, by omega⟩
      obtain ⟨e1, he1⟩ : ∃ e1, s.evs[j]? = some e1 := ⟨_, List.getElem?_eq_getElem (by omega)⟩
      have hnx := HSA.out.next j e1 e0 he1 HHE.out
      have HH1 := Lib.hid he1
      clear he1
      have d2 : decide ((0 : Int) < (j : Int) + 1) = true := decide_eq_true (by omega)
      have d3 : decide (e0.q ≤ e1.q) = false := by simp; omega
      have d4 : decide (e0.a < e1.a) = false := by simp; omega
      have hjb : j ≤ 1000000 := by have := HSA.out.many; have := HSL.out; omega
      have hjw := w64_in j hjb
      have hj2 : (0 : Int) ≤ (j : Int) := by omega
      have hj3 : j < s.evs.length := by omega
      clear hnx
      refine wp_region_noPanic ?_
      refine wp_region_held_drew (S := fun W' => Held w [] [] W' [.box (ge) 44 #[.int .i64 e0.q, .int .i64 e0.a, .int .i64 e0.k, .string e0.cm, .int .i64 e0.x, .int .i64 e0.y, .int .i64 e0.z], .box (gs) 54 #[.int .i64 s.num, .int .i64 s.bq, .int .i64 s.ba, .slice none 0 0, .slice (some ad) s.evs.length ce, .int .i64 s.c.q, .int .i64 s.c.a, .slice An nn cn, .int .i64 st, .int .i64 s.size]] [Sl.fact evSh (some ad) s.evs.length ce s.evs, Sl.fact byteSh A n c bs]) (by kernel_rfl) HK25.out.drew (fun hHeld => ?_)
      have HK26 := Lib.hid (show Held w [] [] w4.drew [.box (ge) 44 #[.int .i64 e0.q, .int .i64 e0.a, .int .i64 e0.k, .string e0.cm, .int .i64 e0.x, .int .i64 e0.y, .int .i64 e0.z], .box (gs) 54 #[.int .i64 s.num, .int .i64 s.bq, .int .i64 s.ba, .slice none 0 0, .slice (some ad) s.evs.length ce, .int .i64 s.c.q, .int .i64 s.c.a, .slice An nn cn, .int .i64 st, .int .i64 s.size]] [Sl.fact evSh (some ad) s.evs.length ce s.evs, Sl.fact byteSh A n c bs] from HK25.out.drew)
      clear HK25
      generalize w4.drew = wd at hHeld HK26 ⊢
      refine takeH 0 (v := ?v0u13) rfl (by kernel_rfl) (by kernel_rfl) (by kernel_rfl) rfl (fun _ _ _ h => h) (Or.inl ⟨by rfl, ?y0u13⟩) hHeld ?r0u13
      case y0u13 => (intro W hSW; (try dsimp only at hSW); have q0 : W.cell? ⟨ge, 0, none⟩ = some (.int .i64 e0.q) := hSW.cell 0 rfl 0; have q1 : W.cell? ⟨ge, 1, none⟩ = some (.int .i64 e0.a) := hSW.cell 0 rfl 1; have q2 : W.cell? ⟨ge, 2, none⟩ = some (.int .i64 e0.k) := hSW.cell 0 rfl 2; have q3 : W.cell? ⟨ge, 3, none⟩ = some (.string e0.cm) := hSW.cell 0 rfl 3; have q4 : W.cell? ⟨ge, 4, none⟩ = some (.int .i64 e0.x) := hSW.cell 0 rfl 4; have q5 : W.cell? ⟨ge, 5, none⟩ = some (.int .i64 e0.y) := hSW.cell 0 rfl 5; have q6 : W.cell? ⟨ge, 6, none⟩ = some (.int .i64 e0.z) := hSW.cell 0 rfl 6; go_simp; try with_reducible rfl)
      simp only [Act.put, sI, sZ, sS]
      refine wpAnyH_ready (rs := [1]) (by kernel_rfl) (by simp) ?_
      refine AllReadyH.cons rfl (fun K hK => ?_) AllReadyH.nil
      go_simp
      with_reducible refine (Check_c e0 hcme _).mono ?_
      rw [HCK.out]
      rintro e w8 ⟨rfl, hb9⟩
      have hkn := hHeld.on hb9
      clear hb9
      refine hK.out _ _ hkn (fun hHeld => ?_)
      clear hK K
      try simp only [Act.put, sI, sZ, sS]
      refine takeH 2 (v := ?v2u14) rfl (by kernel_rfl) (by kernel_rfl) (by kernel_rfl) rfl (fun _ _ _ h => h) (Or.inl ⟨by rfl, ?y2u14⟩) hHeld ?r2u14
      case y2u14 => (intro W hSW; (try dsimp only at hSW); go_simp; try with_reducible rfl)
      simp only [Act.put, sI, sZ, sS]
      refine takeH 3 (v := ?v3u15) rfl (by kernel_rfl) (by kernel_rfl) (by kernel_rfl) rfl (fun _ _ _ h => h) (Or.inl ⟨by rfl, ?y3u15⟩) hHeld ?r3u15
      case y3u15 => (intro W hSW; (try dsimp only at hSW); go_simp; try with_reducible rfl)
      simp only [Act.put, sI, sZ, sS]
      refine takeH 4 (v := ?v4u16) rfl (by kernel_rfl) (by kernel_rfl) (by kernel_rfl) rfl (fun _ _ _ h => h) (Or.inl ⟨by rfl, ?y4u16⟩) hHeld ?r4u16
      case y4u16 => (intro W hSW; (try dsimp only at hSW); have q0 : W.cell? ⟨ge, 0, none⟩ = some (.int .i64 e0.q) := hSW.cell 0 rfl 0; have q1 : W.cell? ⟨ge, 1, none⟩ = some (.int .i64 e0.a) := hSW.cell 0 rfl 1; have q2 : W.cell? ⟨ge, 2, none⟩ = some (.int .i64 e0.k) := hSW.cell 0 rfl 2; have q3 : W.cell? ⟨ge, 3, none⟩ = some (.string e0.cm) := hSW.cell 0 rfl 3; have q4 : W.cell? ⟨ge, 4, none⟩ = some (.int .i64 e0.x) := hSW.cell 0 rfl 4; have q5 : W.cell? ⟨ge, 5, none⟩ = some (.int .i64 e0.y) := hSW.cell 0 rfl 5; have q6 : W.cell? ⟨ge, 6, none⟩ = some (.int .i64 e0.z) := hSW.cell 0 rfl 6; go_simp; try with_reducible rfl)
      simp only [Act.put, sI, sZ, sS]
      refine wpAnyH_ready (rs := [5]) (by kernel_rfl) (by simp) ?_
      refine AllReadyH.cons rfl (fun K hK => ?_) AllReadyH.nil
      go_simp
      with_reducible refine (rCheck_c e0 hcme _).mono ?_
      rw [HCK.out]
      rintro e w9 ⟨rfl, hb9⟩
      have hkn := hHeld.on hb9
      clear hb9
      refine hK.out _ _ hkn (fun hHeld => ?_)
      clear hK K
      try simp only [Act.put, sI, sZ, sS]
      refine takeH 6 (v := ?v6u17) rfl (by kernel_rfl) (by kernel_rfl) (by kernel_rfl) rfl (fun _ _ _ h => h) (Or.inl ⟨by rfl, ?y6u17⟩) hHeld ?r6u17
      case y6u17 => (intro W hSW; (try dsimp only at hSW); go_simp; try with_reducible rfl)
      simp only [Act.put, sI, sZ, sS]
      refine takeH 7 (v := ?v7u18) rfl (by kernel_rfl) (by kernel_rfl) (by kernel_rfl) rfl (fun _ _ _ h => h) (Or.inl ⟨by rfl, ?y7u18⟩) hHeld ?r7u18
      case y7u18 => (intro W hSW; (try dsimp only at hSW); go_simp; try with_reducible rfl)
      simp only [Act.put, sI, sZ, sS]
      refine takeH 8 (v := ?v8u19) rfl (by kernel_rfl) (by kernel_rfl) (by kernel_rfl) rfl (fun _ _ _ h => h) (Or.inl ⟨by rfl, ?y8u19⟩) hHeld ?r8u19
      case y8u19 => (intro W hSW; (try dsimp only at hSW); go_simp; try with_reducible rfl)
      simp only [Act.put, sI, sZ, sS]
      refine takeH 9 (v := ?v9u20) rfl (by kernel_rfl) (by kernel_rfl) (by kernel_rfl) rfl (fun _ _ _ h => h) (Or.inl ⟨by rfl, ?y9u20⟩) hHeld ?r9u20
      case y9u20 => (intro W hSW; (try dsimp only at hSW); go_simp; try with_reducible rfl)
      simp only [Act.put, sI, sZ, sS]
      refine takeH 10 (v := ?v10u21) rfl (by kernel_rfl) (by kernel_rfl) (by kernel_rfl) rfl (fun _ _ _ h => h) (Or.inl ⟨by rfl, ?y10u21⟩) hHeld ?r10u21
      case y10u21 => (intro W hSW; (try dsimp only at hSW); go_simp; try with_reducible rfl)
      simp only [Act.put, sI, sZ, sS]
      refine takeH 11 (v := ?v11u22) rfl (by kernel_rfl) (by kernel_rfl) (by kernel_rfl) rfl (fun _ _ _ h => h) (Or.inl ⟨by rfl, ?y11u22⟩) hHeld ?r11u22
      case y11u22 => (intro W hSW; (try dsimp only at hSW); go_simp; try with_reducible rfl)
      simp only [Act.put, sI, sZ, sS]
      refine takeH 12 (v := ?v12u23) rfl (by kernel_rfl) (by kernel_rfl) (by kernel_rfl) rfl (fun _ _ _ h => h) (Or.inl ⟨by rfl, ?y12u23⟩) hHeld ?r12u23
      case y12u23 => (intro W hSW; (try dsimp only at hSW); go_simp; try with_reducible rfl)
      simp only [Act.put, sI, sZ, sS]
      refine takeH 13 (v := ?v13u24) rfl (by kernel_rfl) (by kernel_rfl) (by kernel_rfl) rfl (fun _ _ _ h => h) (Or.inl ⟨by rfl, ?y13u24⟩) hHeld ?r13u24
      case y13u24 => (intro W hSW; (try dsimp only at hSW); have q0 : W.cell? ⟨ge, 0, none⟩ = some (.int .i64 e0.q) := hSW.cell 0 rfl 0; go_simp; try with_reducible rfl)
      simp only [Act.put, sI, sZ, sS]
      refine takeH 14 (v := ?v14u25) rfl (by kernel_rfl) (by kernel_rfl) (by kernel_rfl) rfl (fun _ _ _ h => h) (Or.inl ⟨by rfl, ?y14u25⟩) hHeld ?r14u25
      case y14u25 => (intro W hSW; (try dsimp only at hSW); go_simp; try with_reducible rfl)
      simp only [Act.put, sI, sZ, sS]
      refine takeH 15 (v := ?v15u26) rfl (by kernel_rfl) (by kernel_rfl) (by kernel_rfl) rfl (fun _ _ _ h => h) (Or.inl ⟨by rfl, ?y15u26⟩) hHeld ?r15u26
      case y15u26 => (intro W hSW; (try dsimp only at hSW); have q4 : W.cell? ⟨gs, 4, none⟩ = some (.slice (some ad) s.evs.length ce) := hSW.cell 1 rfl 4; go_simp; try with_reducible rfl)
      simp only [Act.put, sI, sZ, sS]
      refine takeH 16 (v := ?v16u27) rfl (by kernel_rfl) (by kernel_rfl) (by kernel_rfl) rfl (fun _ _ _ h => h) (Or.inl ⟨by rfl, ?y16u27⟩) hHeld ?r16u27
      case y16u27 => (intro W hSW; (try dsimp only at hSW); go_simp; try with_reducible rfl)
      simp only [Act.put, sI, sZ, sS]
      refine takeH 17 (v := ?v17u28) rfl (by kernel_rfl) (by kernel_rfl) (by kernel_rfl) rfl (fun _ _ _ h => h) (Or.inl ⟨by rfl, ?y17u28⟩) hHeld ?r17u28
      case y17u28 => (intro W hSW; (try dsimp only at hSW); go_simp; try with_reducible rfl)
      simp only [Act.put, sI, sZ, sS]
      refine takeH 18 (v := ?v18u29) rfl (by kernel_rfl) (by kernel_rfl) (by kernel_rfl) rfl (fun _ _ _ h => h) (Or.inl ⟨by rfl, ?y18u29⟩) hHeld ?r18u29
      case y18u29 => (intro W hSW; (try dsimp only at hSW); go_simp; try with_reducible rfl)
      simp only [Act.put, sI, sZ, sS]
      refine takeH 19 (v := ?v19u30) rfl (by kernel_rfl) (by kernel_rfl) (by kernel_rfl) rfl (fun _ _ _ h => h) (Or.inl ⟨by rfl, ?y19u30⟩) hHeld ?r19u30
      case y19u30 => (intro W hSW; (try dsimp only at hSW); go_simp; try with_reducible rfl)
      simp only [Act.put, sI, sZ, sS]
      refine takeH 20 (v := ?v20u31) rfl (by kernel_rfl) (by kernel_rfl) (by kernel_rfl) rfl (fun _ _ _ h => h) (Or.inl ⟨by rfl, ?y20u31⟩) hHeld ?r20u31
      case y20u31 => (intro W hSW; (try dsimp only at hSW); obtain ⟨_, hAA, _, _, _, z0, z1, -⟩ := ev_at (hSW.sl 0 rfl) HH1.out; cases hAA; go_simp; try with_reducible rfl)
      simp only [Act.put, sI, sZ, sS]
      refine takeH 21 (v := ?v21u32) rfl (by kernel_rfl) (by kernel_rfl) (by kernel_rfl) rfl (fun _ _ _ h => h) (Or.inl ⟨by rfl, ?y21u32⟩) hHeld ?r21u32
      case y21u32 => (intro W hSW; (try dsimp only at hSW); go_simp; try with_reducible rfl)
      simp only [Act.put, sI, sZ, sS]
      refine takeH 22 (v := ?v22u33) rfl (by kernel_rfl) (by kernel_rfl) (by kernel_rfl) rfl (fun _ _ _ h => h) (Or.inl ⟨by rfl, ?y22u33⟩) hHeld ?r22u33
      case y22u33 => (intro W hSW; (try dsimp only at hSW); go_simp; try with_reducible rfl)
      simp only [Act.put, sI, sZ, sS]
      refine takeH 23 (v := ?v23u34) rfl (by kernel_rfl) (by kernel_rfl) (by kernel_rfl) rfl (fun _ _ _ h => h) (Or.inl ⟨by rfl, ?y23u34⟩) hHeld ?r23u34
      case y23u34 => (intro W hSW; (try dsimp only at hSW); go_simp; try with_reducible rfl)
      simp only [Act.put, sI, sZ, sS]
      refine takeH 24 (v := ?v24u35) rfl (by kernel_rfl) (by kernel_rfl) (by kernel_rfl) rfl (fun _ _ _ h => h) (Or.inl ⟨by rfl, ?y24u35⟩) hHeld ?r24u35
      case y24u35 => (intro W hSW; (try dsimp only at hSW); have q1 : W.cell? ⟨ge, 1, none⟩ = some (.int .i64 e0.a) := hSW.cell 0 rfl 1; go_simp; try with_reducible rfl)
      simp only [Act.put, sI, sZ, sS]
      refine takeH 25 (v := ?v25u36) rfl (by kernel_rfl) (by kernel_rfl) (by kernel_rfl) rfl (fun _ _ _ h => h) (Or.inl ⟨by rfl, ?y25u36⟩) hHeld ?r25u36
      case y25u36 => (intro W hSW; (try dsimp only at hSW); go_simp; try with_reducible rfl)
      simp only [Act.put, sI, sZ, sS]
      refine takeH 26 (v := ?v26u37) rfl (by kernel_rfl) (by kernel_rfl) (by kernel_rfl) rfl (fun _ _ _ h => h) (Or.inl ⟨by rfl, ?y26u37⟩) hHeld ?r26u37
      case y26u37 => (intro W hSW; (try dsimp only at hSW); have q4 : W.cell? ⟨gs, 4, none⟩ = some (.slice (some ad) s.evs.length ce) := hSW.cell 1 rfl 4; go_simp; try with_reducible rfl)
      simp only [Act.put, sI, sZ, sS]
      refine takeH 27 (v := ?v27u38) rfl (by kernel_rfl) (by kernel_rfl) (by kernel_rfl) rfl (fun _ _ _ h => h) (Or.inl ⟨by rfl, ?y27u38⟩) hHeld ?r27u38
      case y27u38 => (intro W hSW; (try dsimp only at hSW); go_simp; try with_reducible rfl)
      simp only [Act.put, sI, sZ, sS]
      refine takeH 28 (v := ?v28u39) rfl (by kernel_rfl) (by kernel_rfl) (by kernel_rfl) rfl (fun _ _ _ h => h) (Or.inl ⟨by rfl, ?y28u39⟩) hHeld ?r28u39
      case y28u39 => (intro W hSW; (try dsimp only at hSW); go_simp; try with_reducible rfl)
      simp only [Act.put, sI, sZ, sS]
      refine takeH 29 (v := ?v29u40) rfl (by kernel_rfl) (by kernel_rfl) (by kernel_rfl) rfl (fun _ _ _ h => h) (Or.inl ⟨by rfl, ?y29u40⟩) hHeld ?r29u40
      case y29u40 => (intro W hSW; (try dsimp only at hSW); go_simp; try with_reducible rfl)
      simp only [Act.put, sI, sZ, sS]
      refine takeH 30 (v := ?v30u41) rfl (by kernel_rfl) (by kernel_rfl) (by kernel_rfl) rfl (fun _ _ _ h => h) (Or.inl ⟨by rfl, ?y30u41⟩) hHeld ?r30u41
      case y30u41 => (intro W hSW; (try dsimp only at hSW); go_simp; try with_reducible rfl)
      simp only [Act.put, sI, sZ, sS]
      refine takeH 31 (v := ?v31u42) rfl (by kernel_rfl) (by kernel_rfl) (by kernel_rfl) rfl (fun _ _ _ h => h) (Or.inl ⟨by rfl, ?y31u42⟩) hHeld ?r31u42
      case y31u42 => (intro W hSW; (try dsimp only at hSW); obtain ⟨_, hAA, _, _, _, z0, z1, -⟩ := ev_at (hSW.sl 0 rfl) HH1.out; cases hAA; go_simp; try with_reducible rfl)
      simp only [Act.put, sI, sZ, sS]
      refine takeH 32 (v := ?v32u43) rfl (by kernel_rfl) (by kernel_rfl) (by kernel_rfl) rfl (fun _ _ _ h => h) (Or.inl ⟨by rfl, ?y32u43⟩) hHeld ?r32u43
      case y32u43 => (intro W hSW; (try dsimp only at hSW); go_simp; try with_reducible rfl)
      simp only [Act.put, sI, sZ, sS]
      refine takeH 33 (v := ?v33u44) rfl (by kernel_rfl) (by kernel_rfl) (by kernel_rfl) rfl (fun _ _ _ h => h) (Or.inl ⟨by rfl, ?y33u44⟩) hHeld ?r33u44
      case y33u44 => (intro W hSW; (try dsimp only at hSW); go_simp; try with_reducible rfl)
      simp only [Act.put, sI, sZ, sS]
      refine takeH 34 (v := ?v34u45) rfl (by kernel_rfl) (by kernel_rfl) (by kernel_rfl) rfl (fun _ _ _ h => h) (Or.inl ⟨by rfl, ?y34u45⟩) hHeld ?r34u45
      case y34u45 => (intro W hSW; (try dsimp only at hSW); go_simp; try with_reducible rfl)
      simp only [Act.put, sI, sZ, sS]
      refine takeH 35 (v := ?v35u46) rfl (by kernel_rfl) (by kernel_rfl) (by kernel_rfl) rfl (fun _ _ _ h => h) (Or.inl ⟨by rfl, ?y35u46⟩) hHeld ?r35u46
      case y35u46 => (intro W hSW; (try dsimp only at hSW); go_simp; try with_reducible rfl)
      simp only [Act.put, sI, sZ, sS]
      refine wpAnyH_done (by kernel_rfl) ?_ _
      refine NoPanic.normal ?_
      have HKr := Lib.hid hHeld
      clear hHeld HK26
      have HK27 := Lib.hid (show Held w [] [] w9 [.box (gs) 54 #[.int .i64 s.num, .int .i64 s.bq, .int .i64 s.ba, .slice none 0 0, .slice (some ad) s.evs.length ce, .int .i64 s.c.q, .int .i64 s.c.a, .slice An nn cn, .int .i64 st, .int .i64 s.size]] [Sl.fact evSh (some ad) s.evs.length ce s.evs, Sl.fact byteSh A n c bs] from (HKr.out.drop (List.Sublist.cons _ (List.Sublist.cons_cons _ List.Sublist.slnil))))
      clear HKr
      go_wp2
      exact ⟨⟨(j + 1) + 1, by omega, by simp, HK27⟩, by simp [intOf]; omega⟩
    · skip
      obtain rfl : k = s.evs.length := by omega
      have d1 : decide ((s.evs.length : Int) < (s.evs.length : Int)) = false := by simp
      have c_s_0_15 : wr.cell? ⟨gs, 0, none⟩ = some (.int .i64 s.num) := HKl.out.cell 0 rfl 0
      have c_s_1_16 : wr.cell? ⟨gs, 1, none⟩ = some (.int .i64 s.bq) := HKl.out.cell 0 rfl 1
      have c_s_2_17 : wr.cell? ⟨gs, 2, none⟩ = some (.int .i64 s.ba) := HKl.out.cell 0 rfl 2
      have c_s_3_18 : wr.cell? ⟨gs, 3, none⟩ = some (.slice none 0 0) := HKl.out.cell 0 rfl 3
      have c_s_4_19 : wr.cell? ⟨gs, 4, none⟩ = some (.slice Ae s.evs.length ce) := HKl.out.cell 0 rfl 4
      have c_s_5_20 : wr.cell? ⟨gs, 5, none⟩ = some (.int .i64 s.c.q) := HKl.out.cell 0 rfl 5
      have c_s_6_21 : wr.cell? ⟨gs, 6, none⟩ = some (.int .i64 s.c.a) := HKl.out.cell 0 rfl 6
      have c_s_7_22 : wr.cell? ⟨gs, 7, none⟩ = some (.slice An nn cn) := HKl.out.cell 0 rfl 7
      have c_s_8_23 : wr.cell? ⟨gs, 8, none⟩ = some (.int .i64 st) := HKl.out.cell 0 rfl 8
      have c_s_9_24 : wr.cell? ⟨gs, 9, none⟩ = some (.int .i64 s.size) := HKl.out.cell 0 rfl 9
      by_cases hm : 0 < s.num ∧ (st = 1 ∨ st = 4)
      · skip
        obtain ⟨hnum, hst⟩ := hm
        obtain ⟨m1, m2, m3, m4⟩ := HSA.out.make hnum hst
        have dn : decide (0 < s.num) = true := by simp; omega
        have hmany : s.evs.length ≤ 100000 := by have := HSA.out.many; have := HSL.out; omega
        have HM4 := Lib.hid m4
        clear m4
        rcases hst with rfl | rfl
        · skip
          go_wp2_with fail
          with_reducible refine (Make_s s.num s.bq s.ba s.evs false Ae s.evs.length ce _ wr HKl.out.xok' (HKl.out.sl 0 rfl) m1 m2 m3 hmany).mono ?_
          rw [show makeR s.num ⟨s.bq, s.ba, []⟩ s.evs false = bs from HM4.out]
          rintro e w5 ⟨A3, c3, rfl, hsb, hb⟩
          clear c_s_0_15 c_s_1_16 c_s_2_17 c_s_3_18 c_s_4_19 c_s_5_20 c_s_6_21 c_s_7_22 c_s_8_23 c_s_9_24
          have HK25 := Lib.hid (show Held w [] [] w5 [.box (gs) 54 #[.int .i64 s.num, .int .i64 s.bq, .int .i64 s.ba, .slice none 0 0, .slice Ae s.evs.length ce, .int .i64 s.c.q, .int .i64 s.c.a, .slice An nn cn, .int .i64 1, .int .i64 s.size]] [Sl.fact byteSh A3 bs.length c3 bs, Sl.fact evSh Ae s.evs.length ce s.evs, Sl.fact byteSh A n c bs] from ((HKl.out.on hb).know (Sl.fact byteSh A3 bs.length c3 bs) hsb))
          clear HKl
          clear hb
          clear hsb
          have kc1 := conv_reads ((HK25.out.sl 0 rfl).bytes) c3
          have kc2 := conv_reads ((HK25.out.sl 2 rfl).bytes) c
          have c_s_0_26 : w5.cell? ⟨gs, 0, none⟩ = some (.int .i64 s.num) := HK25.out.cell 0 rfl 0
          have c_s_1_27 : w5.cell? ⟨gs, 1, none⟩ = some (.int .i64 s.bq) := HK25.out.cell 0 rfl 1
          have c_s_2_28 : w5.cell? ⟨gs, 2, none⟩ = some (.int .i64 s.ba) := HK25.out.cell 0 rfl 2
          have c_s_3_29 : w5.cell? ⟨gs, 3, none⟩ = some (.slice none 0 0) := HK25.out.cell 0 rfl 3
          have c_s_4_30 : w5.cell? ⟨gs, 4, none⟩ = some (.slice Ae s.evs.length ce) := HK25.out.cell 0 rfl 4
          have c_s_5_31 : w5.cell? ⟨gs, 5, none⟩ = some (.int .i64 s.c.q) := HK25.out.cell 0 rfl 5
          have c_s_6_32 : w5.cell? ⟨gs, 6, none⟩ = some (.int .i64 s.c.a) := HK25.out.cell 0 rfl 6
          have c_s_7_33 : w5.cell? ⟨gs, 7, none⟩ = some (.slice An nn cn) := HK25.out.cell 0 rfl 7
          have c_s_8_34 : w5.cell? ⟨gs, 8, none⟩ = some (.int .i64 1) := HK25.out.cell 0 rfl 8
          have c_s_9_35 : w5.cell? ⟨gs, 9, none⟩ = some (.int .i64 s.size) := HK25.out.cell 0 rfl 9
          go_upto_region 18 with (fail)
          clear c_s_0_26 c_s_1_27 c_s_2_28 c_s_3_29 c_s_4_30 c_s_5_31 c_s_6_32 c_s_7_33 c_s_8_34 c_s_9_35
          clear kc1 kc2
          go_upto_region 19 with (fail)
          obtain ⟨kk, hkk, hkn⟩ : ∃ kk : Nat, cut % ((n : Int) + 1) = (kk : Int) ∧ kk ≤ n := ⟨_, (Int.toNat_of_nonneg (Int.emod_nonneg _ (by omega))).symm, by have := Int.emod_lt_of_pos cut (show (0 : Int) < (n : Int) + 1 by omega); omega⟩
          rw [hkk]
          clear hkk
          have hkc : kk ≤ c := Nat.le_trans hkn HCL.out
          have HHT := Lib.hid (scanned (bs.take kk))
          obtain ⟨ct1, ct2⟩ := (HCUT kk (by have := HSL.out; omega)).out
          have hsz2 := HK25.out.size
          have HSP := Lib.hid (show Reads w5 w5.heap.size 1 A kk (byteCells (bs.take kk)) from ((HK25.out.sl 2 rfl).pre hkn).bytes)
          clear HCUT
          go_wp2_with fail
          with_reducible refine (Read_s A kk c w5.heap.size (bs.take kk) _ w5 HK25.out.xok' HSP.out (Nat.le_refl _) hkc (by have := HCM.out; unfold maxLen at this; omega) (by omega)).mono ?_
          clear HSP
          generalize hsc2 : scanF (bs.take kk) scn0 = R2 at HHT ct1 ct2 ⊢
          clear hsc2
          obtain ⟨t, tt⟩ := R2
          rintro e w6 ⟨hb, ve2, An2, nn2, cn2, rfl, hown, hns, -, hvx⟩
          simp only at HHT ct1 ct2
          have HC1 := Lib.hid ct1
          clear ct1
          obtain ⟨Ae2, ce2, rfl, hse⟩ := Sl.of_own (s := evSh) hown hvx (repAll_ev _ (fun e he => okE_of (HHT.out.chk e he))) (by decide)
          clear hown hvx hns
          have HK36 := Lib.hid (show Held w [] [] w6 [.box (gs) 54 #[.int .i64 s.num, .int .i64 s.bq, .int .i64 s.ba, .slice none 0 0, .slice Ae s.evs.length ce, .int .i64 s.c.q, .int .i64 s.c.a, .slice An nn cn, .int .i64 1, .int .i64 s.size]] [Sl.fact evSh Ae2 t.evs.length ce2 t.evs, Sl.fact byteSh A3 bs.length c3 bs, Sl.fact evSh Ae s.evs.length ce s.evs, Sl.fact byteSh A n c bs] from ((HK25.out.on hb).know (Sl.fact evSh Ae2 t.evs.length ce2 t.evs) hse))
          clear HK25
          clear hb
          clear hse
          have HK37 := Lib.hid (show Held w [] [] (w6.alloc (.cells #[.int .i64 t.num, .int .i64 t.bq, .int .i64 t.ba, .slice none 0 0, .slice Ae2 t.evs.length ce2, .int .i64 t.c.q, .int .i64 t.c.a, .slice An2 nn2 cn2, .int .i64 tt, .int .i64 t.size] 54)) [.box (w6.heap.size) 54 #[.int .i64 t.num, .int .i64 t.bq, .int .i64 t.ba, .slice none 0 0, .slice Ae2 t.evs.length ce2, .int .i64 t.c.q, .int .i64 t.c.a, .slice An2 nn2 cn2, .int .i64 tt, .int .i64 t.size], .box (gs) 54 #[.int .i64 s.num, .int .i64 s.bq, .int .i64 s.ba, .slice none 0 0, .slice Ae s.evs.length ce, .int .i64 s.c.q, .int .i64 s.c.a, .slice An nn cn, .int .i64 1, .int .i64 s.size]] [Sl.fact evSh Ae2 t.evs.length ce2 t.evs, Sl.fact byteSh A3 bs.length c3 bs, Sl.fact evSh Ae s.evs.length ce s.evs, Sl.fact byteSh A n c bs] from HK36.out.alloc_at 54 #[.int .i64 t.num, .int .i64 t.bq, .int .i64 t.ba, .slice none 0 0, .slice Ae2 t.evs.length ce2, .int .i64 t.c.q, .int .i64 t.c.a, .slice An2 nn2 cn2, .int .i64 tt, .int .i64 t.size] (w6.heap.size) (by simp))
          clear HK36
          go_upto_region 20 with (fail)
          generalize w6.alloc (.cells #[.int .i64 t.num, .int .i64 t.bq, .int .i64 t.ba, .slice none 0 0, .slice Ae2 t.evs.length ce2, .int .i64 t.c.q, .int .i64 t.c.a, .slice An2 nn2 cn2, .int .i64 tt, .int .i64 t.size] 54) = w7 at HK37 ⊢
          generalize w6.heap.size = gt at HK37 ⊢
          have htl : t.evs.length ≤ s.evs.length := by have := congrArg List.length HC1.out; rw [List.length_take] at this; omega
          have htm : t.evs.length ≤ 100000 := by have := HSA.out.many; have := HSL.out; omega
          have dg : decide (s.evs.length < t.evs.length) = false := by simp; omega
          have hec : s.evs.length ≤ ce := (HK37.out.sl 2 rfl).le
          have hte : t.evs.length ≤ ce := Nat.le_trans htl hec
          refine wp_region_noPanic ?_
          refine wp_region_held_drew (S := fun W' => Held w [] [] W' [.box (gt) 54 #[.int .i64 t.num, .int .i64 t.bq, .int .i64 t.ba, .slice none 0 0, .slice Ae2 t.evs.length ce2, .int .i64 t.c.q, .int .i64 t.c.a, .slice An2 nn2 cn2, .int .i64 tt, .int .i64 t.size], .box (gs) 54 #[.int .i64 s.num, .int .i64 s.bq, .int .i64 s.ba, .slice none 0 0, .slice Ae s.evs.length ce, .int .i64 s.c.q, .int .i64 s.c.a, .slice An nn cn, .int .i64 1, .int .i64 s.size]] [Sl.fact evSh Ae2 t.evs.length ce2 t.evs, Sl.fact byteSh A3 bs.length c3 bs, Sl.fact evSh Ae s.evs.length ce s.evs, Sl.fact byteSh A n c bs]) (by kernel_rfl) HK37.out.drew (fun hHeld => ?_)
          have HK38 := Lib.hid (show Held w [] [] w7.drew [.box (gt) 54 #[.int .i64 t.num, .int .i64 t.bq, .int .i64 t.ba, .slice none 0 0, .slice Ae2 t.evs.length ce2, .int .i64 t.c.q, .int .i64 t.c.a, .slice An2 nn2 cn2, .int .i64 tt, .int .i64 t.size], .box (gs) 54 #[.int .i64 s.num, .int .i64 s.bq, .int .i64 s.ba, .slice none 0 0, .slice Ae s.evs.length ce, .int .i64 s.c.q, .int .i64 s.c.a, .slice An nn cn, .int .i64 1, .int .i64 s.size]] [Sl.fact evSh Ae2 t.evs.length ce2 t.evs, Sl.fact byteSh A3 bs.length c3 bs, Sl.fact evSh Ae s.evs.length ce s.evs, Sl.fact byteSh A n c bs] from HK37.out.drew)
          clear HK37
          generalize w7.drew = wd at hHeld HK38 ⊢
          refine takeH 0 (v := ?v0u47) rfl (by kernel_rfl) (by kernel_rfl) (by kernel_rfl) rfl (fun _ _ _ h => h) (Or.inl ⟨by rfl, ?y0u47⟩) hHeld ?r0u47
          case y0u47 => (intro W hSW; (try dsimp only at hSW); go_simp; try with_reducible rfl)
          simp only [Act.put, sI, sZ, sS]
          refine takeH 1 (v := ?v1u48) rfl (by kernel_rfl) (by kernel_rfl) (by kernel_rfl) rfl (fun _ _ _ h => h) (Or.inl ⟨by rfl, ?y1u48⟩) hHeld ?r1u48
          case y1u48 => (intro W hSW; (try dsimp only at hSW); have q4 : W.cell? ⟨gt, 4, none⟩ = some (.slice Ae2 t.evs.length ce2) := hSW.cell 0 rfl 4; go_simp; try with_reducible rfl)
          simp only [Act.put, sI, sZ, sS]
          refine takeH 2 (v := ?v2u49) rfl (by kernel_rfl) (by kernel_rfl) (by kernel_rfl) rfl (fun _ _ _ h => h) (Or.inl ⟨by rfl, ?y2u49⟩) hHeld ?r2u49
          case y2u49 => (intro W hSW; (try dsimp only at hSW); go_simp; try with_reducible rfl)
          simp only [Act.put, sI, sZ, sS]
          refine takeH 3 (v := ?v3u50) rfl (by kernel_rfl) (by kernel_rfl) (by kernel_rfl) rfl (fun _ _ _ h => h) (Or.inl ⟨by rfl, ?y3u50⟩) hHeld ?r3u50
          case y3u50 => (intro W hSW; (try dsimp only at hSW); go_simp; try with_reducible rfl)
          simp only [Act.put, sI, sZ, sS]
          refine takeH 4 (v := ?v4u51) rfl (by kernel_rfl) (by kernel_rfl) (by kernel_rfl) rfl (fun _ _ _ h => h) (Or.inl ⟨by rfl, ?y4u51⟩) hHeld ?r4u51
          case y4u51 => (intro W hSW; (try dsimp only at hSW); have q4 : W.cell? ⟨gs, 4, none⟩ = some (.slice Ae s.evs.length ce) := hSW.cell 1 rfl 4; go_simp; try with_reducible rfl)
          simp only [Act.put, sI, sZ, sS]
          refine takeH 5 (v := ?v5u52) rfl (by kernel_rfl) (by kernel_rfl) (by kernel_rfl) rfl (fun _ _ _ h => h) (Or.inl ⟨by rfl, ?y5u52⟩) hHeld ?r5u52
          case y5u52 => (intro W hSW; (try dsimp only at hSW); go_simp; try with_reducible rfl)
          simp only [Act.put, sI, sZ, sS]
          refine takeH 6 (v := ?v6u53) rfl (by kernel_rfl) (by kernel_rfl) (by kernel_rfl) rfl (fun _ _ _ h => h) (Or.inl ⟨by rfl, ?y6u53⟩) hHeld ?r6u53
          case y6u53 => (intro W hSW; (try dsimp only at hSW); go_simp; try with_reducible rfl)
          simp only [Act.put, sI, sZ, sS]
          refine takeH 7 (v := ?v7u54) rfl (by kernel_rfl) (by kernel_rfl) (by kernel_rfl) rfl (fun _ _ _ h => h) (Or.inl ⟨by rfl, ?y7u54⟩) hHeld ?r7u54
          case y7u54 => (intro W hSW; (try dsimp only at hSW); go_simp; try with_reducible rfl)
          simp only [Act.put, sI, sZ, sS]
          refine takeH 8 (v := ?v8u55) rfl (by kernel_rfl) (by kernel_rfl) (by kernel_rfl) rfl (fun _ _ _ h => h) (Or.inl ⟨by rfl, ?y8u55⟩) hHeld ?r8u55
          case y8u55 => (intro W hSW; (try dsimp only at hSW); go_simp; try with_reducible rfl)
          simp only [Act.put, sI, sZ, sS]
          refine takeH 9 (v := ?v9u56) rfl (by kernel_rfl) (by kernel_rfl) (by kernel_rfl) rfl (fun _ _ _ h => h) (Or.inl ⟨by rfl, ?y9u56⟩) hHeld ?r9u56
          case y9u56 => (intro W hSW; (try dsimp only at hSW); have q4 : W.cell? ⟨gt, 4, none⟩ = some (.slice Ae2 t.evs.length ce2) := hSW.cell 0 rfl 4; go_simp; try with_reducible rfl)
          simp only [Act.put, sI, sZ, sS]
          refine takeH 10 (v := ?v10u57) rfl (by kernel_rfl) (by kernel_rfl) (by kernel_rfl) rfl (fun _ _ _ h => h) (Or.inl ⟨by rfl, ?y10u57⟩) hHeld ?r10u57
          case y10u57 => (intro W hSW; (try dsimp only at hSW); go_simp; try with_reducible rfl)
          simp only [Act.put, sI, sZ, sS]
          refine takeH 11 (v := ?v11u58) rfl (by kernel_rfl) (by kernel_rfl) (by kernel_rfl) rfl (fun _ _ _ h => h) (Or.inl ⟨by rfl, ?y11u58⟩) hHeld ?r11u58
          case y11u58 => (intro W hSW; (try dsimp only at hSW); have q4 : W.cell? ⟨gs, 4, none⟩ = some (.slice Ae s.evs.length ce) := hSW.cell 1 rfl 4; go_simp; try with_reducible rfl)
          simp only [Act.put, sI, sZ, sS]
          refine takeH 12 (v := ?v12u59) rfl (by kernel_rfl) (by kernel_rfl) (by kernel_rfl) rfl (fun _ _ _ h => h) (Or.inl ⟨by rfl, ?y12u59⟩) hHeld ?r12u59
          case y12u59 => (intro W hSW; (try dsimp only at hSW); go_simp; try with_reducible rfl)
          simp only [Act.put, sI, sZ, sS]
          refine takeH 13 (v := ?v13u60) rfl (by kernel_rfl) (by kernel_rfl) (by kernel_rfl) rfl (fun _ _ _ h => h) (Or.inl ⟨by rfl, ?y13u60⟩) hHeld ?r13u60
          case y13u60 => (intro W hSW; (try dsimp only at hSW); have q4 : W.cell? ⟨gt, 4, none⟩ = some (.slice Ae2 t.evs.length ce2) := hSW.cell 0 rfl 4; go_simp; try with_reducible rfl)
          simp only [Act.put, sI, sZ, sS]
          refine takeH 14 (v := ?v14u61) rfl (by kernel_rfl) (by kernel_rfl) (by kernel_rfl) rfl (fun _ _ _ h => h) (Or.inl ⟨by rfl, ?y14u61⟩) hHeld ?r14u61
          case y14u61 => (intro W hSW; (try dsimp only at hSW); go_simp; try with_reducible rfl)
          simp only [Act.put, sI, sZ, sS]
          refine takeH 15 (v := ?v15u62) rfl (by kernel_rfl) (by kernel_rfl) (by kernel_rfl) rfl (fun _ _ _ h => h) (Or.inl ⟨by rfl, ?y15u62⟩) hHeld ?r15u62
          case y15u62 => (intro W hSW; (try dsimp only at hSW); go_simp; try with_reducible rfl)
          simp only [Act.put, sI, sZ, sS]
          refine wpAnyH_ready (rs := [16]) (by kernel_rfl) (by simp) ?_
          refine AllReadyH.cons rfl (fun K hK => ?_) AllReadyH.nil
          go_simp
          with_reducible refine (EvSame_c Ae2 t.evs.length ce2 _ t.evs Ae t.evs.length ce (s.evs.take t.evs.length) _ (hHeld.sl 0 rfl).evr ((hHeld.sl 2 rfl).pre htl).evr (Nat.le_refl _) (by omega) (by omega)).mono ?_
          rintro e w8 ⟨r, rfl, hre, hb9⟩
          obtain rfl : r = true := hre.2 HC1.out
          have hkn := hHeld.on hb9
          clear hb9 hre
          refine hK.out _ _ hkn (fun hHeld => ?_)
          clear hK K
          try simp only [Act.put, sI, sZ, sS]
          refine takeH 17 (v := ?v17u63) rfl (by kernel_rfl) (by kernel_rfl) (by kernel_rfl) rfl (fun _ _ _ h => h) (Or.inl ⟨by rfl, ?y17u63⟩) hHeld ?r17u63
          case y17u63 => (intro W hSW; (try dsimp only at hSW); go_simp; try with_reducible rfl)
          simp only [Act.put, sI, sZ, sS]
          refine takeH 18 (v := ?v18u64) rfl (by kernel_rfl) (by kernel_rfl) (by kernel_rfl) rfl (fun _ _ _ h => h) (Or.inl ⟨by rfl, ?y18u64⟩) hHeld ?r18u64
          case y18u64 => (intro W hSW; (try dsimp only at hSW); go_simp; try with_reducible rfl)
          simp only [Act.put, sI, sZ, sS]
          refine wpAnyH_done (by kernel_rfl) ?_ _
          refine NoPanic.normal ?_
          have HKt := Lib.hid hHeld
          clear hHeld HK38
          have c_s_0_39 : w8.cell? ⟨gs, 0, none⟩ = some (.int .i64 s.num) := HKt.out.cell 1 rfl 0
          have c_s_1_40 : w8.cell? ⟨gs, 1, none⟩ = some (.int .i64 s.bq) := HKt.out.cell 1 rfl 1
          have c_s_2_41 : w8.cell? ⟨gs, 2, none⟩ = some (.int .i64 s.ba) := HKt.out.cell 1 rfl 2
          have c_s_3_42 : w8.cell? ⟨gs, 3, none⟩ = some (.slice none 0 0) := HKt.out.cell 1 rfl 3
          have c_s_4_43 : w8.cell? ⟨gs, 4, none⟩ = some (.slice Ae s.evs.length ce) := HKt.out.cell 1 rfl 4
          have c_s_5_44 : w8.cell? ⟨gs, 5, none⟩ = some (.int .i64 s.c.q) := HKt.out.cell 1 rfl 5
          have c_s_6_45 : w8.cell? ⟨gs, 6, none⟩ = some (.int .i64 s.c.a) := HKt.out.cell 1 rfl 6
          have c_s_7_46 : w8.cell? ⟨gs, 7, none⟩ = some (.slice An nn cn) := HKt.out.cell 1 rfl 7
          have c_s_8_47 : w8.cell? ⟨gs, 8, none⟩ = some (.int .i64 1) := HKt.out.cell 1 rfl 8
          have c_s_9_48 : w8.cell? ⟨gs, 9, none⟩ = some (.int .i64 s.size) := HKt.out.cell 1 rfl 9
          have c_t_0_49 : w8.cell? ⟨gt, 0, none⟩ = some (.int .i64 t.num) := HKt.out.cell 0 rfl 0
          have c_t_1_50 : w8.cell? ⟨gt, 1, none⟩ = some (.int .i64 t.bq) := HKt.out.cell 0 rfl 1
          have c_t_2_51 : w8.cell? ⟨gt, 2, none⟩ = some (.int .i64 t.ba) := HKt.out.cell 0 rfl 2
          have c_t_3_52 : w8.cell? ⟨gt, 3, none⟩ = some (.slice none 0 0) := HKt.out.cell 0 rfl 3
          have c_t_4_53 : w8.cell? ⟨gt, 4, none⟩ = some (.slice Ae2 t.evs.length ce2) := HKt.out.cell 0 rfl 4
          have c_t_5_54 : w8.cell? ⟨gt, 5, none⟩ = some (.int .i64 t.c.q) := HKt.out.cell 0 rfl 5
          have c_t_6_55 : w8.cell? ⟨gt, 6, none⟩ = some (.int .i64 t.c.a) := HKt.out.cell 0 rfl 6
          have c_t_7_56 : w8.cell? ⟨gt, 7, none⟩ = some (.slice An2 nn2 cn2) := HKt.out.cell 0 rfl 7
          have c_t_8_57 : w8.cell? ⟨gt, 8, none⟩ = some (.int .i64 tt) := HKt.out.cell 0 rfl 8
          have c_t_9_58 : w8.cell? ⟨gt, 9, none⟩ = some (.int .i64 t.size) := HKt.out.cell 0 rfl 9
          have dt : (tt != 3) = true := by rw [bne_iff_ne]; exact ct2 (by decide)
          go_wp2
          go_ret
          exact ⟨rfl, HKt.out.below⟩
        · skip
          go_wp2_with fail
          with_reducible refine (Make_s s.num s.bq s.ba s.evs true Ae s.evs.length ce _ wr HKl.out.xok' (HKl.out.sl 0 rfl) m1 m2 m3 hmany).mono ?_
          rw [show makeR s.num ⟨s.bq, s.ba, []⟩ s.evs true = bs from HM4.out]
          rintro e w5 ⟨A3, c3, rfl, hsb, hb⟩
          clear c_s_0_15 c_s_1_16 c_s_2_17 c_s_3_18 c_s_4_19 c_s_5_20 c_s_6_21 c_s_7_22 c_s_8_23 c_s_9_24
          have HK25 := Lib.hid (show Held w [] [] w5 [.box (gs) 54 #[.int .i64 s.num, .int .i64 s.bq, .int .i64 s.ba, .slice none 0 0, .slice Ae s.evs.length ce, .int .i64 s.c.q, .int .i64 s.c.a, .slice An nn cn, .int .i64 4, .int .i64 s.size]] [Sl.fact byteSh A3 bs.length c3 bs, Sl.fact evSh Ae s.evs.length ce s.evs, Sl.fact byteSh A n c bs] from ((HKl.out.on hb).know (Sl.fact byteSh A3 bs.length c3 bs) hsb))
          clear HKl
          clear hb
          clear hsb
          have kc1 := conv_reads ((HK25.out.sl 0 rfl).bytes) c3
          have kc2 := conv_reads ((HK25.out.sl 2 rfl).bytes) c
          have c_s_0_26 : w5.cell? ⟨gs, 0, none⟩ = some (.int .i64 s.num) := HK25.out.cell 0 rfl 0
          have c_s_1_27 : w5.cell? ⟨gs, 1, none⟩ = some (.int .i64 s.bq) := HK25.out.cell 0 rfl 1
          have c_s_2_28 : w5.cell? ⟨gs, 2, none⟩ = some (.int .i64 s.ba) := HK25.out.cell 0 rfl 2
          have c_s_3_29 : w5.cell? ⟨gs, 3, none⟩ = some (.slice none 0 0) := HK25.out.cell 0 rfl 3
          have c_s_4_30 : w5.cell? ⟨gs, 4, none⟩ = some (.slice Ae s.evs.length ce) := HK25.out.cell 0 rfl 4
          have c_s_5_31 : w5.cell? ⟨gs, 5, none⟩ = some (.int .i64 s.c.q) := HK25.out.cell 0 rfl 5
          have c_s_6_32 : w5.cell? ⟨gs, 6, none⟩ = some (.int .i64 s.c.a) := HK25.out.cell 0 rfl 6
          have c_s_7_33 : w5.cell? ⟨gs, 7, none⟩ = some (.slice An nn cn) := HK25.out.cell 0 rfl 7
          have c_s_8_34 : w5.cell? ⟨gs, 8, none⟩ = some (.int .i64 4) := HK25.out.cell 0 rfl 8
          have c_s_9_35 : w5.cell? ⟨gs, 9, none⟩ = some (.int .i64 s.size) := HK25.out.cell 0 rfl 9
          go_upto_region 18 with (fail)
          clear c_s_0_26 c_s_1_27 c_s_2_28 c_s_3_29 c_s_4_30 c_s_5_31 c_s_6_32 c_s_7_33 c_s_8_34 c_s_9_35
          clear kc1 kc2
          go_upto_region 19 with (fail)
          obtain ⟨kk, hkk, hkn⟩ : ∃ kk : Nat, cut % ((n : Int) + 1) = (kk : Int) ∧ kk ≤ n := ⟨_, (Int.toNat_of_nonneg (Int.emod_nonneg _ (by omega))).symm, by have := Int.emod_lt_of_pos cut (show (0 : Int) < (n : Int) + 1 by omega); omega⟩
          rw [hkk]
          clear hkk
          have hkc : kk ≤ c := Nat.le_trans hkn HCL.out
          have HHT := Lib.hid (scanned (bs.take kk))
          obtain ⟨ct1, ct2⟩ := (HCUT kk (by have := HSL.out; omega)).out
          have hsz2 := HK25.out.size
          have HSP := Lib.hid (show Reads w5 w5.heap.size 1 A kk (byteCells (bs.take kk)) from ((HK25.out.sl 2 rfl).pre hkn).bytes)
          clear HCUT
          go_wp2_with fail
          with_reducible refine (Read_s A kk c w5.heap.size (bs.take kk) _ w5 HK25.out.xok' HSP.out (Nat.le_refl _) hkc (by have := HCM.out; unfold maxLen at this; omega) (by omega)).mono ?_
          clear HSP
          generalize hsc2 : scanF (bs.take kk) scn0 = R2 at HHT ct1 ct2 ⊢
          clear hsc2
          obtain ⟨t, tt⟩ := R2
          rintro e w6 ⟨hb, ve2, An2, nn2, cn2, rfl, hown, hns, -, hvx⟩
          simp only at HHT ct1 ct2
          have HC1 := Lib.hid ct1
          clear ct1
          obtain ⟨Ae2, ce2, rfl, hse⟩ := Sl.of_own (s := evSh) hown hvx (repAll_ev _ (fun e he => okE_of (HHT.out.chk e he))) (by decide)
          clear hown hvx hns
          have HK36 := Lib.hid (show Held w [] [] w6 [.box (gs) 54 #[.int .i64 s.num, .int .i64 s.bq, .int .i64 s.ba, .slice none 0 0, .slice Ae s.evs.length ce, .int .i64 s.c.q, .int .i64 s.c.a, .slice An nn cn, .int .i64 4, .int .i64 s.size]] [Sl.fact evSh Ae2 t.evs.length ce2 t.evs, Sl.fact byteSh A3 bs.length c3 bs, Sl.fact evSh Ae s.evs.length ce s.evs, Sl.fact byteSh A n c bs] from ((HK25.out.on hb).know (Sl.fact evSh Ae2 t.evs.length ce2 t.evs) hse))
          clear HK25
          clear hb
          clear hse
          have HK37 := Lib.hid (show Held w [] [] (w6.alloc (.cells #[.int .i64 t.num, .int .i64 t.bq, .int .i64 t.ba, .slice none 0 0, .slice Ae2 t.evs.length ce2, .int .i64 t.c.q, .int .i64 t.c.a, .slice An2 nn2 cn2, .int .i64 tt, .int .i64 t.size] 54)) [.box (w6.heap.size) 54 #[.int .i64 t.num, .int .i64 t.bq, .int .i64 t.ba, .slice none 0 0, .slice Ae2 t.evs.length ce2, .int .i64 t.c.q, .int .i64 t.c.a, .slice An2 nn2 cn2, .int .i64 tt, .int .i64 t.size], .box (gs) 54 #[.int .i64 s.num, .int .i64 s.bq, .int .i64 s.ba, .slice none 0 0, .slice Ae s.evs.length ce, .int .i64 s.c.q, .int .i64 s.c.a, .slice An nn cn, .int .i64 4, .int .i64 s.size]] [Sl.fact evSh Ae2 t.evs.length ce2 t.evs, Sl.fact byteSh A3 bs.length c3 bs, Sl.fact evSh Ae s.evs.length ce s.evs, Sl.fact byteSh A n c bs] from HK36.out.alloc_at 54 #[.int .i64 t.num, .int .i64 t.bq, .int .i64 t.ba, .slice none 0 0, .slice Ae2 t.evs.length ce2, .int .i64 t.c.q, .int .i64 t.c.a, .slice An2 nn2 cn2, .int .i64 tt, .int .i64 t.size] (w6.heap.size) (by simp))
          clear HK36
          go_upto_region 20 with (fail)
          generalize w6.alloc (.cells #[.int .i64 t.num, .int .i64 t.bq, .int .i64 t.ba, .slice none 0 0, .slice Ae2 t.evs.length ce2, .int .i64 t.c.q, .int .i64 t.c.a, .slice An2 nn2 cn2, .int .i64 tt, .int .i64 t.size] 54) = w7 at HK37 ⊢
          generalize w6.heap.size = gt at HK37 ⊢
          have htl : t.evs.length ≤ s.evs.length := by have := congrArg List.length HC1.out; rw [List.length_take] at this; omega
          have htm : t.evs.length ≤ 100000 := by have := HSA.out.many; have := HSL.out; omega
          have dg : decide (s.evs.length < t.evs.length) = false := by simp; omega
          have hec : s.evs.length ≤ ce := (HK37.out.sl 2 rfl).le
          have hte : t.evs.length ≤ ce := Nat.le_trans htl hec
          refine wp_region_noPanic ?_
          refine wp_region_held_drew (S := fun W' => Held w [] [] W' [.box (gt) 54 #[.int .i64 t.num, .int .i64 t.bq, .int .i64 t.ba, .slice none 0 0, .slice Ae2 t.evs.length ce2, .int .i64 t.c.q, .int .i64 t.c.a, .slice An2 nn2 cn2, .int .i64 tt, .int .i64 t.size], .box (gs) 54 #[.int .i64 s.num, .int .i64 s.bq, .int .i64 s.ba, .slice none 0 0, .slice Ae s.evs.length ce, .int .i64 s.c.q, .int .i64 s.c.a, .slice An nn cn, .int .i64 4, .int .i64 s.size]] [Sl.fact evSh Ae2 t.evs.length ce2 t.evs, Sl.fact byteSh A3 bs.length c3 bs, Sl.fact evSh Ae s.evs.length ce s.evs, Sl.fact byteSh A n c bs]) (by kernel_rfl) HK37.out.drew (fun hHeld => ?_)
          have HK38 := Lib.hid (show Held w [] [] w7.drew [.box (gt) 54 #[.int .i64 t.num, .int .i64 t.bq, .int .i64 t.ba, .slice none 0 0, .slice Ae2 t.evs.length ce2, .int .i64 t.c.q, .int .i64 t.c.a, .slice An2 nn2 cn2, .int .i64 tt, .int .i64 t.size], .box (gs) 54 #[.int .i64 s.num, .int .i64 s.bq, .int .i64 s.ba, .slice none 0 0, .slice Ae s.evs.length ce, .int .i64 s.c.q, .int .i64 s.c.a, .slice An nn cn, .int .i64 4, .int .i64 s.size]] [Sl.fact evSh Ae2 t.evs.length ce2 t.evs, Sl.fact byteSh A3 bs.length c3 bs, Sl.fact evSh Ae s.evs.length ce s.evs, Sl.fact byteSh A n c bs] from HK37.out.drew)
          clear HK37
          generalize w7.drew = wd at hHeld HK38 ⊢
          refine takeH 0 (v := ?v0u65) rfl (by kernel_rfl) (by kernel_rfl) (by kernel_rfl) rfl (fun _ _ _ h => h) (Or.inl ⟨by rfl, ?y0u65⟩) hHeld ?r0u65
          case y0u65 => (intro W hSW; (try dsimp only at hSW); go_simp; try with_reducible rfl)
          simp only [Act.put, sI, sZ, sS]
          refine takeH 1 (v := ?v1u66) rfl (by kernel_rfl) (by kernel_rfl) (by kernel_rfl) rfl (fun _ _ _ h => h) (Or.inl ⟨by rfl, ?y1u66⟩) hHeld ?r1u66
          case y1u66 => (intro W hSW; (try dsimp only at hSW); have q4 : W.cell? ⟨gt, 4, none⟩ = some (.slice Ae2 t.evs.length ce2) := hSW.cell 0 rfl 4; go_simp; try with_reducible rfl)
          simp only [Act.put, sI, sZ, sS]
          refine takeH 2 (v := ?v2u67) rfl (by kernel_rfl) (by kernel_rfl) (by kernel_rfl) rfl (fun _ _ _ h => h) (Or.inl ⟨by rfl, ?y2u67⟩) hHeld ?r2u67
          case y2u67 => (intro W hSW; (try dsimp only at hSW); go_simp; try with_reducible rfl)
          simp only [Act.put, sI, sZ, sS]
          refine takeH 3 (v := ?v3u68) rfl (by kernel_rfl) (by kernel_rfl) (by kernel_rfl) rfl (fun _ _ _ h => h) (Or.inl ⟨by rfl, ?y3u68⟩) hHeld ?r3u68
          case y3u68 => (intro W hSW; (try dsimp only at hSW); go_simp; try with_reducible rfl)
          simp only [Act.put, sI, sZ, sS]
          refine takeH 4 (v := ?v4u69) rfl (by kernel_rfl) (by kernel_rfl) (by kernel_rfl) rfl (fun _ _ _ h => h) (Or.inl ⟨by rfl, ?y4u69⟩) hHeld ?r4u69
          case y4u69 => (intro W hSW; (try dsimp only at hSW); have q4 : W.cell? ⟨gs, 4, none⟩ = some (.slice Ae s.evs.length ce) := hSW.cell 1 rfl 4; go_simp; try with_reducible rfl)
          simp only [Act.put, sI, sZ, sS]
          refine takeH 5 (v := ?v5u70) rfl (by kernel_rfl) (by kernel_rfl) (by kernel_rfl) rfl (fun _ _ _ h => h) (Or.inl ⟨by rfl, ?y5u70⟩) hHeld ?r5u70
          case y5u70 => (intro W hSW; (try dsimp only at hSW); go_simp; try with_reducible rfl)
          simp only [Act.put, sI, sZ, sS]
          refine takeH 6 (v := ?v6u71) rfl (by kernel_rfl) (by kernel_rfl) (by kernel_rfl) rfl (fun _ _ _ h => h) (Or.inl ⟨by rfl, ?y6u71⟩) hHeld ?r6u71
          case y6u71 => (intro W hSW; (try dsimp only at hSW); go_simp; try with_reducible rfl)
          simp only [Act.put, sI, sZ, sS]
          refine takeH 7 (v := ?v7u72) rfl (by kernel_rfl) (by kernel_rfl) (by kernel_rfl) rfl (fun _ _ _ h => h) (Or.inl ⟨by rfl, ?y7u72⟩) hHeld ?r7u72
          case y7u72 => (intro W hSW; (try dsimp only at hSW); go_simp; try with_reducible rfl)
          simp only [Act.put, sI, sZ, sS]
          refine takeH 8 (v := ?v8u73) rfl (by kernel_rfl) (by kernel_rfl) (by kernel_rfl) rfl (fun _ _ _ h => h) (Or.inl ⟨by rfl, ?y8u73⟩) hHeld ?r8u73
          case y8u73 => (intro W hSW; (try dsimp only at hSW); go_simp; try with_reducible rfl)
          simp only [Act.put, sI, sZ, sS]
          refine takeH 9 (v := ?v9u74) rfl (by kernel_rfl) (by kernel_rfl) (by kernel_rfl) rfl (fun _ _ _ h => h) (Or.inl ⟨by rfl, ?y9u74⟩) hHeld ?r9u74
          case y9u74 => (intro W hSW; (try dsimp only at hSW); have q4 : W.cell? ⟨gt, 4, none⟩ = some (.slice Ae2 t.evs.length ce2) := hSW.cell 0 rfl 4; go_simp; try with_reducible rfl)
          simp only [Act.put, sI, sZ, sS]
          refine takeH 10 (v := ?v10u75) rfl (by kernel_rfl) (by kernel_rfl) (by kernel_rfl) rfl (fun _ _ _ h => h) (Or.inl ⟨by rfl, ?y10u75⟩) hHeld ?r10u75
          case y10u75 => (intro W hSW; (try dsimp only at hSW); go_simp; try with_reducible rfl)
          simp only [Act.put, sI, sZ, sS]
          refine takeH 11 (v := ?v11u76) rfl (by kernel_rfl) (by kernel_rfl) (by kernel_rfl) rfl (fun _ _ _ h => h) (Or.inl ⟨by rfl, ?y11u76⟩) hHeld ?r11u76
          case y11u76 => (intro W hSW; (try dsimp only at hSW); have q4 : W.cell? ⟨gs, 4, none⟩ = some (.slice Ae s.evs.length ce) := hSW.cell 1 rfl 4; go_simp; try with_reducible rfl)
          simp only [Act.put, sI, sZ, sS]
          refine takeH 12 (v := ?v12u77) rfl (by kernel_rfl) (by kernel_rfl) (by kernel_rfl) rfl (fun _ _ _ h => h) (Or.inl ⟨by rfl, ?y12u77⟩) hHeld ?r12u77
          case y12u77 => (intro W hSW; (try dsimp only at hSW); go_simp; try with_reducible rfl)
          simp only [Act.put, sI, sZ, sS]
          refine takeH 13 (v := ?v13u78) rfl (by kernel_rfl) (by kernel_rfl) (by kernel_rfl) rfl (fun _ _ _ h => h) (Or.inl ⟨by rfl, ?y13u78⟩) hHeld ?r13u78
          case y13u78 => (intro W hSW; (try dsimp only at hSW); have q4 : W.cell? ⟨gt, 4, none⟩ = some (.slice Ae2 t.evs.length ce2) := hSW.cell 0 rfl 4; go_simp; try with_reducible rfl)
          simp only [Act.put, sI, sZ, sS]
          refine takeH 14 (v := ?v14u79) rfl (by kernel_rfl) (by kernel_rfl) (by kernel_rfl) rfl (fun _ _ _ h => h) (Or.inl ⟨by rfl, ?y14u79⟩) hHeld ?r14u79
          case y14u79 => (intro W hSW; (try dsimp only at hSW); go_simp; try with_reducible rfl)
          simp only [Act.put, sI, sZ, sS]
          refine takeH 15 (v := ?v15u80) rfl (by kernel_rfl) (by kernel_rfl) (by kernel_rfl) rfl (fun _ _ _ h => h) (Or.inl ⟨by rfl, ?y15u80⟩) hHeld ?r15u80
          case y15u80 => (intro W hSW; (try dsimp only at hSW); go_simp; try with_reducible rfl)
          simp only [Act.put, sI, sZ, sS]
          refine wpAnyH_ready (rs := [16]) (by kernel_rfl) (by simp) ?_
          refine AllReadyH.cons rfl (fun K hK => ?_) AllReadyH.nil
          go_simp
          with_reducible refine (EvSame_c Ae2 t.evs.length ce2 _ t.evs Ae t.evs.length ce (s.evs.take t.evs.length) _ (hHeld.sl 0 rfl).evr ((hHeld.sl 2 rfl).pre htl).evr (Nat.le_refl _) (by omega) (by omega)).mono ?_
          rintro e w8 ⟨r, rfl, hre, hb9⟩
          obtain rfl : r = true := hre.2 HC1.out
          have hkn := hHeld.on hb9
          clear hb9 hre
          refine hK.out _ _ hkn (fun hHeld => ?_)
          clear hK K
          try simp only [Act.put, sI, sZ, sS]
          refine takeH 17 (v := ?v17u81) rfl (by kernel_rfl) (by kernel_rfl) (by kernel_rfl) rfl (fun _ _ _ h => h) (Or.inl ⟨by rfl, ?y17u81⟩) hHeld ?r17u81
          case y17u81 => (intro W hSW; (try dsimp only at hSW); go_simp; try with_reducible rfl)
          simp only [Act.put, sI, sZ, sS]
          refine takeH 18 (v := ?v18u82) rfl (by kernel_rfl) (by kernel_rfl) (by kernel_rfl) rfl (fun _ _ _ h => h) (Or.inl ⟨by rfl, ?y18u82⟩) hHeld ?r18u82
          case y18u82 => (intro W hSW; (try dsimp only at hSW); go_simp; try with_reducible rfl)
          simp only [Act.put, sI, sZ, sS]
          refine wpAnyH_done (by kernel_rfl) ?_ _
          refine NoPanic.normal ?_
          have HKt := Lib.hid hHeld
          clear hHeld HK38
          have c_s_0_39 : w8.cell? ⟨gs, 0, none⟩ = some (.int .i64 s.num) := HKt.out.cell 1 rfl 0
          have c_s_1_40 : w8.cell? ⟨gs, 1, none⟩ = some (.int .i64 s.bq) := HKt.out.cell 1 rfl 1
          have c_s_2_41 : w8.cell? ⟨gs, 2, none⟩ = some (.int .i64 s.ba) := HKt.out.cell 1 rfl 2
          have c_s_3_42 : w8.cell? ⟨gs, 3, none⟩ = some (.slice none 0 0) := HKt.out.cell 1 rfl 3
          have c_s_4_43 : w8.cell? ⟨gs, 4, none⟩ = some (.slice Ae s.evs.length ce) := HKt.out.cell 1 rfl 4
          have c_s_5_44 : w8.cell? ⟨gs, 5, none⟩ = some (.int .i64 s.c.q) := HKt.out.cell 1 rfl 5
          have c_s_6_45 : w8.cell? ⟨gs, 6, none⟩ = some (.int .i64 s.c.a) := HKt.out.cell 1 rfl 6
          have c_s_7_46 : w8.cell? ⟨gs, 7, none⟩ = some (.slice An nn cn) := HKt.out.cell 1 rfl 7
          have c_s_8_47 : w8.cell? ⟨gs, 8, none⟩ = some (.int .i64 4) := HKt.out.cell 1 rfl 8
          have c_s_9_48 : w8.cell? ⟨gs, 9, none⟩ = some (.int .i64 s.size) := HKt.out.cell 1 rfl 9
          have c_t_0_49 : w8.cell? ⟨gt, 0, none⟩ = some (.int .i64 t.num) := HKt.out.cell 0 rfl 0
          have c_t_1_50 : w8.cell? ⟨gt, 1, none⟩ = some (.int .i64 t.bq) := HKt.out.cell 0 rfl 1
          have c_t_2_51 : w8.cell? ⟨gt, 2, none⟩ = some (.int .i64 t.ba) := HKt.out.cell 0 rfl 2
          have c_t_3_52 : w8.cell? ⟨gt, 3, none⟩ = some (.slice none 0 0) := HKt.out.cell 0 rfl 3
          have c_t_4_53 : w8.cell? ⟨gt, 4, none⟩ = some (.slice Ae2 t.evs.length ce2) := HKt.out.cell 0 rfl 4
          have c_t_5_54 : w8.cell? ⟨gt, 5, none⟩ = some (.int .i64 t.c.q) := HKt.out.cell 0 rfl 5
          have c_t_6_55 : w8.cell? ⟨gt, 6, none⟩ = some (.int .i64 t.c.a) := HKt.out.cell 0 rfl 6
          have c_t_7_56 : w8.cell? ⟨gt, 7, none⟩ = some (.slice An2 nn2 cn2) := HKt.out.cell 0 rfl 7
          have c_t_8_57 : w8.cell? ⟨gt, 8, none⟩ = some (.int .i64 tt) := HKt.out.cell 0 rfl 8
          have c_t_9_58 : w8.cell? ⟨gt, 9, none⟩ = some (.int .i64 t.size) := HKt.out.cell 0 rfl 9
          have dt : (tt != 3) = true := by rw [bne_iff_ne]; exact ct2 (by decide)
          go_wp2
          go_ret
          exact ⟨rfl, HKt.out.below⟩
      by_cases hst : st = 1 ∨ st = 4
      · skip
        have dn : decide (0 < s.num) = false := by have : ¬ 0 < s.num := fun h => hm ⟨h, hst⟩; simp; omega
        rcases hst with rfl | rfl
        · skip
          go_upto_region 18 with (fail)
          clear c_s_0_15 c_s_1_16 c_s_2_17 c_s_3_18 c_s_4_19 c_s_5_20 c_s_6_21 c_s_7_22 c_s_8_23 c_s_9_24
          go_upto_region 19 with (fail)
          obtain ⟨kk, hkk, hkn⟩ : ∃ kk : Nat, cut % ((n : Int) + 1) = (kk : Int) ∧ kk ≤ n := ⟨_, (Int.toNat_of_nonneg (Int.emod_nonneg _ (by omega))).symm, by have := Int.emod_lt_of_pos cut (show (0 : Int) < (n : Int) + 1 by omega); omega⟩
          rw [hkk]
          clear hkk
          have hkc : kk ≤ c := Nat.le_trans hkn HCL.out
          have HHT := Lib.hid (scanned (bs.take kk))
          obtain ⟨ct1, ct2⟩ := (HCUT kk (by have := HSL.out; omega)).out
          have hsz2 := HKl.out.size
          have HSP := Lib.hid (show Reads wr wr.heap.size 1 A kk (byteCells (bs.take kk)) from ((HKl.out.sl 1 rfl).pre hkn).bytes)
          clear HCUT
          go_wp2_with fail
          with_reducible refine (Read_s A kk c wr.heap.size (bs.take kk) _ wr HKl.out.xok' HSP.out (Nat.le_refl _) hkc (by have := HCM.out; unfold maxLen at this; omega) (by omega)).mono ?_
          clear HSP
          generalize hsc2 : scanF (bs.take kk) scn0 = R2 at HHT ct1 ct2 ⊢
          clear hsc2
          obtain ⟨t, tt⟩ := R2
          rintro e w6 ⟨hb, ve2, An2, nn2, cn2, rfl, hown, hns, -, hvx⟩
          simp only at HHT ct1 ct2
          have HC1 := Lib.hid ct1
          clear ct1
          obtain ⟨Ae2, ce2, rfl, hse⟩ := Sl.of_own (s := evSh) hown hvx (repAll_ev _ (fun e he => okE_of (HHT.out.chk e he))) (by decide)
          clear hown hvx hns
          have HK25 := Lib.hid (show Held w [] [] w6 [.box (gs) 54 #[.int .i64 s.num, .int .i64 s.bq, .int .i64 s.ba, .slice none 0 0, .slice Ae s.evs.length ce, .int .i64 s.c.q, .int .i64 s.c.a, .slice An nn cn, .int .i64 1, .int .i64 s.size]] [Sl.fact evSh Ae2 t.evs.length ce2 t.evs, Sl.fact evSh Ae s.evs.length ce s.evs, Sl.fact byteSh A n c bs] from ((HKl.out.on hb).know (Sl.fact evSh Ae2 t.evs.length ce2 t.evs) hse))
          clear HKl
          clear hb
          clear hse
          have HK26 := Lib.hid (show Held w [] [] (w6.alloc (.cells #[.int .i64 t.num, .int .i64 t.bq, .int .i64 t.ba, .slice none 0 0, .slice Ae2 t.evs.length ce2, .int .i64 t.c.q, .int .i64 t.c.a, .slice An2 nn2 cn2, .int .i64 tt, .int .i64 t.size] 54)) [.box (w6.heap.size) 54 #[.int .i64 t.num, .int .i64 t.bq, .int .i64 t.ba, .slice none 0 0, .slice Ae2 t.evs.length ce2, .int .i64 t.c.q, .int .i64 t.c.a, .slice An2 nn2 cn2, .int .i64 tt, .int .i64 t.size], .box (gs) 54 #[.int .i64 s.num, .int .i64 s.bq, .int .i64 s.ba, .slice none 0 0, .slice Ae s.evs.length ce, .int .i64 s.c.q, .int .i64 s.c.a, .slice An nn cn, .int .i64 1, .int .i64 s.size]] [Sl.fact evSh Ae2 t.evs.length ce2 t.evs, Sl.fact evSh Ae s.evs.length ce s.evs, Sl.fact byteSh A n c bs] from HK25.out.alloc_at 54 #[.int .i64 t.num, .int .i64 t.bq, .int .i64 t.ba, .slice none 0 0, .slice Ae2 t.evs.length ce2, .int .i64 t.c.q, .int .i64 t.c.a, .slice An2 nn2 cn2, .int .i64 tt, .int .i64 t.size] (w6.heap.size) (by simp))
          clear HK25
          go_upto_region 20 with (fail)
          generalize w6.alloc (.cells #[.int .i64 t.num, .int .i64 t.bq, .int .i64 t.ba, .slice none 0 0, .slice Ae2 t.evs.length ce2, .int .i64 t.c.q, .int .i64 t.c.a, .slice An2 nn2 cn2, .int .i64 tt, .int .i64 t.size] 54) = w7 at HK26 ⊢
          generalize w6.heap.size = gt at HK26 ⊢
          have htl : t.evs.length ≤ s.evs.length := by have := congrArg List.length HC1.out; rw [List.length_take] at this; omega
          have htm : t.evs.length ≤ 100000 := by have := HSA.out.many; have := HSL.out; omega
          have dg : decide (s.evs.length < t.evs.length) = false := by simp; omega
          have hec : s.evs.length ≤ ce := (HK26.out.sl 1 rfl).le
          have hte : t.evs.length ≤ ce := Nat.le_trans htl hec
          refine wp_region_noPanic ?_
          refine wp_region_held_drew (S := fun W' => Held w [] [] W' [.box (gt) 54 #[.int .i64 t.num, .int .i64 t.bq, .int .i64 t.ba, .slice none 0 0, .slice Ae2 t.evs.length ce2, .int .i64 t.c.q, .int .i64 t.c.a, .slice An2 nn2 cn2, .int .i64 tt, .int .i64 t.size], .box (gs) 54 #[.int .i64 s.num, .int .i64 s.bq, .int .i64 s.ba, .slice none 0 0, .slice Ae s.evs.length ce, .int .i64 s.c.q, .int .i64 s.c.a, .slice An nn cn, .int .i64 1, .int .i64 s.size]] [Sl.fact evSh Ae2 t.evs.length ce2 t.evs, Sl.fact evSh Ae s.evs.length ce s.evs, Sl.fact byteSh A n c bs]) (by kernel_rfl) HK26.out.drew (fun hHeld => ?_)
          have HK27 := Lib.hid (show Held w [] [] w7.drew [.box (gt) 54 #[.int .i64 t.num, .int .i64 t.bq, .int .i64 t.ba, .slice none 0 0, .slice Ae2 t.evs.length ce2, .int .i64 t.c.q, .int .i64 t.c.a, .slice An2 nn2 cn2, .int .i64 tt, .int .i64 t.size], .box (gs) 54 #[.int .i64 s.num, .int .i64 s.bq, .int .i64 s.ba, .slice none 0 0, .slice Ae s.evs.length ce, .int .i64 s.c.q, .int .i64 s.c.a, .slice An nn cn, .int .i64 1, .int .i64 s.size]] [Sl.fact evSh Ae2 t.evs.length ce2 t.evs, Sl.fact evSh Ae s.evs.length ce s.evs, Sl.fact byteSh A n c bs] from HK26.out.drew)
          clear HK26
          generalize w7.drew = wd at hHeld HK27 ⊢
          refine takeH 0 (v := ?v0u83) rfl (by kernel_rfl) (by kernel_rfl) (by kernel_rfl) rfl (fun _ _ _ h => h) (Or.inl ⟨by rfl, ?y0u83⟩) hHeld ?r0u83
          case y0u83 => (intro W hSW; (try dsimp only at hSW); go_simp; try with_reducible rfl)
          simp only [Act.put, sI, sZ, sS]
          refine takeH 1 (v := ?v1u84) rfl (by kernel_rfl) (by kernel_rfl) (by kernel_rfl) rfl (fun _ _ _ h => h) (Or.inl ⟨by rfl, ?y1u84⟩) hHeld ?r1u84
          case y1u84 => (intro W hSW; (try dsimp only at hSW); have q4 : W.cell? ⟨gt, 4, none⟩ = some (.slice Ae2 t.evs.length ce2) := hSW.cell 0 rfl 4; go_simp; try with_reducible rfl)
          simp only [Act.put, sI, sZ, sS]
          refine takeH 2 (v := ?v2u85) rfl (by kernel_rfl) (by kernel_rfl) (by kernel_rfl) rfl (fun _ _ _ h => h) (Or.inl ⟨by rfl, ?y2u85⟩) hHeld ?r2u85
          case y2u85 => (intro W hSW; (try dsimp only at hSW); go_simp; try with_reducible rfl)
          simp only [Act.put, sI, sZ, sS]
          refine takeH 3 (v := ?v3u86) rfl (by kernel_rfl) (by kernel_rfl) (by kernel_rfl) rfl (fun _ _ _ h => h) (Or.inl ⟨by rfl, ?y3u86⟩) hHeld ?r3u86
          case y3u86 => (intro W hSW; (try dsimp only at hSW); go_simp; try with_reducible rfl)
          simp only [Act.put, sI, sZ, sS]
          refine takeH 4 (v := ?v4u87) rfl (by kernel_rfl) (by kernel_rfl) (by kernel_rfl) rfl (fun _ _ _ h => h) (Or.inl ⟨by rfl, ?y4u87⟩) hHeld ?r4u87
          case y4u87 => (intro W hSW; (try dsimp only at hSW); have q4 : W.cell? ⟨gs, 4, none⟩ = some (.slice Ae s.evs.length ce) := hSW.cell 1 rfl 4; go_simp; try with_reducible rfl)
          simp only [Act.put, sI, sZ, sS]
          refine takeH 5 (v := ?v5u88) rfl (by kernel_rfl) (by kernel_rfl) (by kernel_rfl) rfl (fun _ _ _ h => h) (Or.inl ⟨by rfl, ?y5u88⟩) hHeld ?r5u88
          case y5u88 => (intro W hSW; (try dsimp only at hSW); go_simp; try with_reducible rfl)
          simp only [Act.put, sI, sZ, sS]
          refine takeH 6 (v := ?v6u89) rfl (by kernel_rfl) (by kernel_rfl) (by kernel_rfl) rfl (fun _ _ _ h => h) (Or.inl ⟨by rfl, ?y6u89⟩) hHeld ?r6u89
          case y6u89 => (intro W hSW; (try dsimp only at hSW); go_simp; try with_reducible rfl)
          simp only [Act.put, sI, sZ, sS]
          refine takeH 7 (v := ?v7u90) rfl (by kernel_rfl) (by kernel_rfl) (by kernel_rfl) rfl (fun _ _ _ h => h) (Or.inl ⟨by rfl, ?y7u90⟩) hHeld ?r7u90
          case y7u90 => (intro W hSW; (try dsimp only at hSW); go_simp; try with_reducible rfl)
          simp only [Act.put, sI, sZ, sS]
          refine takeH 8 (v := ?v8u91) rfl (by kernel_rfl) (by kernel_rfl) (by kernel_rfl) rfl (fun _ _ _ h => h) (Or.inl ⟨by rfl, ?y8u91⟩) hHeld ?r8u91
          case y8u91 => (intro W hSW; (try dsimp only at hSW); go_simp; try with_reducible rfl)
          simp only [Act.put, sI, sZ, sS]
          refine takeH 9 (v := ?v9u92) rfl (by kernel_rfl) (by kernel_rfl) (by kernel_rfl) rfl (fun _ _ _ h => h) (Or.inl ⟨by rfl, ?y9u92⟩) hHeld ?r9u92
          case y9u92 => (intro W hSW; (try dsimp only at hSW); have q4 : W.cell? ⟨gt, 4, none⟩ = some (.slice Ae2 t.evs.length ce2) := hSW.cell 0 rfl 4; go_simp; try with_reducible rfl)
          simp only [Act.put, sI, sZ, sS]
          refine takeH 10 (v := ?v10u93) rfl (by kernel_rfl) (by kernel_rfl) (by kernel_rfl) rfl (fun _ _ _ h => h) (Or.inl ⟨by rfl, ?y10u93⟩) hHeld ?r10u93
          case y10u93 => (intro W hSW; (try dsimp only at hSW); go_simp; try with_reducible rfl)
          simp only [Act.put, sI, sZ, sS]
          refine takeH 11 (v := ?v11u94) rfl (by kernel_rfl) (by kernel_rfl) (by kernel_rfl) rfl (fun _ _ _ h => h) (Or.inl ⟨by rfl, ?y11u94⟩) hHeld ?r11u94
          case y11u94 => (intro W hSW; (try dsimp only at hSW); have q4 : W.cell? ⟨gs, 4, none⟩ = some (.slice Ae s.evs.length ce) := hSW.cell 1 rfl 4; go_simp; try with_reducible rfl)
          simp only [Act.put, sI, sZ, sS]
          refine takeH 12 (v := ?v12u95) rfl (by kernel_rfl) (by kernel_rfl) (by kernel_rfl) rfl (fun _ _ _ h => h) (Or.inl ⟨by rfl, ?y12u95⟩) hHeld ?r12u95
          case y12u95 => (intro W hSW; (try dsimp only at hSW); go_simp; try with_reducible rfl)
          simp only [Act.put, sI, sZ, sS]
          refine takeH 13 (v := ?v13u96) rfl (by kernel_rfl) (by kernel_rfl) (by kernel_rfl) rfl (fun _ _ _ h => h) (Or.inl ⟨by rfl, ?y13u96⟩) hHeld ?r13u96
          case y13u96 => (intro W hSW; (try dsimp only at hSW); have q4 : W.cell? ⟨gt, 4, none⟩ = some (.slice Ae2 t.evs.length ce2) := hSW.cell 0 rfl 4; go_simp; try with_reducible rfl)
          simp only [Act.put, sI, sZ, sS]
          refine takeH 14 (v := ?v14u97) rfl (by kernel_rfl) (by kernel_rfl) (by kernel_rfl) rfl (fun _ _ _ h => h) (Or.inl ⟨by rfl, ?y14u97⟩) hHeld ?r14u97
          case y14u97 => (intro W hSW; (try dsimp only at hSW); go_simp; try with_reducible rfl)
          simp only [Act.put, sI, sZ, sS]
          refine takeH 15 (v := ?v15u98) rfl (by kernel_rfl) (by kernel_rfl) (by kernel_rfl) rfl (fun _ _ _ h => h) (Or.inl ⟨by rfl, ?y15u98⟩) hHeld ?r15u98
          case y15u98 => (intro W hSW; (try dsimp only at hSW); go_simp; try with_reducible rfl)
          simp only [Act.put, sI, sZ, sS]
          refine wpAnyH_ready (rs := [16]) (by kernel_rfl) (by simp) ?_
          refine AllReadyH.cons rfl (fun K hK => ?_) AllReadyH.nil
          go_simp
          with_reducible refine (EvSame_c Ae2 t.evs.length ce2 _ t.evs Ae t.evs.length ce (s.evs.take t.evs.length) _ (hHeld.sl 0 rfl).evr ((hHeld.sl 1 rfl).pre htl).evr (Nat.le_refl _) (by omega) (by omega)).mono ?_
          rintro e w8 ⟨r, rfl, hre, hb9⟩
          obtain rfl : r = true := hre.2 HC1.out
          have hkn := hHeld.on hb9
          clear hb9 hre
          refine hK.out _ _ hkn (fun hHeld => ?_)
          clear hK K
          try simp only [Act.put, sI, sZ, sS]
          refine takeH 17 (v := ?v17u99) rfl (by kernel_rfl) (by kernel_rfl) (by kernel_rfl) rfl (fun _ _ _ h => h) (Or.inl ⟨by rfl, ?y17u99⟩) hHeld ?r17u99
          case y17u99 => (intro W hSW; (try dsimp only at hSW); go_simp; try with_reducible rfl)
          simp only [Act.put, sI, sZ, sS]
          refine takeH 18 (v := ?v18u100) rfl (by kernel_rfl) (by kernel_rfl) (by kernel_rfl) rfl (fun _ _ _ h => h) (Or.inl ⟨by rfl, ?y18u100⟩) hHeld ?r18u100
          case y18u100 => (intro W hSW; (try dsimp only at hSW); go_simp; try with_reducible rfl)
          simp only [Act.put, sI, sZ, sS]
          refine wpAnyH_done (by kernel_rfl) ?_ _
          refine NoPanic.normal ?_
          have HKt := Lib.hid hHeld
          clear hHeld HK27
          have c_s_0_28 : w8.cell? ⟨gs, 0, none⟩ = some (.int .i64 s.num) := HKt.out.cell 1 rfl 0
          have c_s_1_29 : w8.cell? ⟨gs, 1, none⟩ = some (.int .i64 s.bq) := HKt.out.cell 1 rfl 1
          have c_s_2_30 : w8.cell? ⟨gs, 2, none⟩ = some (.int .i64 s.ba) := HKt.out.cell 1 rfl 2
          have c_s_3_31 : w8.cell? ⟨gs, 3, none⟩ = some (.slice none 0 0) := HKt.out.cell 1 rfl 3
          have c_s_4_32 : w8.cell? ⟨gs, 4, none⟩ = some (.slice Ae s.evs.length ce) := HKt.out.cell 1 rfl 4
          have c_s_5_33 : w8.cell? ⟨gs, 5, none⟩ = some (.int .i64 s.c.q) := HKt.out.cell 1 rfl 5
          have c_s_6_34 : w8.cell? ⟨gs, 6, none⟩ = some (.int .i64 s.c.a) := HKt.out.cell 1 rfl 6
          have c_s_7_35 : w8.cell? ⟨gs, 7, none⟩ = some (.slice An nn cn) := HKt.out.cell 1 rfl 7
          have c_s_8_36 : w8.cell? ⟨gs, 8, none⟩ = some (.int .i64 1) := HKt.out.cell 1 rfl 8
          have c_s_9_37 : w8.cell? ⟨gs, 9, none⟩ = some (.int .i64 s.size) := HKt.out.cell 1 rfl 9
          have c_t_0_38 : w8.cell? ⟨gt, 0, none⟩ = some (.int .i64 t.num) := HKt.out.cell 0 rfl 0
          have c_t_1_39 : w8.cell? ⟨gt, 1, none⟩ = some (.int .i64 t.bq) := HKt.out.cell 0 rfl 1
          have c_t_2_40 : w8.cell? ⟨gt, 2, none⟩ = some (.int .i64 t.ba) := HKt.out.cell 0 rfl 2
          have c_t_3_41 : w8.cell? ⟨gt, 3, none⟩ = some (.slice none 0 0) := HKt.out.cell 0 rfl 3
          have c_t_4_42 : w8.cell? ⟨gt, 4, none⟩ = some (.slice Ae2 t.evs.length ce2) := HKt.out.cell 0 rfl 4
          have c_t_5_43 : w8.cell? ⟨gt, 5, none⟩ = some (.int .i64 t.c.q) := HKt.out.cell 0 rfl 5
          have c_t_6_44 : w8.cell? ⟨gt, 6, none⟩ = some (.int .i64 t.c.a) := HKt.out.cell 0 rfl 6
          have c_t_7_45 : w8.cell? ⟨gt, 7, none⟩ = some (.slice An2 nn2 cn2) := HKt.out.cell 0 rfl 7
          have c_t_8_46 : w8.cell? ⟨gt, 8, none⟩ = some (.int .i64 tt) := HKt.out.cell 0 rfl 8
          have c_t_9_47 : w8.cell? ⟨gt, 9, none⟩ = some (.int .i64 t.size) := HKt.out.cell 0 rfl 9
          have dt : (tt != 3) = true := by rw [bne_iff_ne]; exact ct2 (by decide)
          go_wp2
          go_ret
          exact ⟨rfl, HKt.out.below⟩
        · skip
          go_upto_region 18 with (fail)
          clear c_s_0_15 c_s_1_16 c_s_2_17 c_s_3_18 c_s_4_19 c_s_5_20 c_s_6_21 c_s_7_22 c_s_8_23 c_s_9_24
          go_upto_region 19 with (fail)
          obtain ⟨kk, hkk, hkn⟩ : ∃ kk : Nat, cut % ((n : Int) + 1) = (kk : Int) ∧ kk ≤ n := ⟨_, (Int.toNat_of_nonneg (Int.emod_nonneg _ (by omega))).symm, by have := Int.emod_lt_of_pos cut (show (0 : Int) < (n : Int) + 1 by omega); omega⟩
          rw [hkk]
          clear hkk
          have hkc : kk ≤ c := Nat.le_trans hkn HCL.out
          have HHT := Lib.hid (scanned (bs.take kk))
          obtain ⟨ct1, ct2⟩ := (HCUT kk (by have := HSL.out; omega)).out
          have hsz2 := HKl.out.size
          have HSP := Lib.hid (show Reads wr wr.heap.size 1 A kk (byteCells (bs.take kk)) from ((HKl.out.sl 1 rfl).pre hkn).bytes)
          clear HCUT
          go_wp2_with fail
          with_reducible refine (Read_s A kk c wr.heap.size (bs.take kk) _ wr HKl.out.xok' HSP.out (Nat.le_refl _) hkc (by have := HCM.out; unfold maxLen at this; omega) (by omega)).mono ?_
          clear HSP
          generalize hsc2 : scanF (bs.take kk) scn0 = R2 at HHT ct1 ct2 ⊢
          clear hsc2
          obtain ⟨t, tt⟩ := R2
          rintro e w6 ⟨hb, ve2, An2, nn2, cn2, rfl, hown, hns, -, hvx⟩
          simp only at HHT ct1 ct2
          have HC1 := Lib.hid ct1
          clear ct1
          obtain ⟨Ae2, ce2, rfl, hse⟩ := Sl.of_own (s := evSh) hown hvx (repAll_ev _ (fun e he => okE_of (HHT.out.chk e he))) (by decide)
          clear hown hvx hns
          have HK25 := Lib.hid (show Held w [] [] w6 [.box (gs) 54 #[.int .i64 s.num, .int .i64 s.bq, .int .i64 s.ba, .slice none 0 0, .slice Ae s.evs.length ce, .int .i64 s.c.q, .int .i64 s.c.a, .slice An nn cn, .int .i64 4, .int .i64 s.size]] [Sl.fact evSh Ae2 t.evs.length ce2 t.evs, Sl.fact evSh Ae s.evs.length ce s.evs, Sl.fact byteSh A n c bs] from ((HKl.out.on hb).know (Sl.fact evSh Ae2 t.evs.length ce2 t.evs) hse))
          clear HKl
          clear hb
          clear hse
          have HK26 := Lib.hid (show Held w [] [] (w6.alloc (.cells #[.int .i64 t.num, .int .i64 t.bq, .int .i64 t.ba, .slice none 0 0, .slice Ae2 t.evs.length ce2, .int .i64 t.c.q, .int .i64 t.c.a, .slice An2 nn2 cn2, .int .i64 tt, .int .i64 t.size] 54)) [.box (w6.heap.size) 54 #[.int .i64 t.num, .int .i64 t.bq, .int .i64 t.ba, .slice none 0 0, .slice Ae2 t.evs.length ce2, .int .i64 t.c.q, .int .i64 t.c.a, .slice An2 nn2 cn2, .int .i64 tt, .int .i64 t.size], .box (gs) 54 #[.int .i64 s.num, .int .i64 s.bq, .int .i64 s.ba, .slice none 0 0, .slice Ae s.evs.length ce, .int .i64 s.c.q, .int .i64 s.c.a, .slice An nn cn, .int .i64 4, .int .i64 s.size]] [Sl.fact evSh Ae2 t.evs.length ce2 t.evs, Sl.fact evSh Ae s.evs.length ce s.evs, Sl.fact byteSh A n c bs] from HK25.out.alloc_at 54 #[.int .i64 t.num, .int .i64 t.bq, .int .i64 t.ba, .slice none 0 0, .slice Ae2 t.evs.length ce2, .int .i64 t.c.q, .int .i64 t.c.a, .slice An2 nn2 cn2, .int .i64 tt, .int .i64 t.size] (w6.heap.size) (by simp))
          clear HK25
          go_upto_region 20 with (fail)
          generalize w6.alloc (.cells #[.int .i64 t.num, .int .i64 t.bq, .int .i64 t.ba, .slice none 0 0, .slice Ae2 t.evs.length ce2, .int .i64 t.c.q, .int .i64 t.c.a, .slice An2 nn2 cn2, .int .i64 tt, .int .i64 t.size] 54) = w7 at HK26 ⊢
          generalize w6.heap.size = gt at HK26 ⊢
          have htl : t.evs.length ≤ s.evs.length := by have := congrArg List.length HC1.out; rw [List.length_take] at this; omega
          have htm : t.evs.length ≤ 100000 := by have := HSA.out.many; have := HSL.out; omega
          have dg : decide (s.evs.length < t.evs.length) = false := by simp; omega
          have hec : s.evs.length ≤ ce := (HK26.out.sl 1 rfl).le
          have hte : t.evs.length ≤ ce := Nat.le_trans htl hec
          refine wp_region_noPanic ?_
          refine wp_region_held_drew (S := fun W' => Held w [] [] W' [.box (gt) 54 #[.int .i64 t.num, .int .i64 t.bq, .int .i64 t.ba, .slice none 0 0, .slice Ae2 t.evs.length ce2, .int .i64 t.c.q, .int .i64 t.c.a, .slice An2 nn2 cn2, .int .i64 tt, .int .i64 t.size], .box (gs) 54 #[.int .i64 s.num, .int .i64 s.bq, .int .i64 s.ba, .slice none 0 0, .slice Ae s.evs.length ce, .int .i64 s.c.q, .int .i64 s.c.a, .slice An nn cn, .int .i64 4, .int .i64 s.size]] [Sl.fact evSh Ae2 t.evs.length ce2 t.evs, Sl.fact evSh Ae s.evs.length ce s.evs, Sl.fact byteSh A n c bs]) (by kernel_rfl) HK26.out.drew (fun hHeld => ?_)
          have HK27 := Lib.hid (show Held w [] [] w7.drew [.box (gt) 54 #[.int .i64 t.num, .int .i64 t.bq, .int .i64 t.ba, .slice none 0 0, .slice Ae2 t.evs.length ce2, .int .i64 t.c.q, .int .i64 t.c.a, .slice An2 nn2 cn2, .int .i64 tt, .int .i64 t.size], .box (gs) 54 #[.int .i64 s.num, .int .i64 s.bq, .int .i64 s.ba, .slice none 0 0, .slice Ae s.evs.length ce, .int .i64 s.c.q, .int .i64 s.c.a, .slice An nn cn, .int .i64 4, .int .i64 s.size]] [Sl.fact evSh Ae2 t.evs.length ce2 t.evs, Sl.fact evSh Ae s.evs.length ce s.evs, Sl.fact byteSh A n c bs] from HK26.out.drew)
          clear HK26
          generalize w7.drew = wd at hHeld HK27 ⊢
          refine takeH 0 (v := ?v0u101) rfl (by kernel_rfl) (by kernel_rfl) (by kernel_rfl) rfl (fun _ _ _ h => h) (Or.inl ⟨by rfl, ?y0u101⟩) hHeld ?r0u101
          case y0u101 => (intro W hSW; (try dsimp only at hSW); go_simp; try with_reducible rfl)
          simp only [Act.put, sI, sZ, sS]
          refine takeH 1 (v := ?v1u102) rfl (by kernel_rfl) (by kernel_rfl) (by kernel_rfl) rfl (fun _ _ _ h => h) (Or.inl ⟨by rfl, ?y1u102⟩) hHeld ?r1u102
          case y1u102 => (intro W hSW; (try dsimp only at hSW); have q4 : W.cell? ⟨gt, 4, none⟩ = some (.slice Ae2 t.evs.length ce2) := hSW.cell 0 rfl 4; go_simp; try with_reducible rfl)
          simp only [Act.put, sI, sZ, sS]
          refine takeH 2 (v := ?v2u103) rfl (by kernel_rfl) (by kernel_rfl) (by kernel_rfl) rfl (fun _ _ _ h => h) (Or.inl ⟨by rfl, ?y2u103⟩) hHeld ?r2u103
          case y2u103 => (intro W hSW; (try dsimp only at hSW); go_simp; try with_reducible rfl)
          simp only [Act.put, sI, sZ, sS]
          refine takeH 3 (v := ?v3u104) rfl (by kernel_rfl) (by kernel_rfl) (by kernel_rfl) rfl (fun _ _ _ h => h) (Or.inl ⟨by rfl, ?y3u104⟩) hHeld ?r3u104
          case y3u104 => (intro W hSW; (try dsimp only at hSW); go_simp; try with_reducible rfl)
          simp only [Act.put, sI, sZ, sS]
          refine takeH 4 (v := ?v4u105) rfl (by kernel_rfl) (by kernel_rfl) (by kernel_rfl) rfl (fun _ _ _ h => h) (Or.inl ⟨by rfl, ?y4u105⟩) hHeld ?r4u105
          case y4u105 => (intro W hSW; (try dsimp only at hSW); have q4 : W.cell? ⟨gs, 4, none⟩ = some (.slice Ae s.evs.length ce) := hSW.cell 1 rfl 4; go_simp; try with_reducible rfl)
          simp only [Act.put, sI, sZ, sS]
          refine takeH 5 (v := ?v5u106) rfl (by kernel_rfl) (by kernel_rfl) (by kernel_rfl) rfl (fun _ _ _ h => h) (Or.inl ⟨by rfl, ?y5u106⟩) hHeld ?r5u106
          case y5u106 => (intro W hSW; (try dsimp only at hSW); go_simp; try with_reducible rfl)
          simp only [Act.put, sI, sZ, sS]
          refine takeH 6 (v := ?v6u107) rfl (by kernel_rfl) (by kernel_rfl) (by kernel_rfl) rfl (fun _ _ _ h => h) (Or.inl ⟨by rfl, ?y6u107⟩) hHeld ?r6u107
          case y6u107 => (intro W hSW; (try dsimp only at hSW); go_simp; try with_reducible rfl)
          simp only [Act.put, sI, sZ, sS]
          refine takeH 7 (v := ?v7u108) rfl (by kernel_rfl) (by kernel_rfl) (by kernel_rfl) rfl (fun _ _ _ h => h) (Or.inl ⟨by rfl, ?y7u108⟩) hHeld ?r7u108
          case y7u108 => (intro W hSW; (try dsimp only at hSW); go_simp; try with_reducible rfl)
          simp only [Act.put, sI, sZ, sS]
          refine takeH 8 (v := ?v8u109) rfl (by kernel_rfl) (by kernel_rfl) (by kernel_rfl) rfl (fun _ _ _ h => h) (Or.inl ⟨by rfl, ?y8u109⟩) hHeld ?r8u109
          case y8u109 => (intro W hSW; (try dsimp only at hSW); go_simp; try with_reducible rfl)
          simp only [Act.put, sI, sZ, sS]
          refine takeH 9 (v := ?v9u110) rfl (by kernel_rfl) (by kernel_rfl) (by kernel_rfl) rfl (fun _ _ _ h => h) (Or.inl ⟨by rfl, ?y9u110⟩) hHeld ?r9u110
          case y9u110 => (intro W hSW; (try dsimp only at hSW); have q4 : W.cell? ⟨gt, 4, none⟩ = some (.slice Ae2 t.evs.length ce2) := hSW.cell 0 rfl 4; go_simp; try with_reducible rfl)
          simp only [Act.put, sI, sZ, sS]
          refine takeH 10 (v := ?v10u111) rfl (by kernel_rfl) (by kernel_rfl) (by kernel_rfl) rfl (fun _ _ _ h => h) (Or.inl ⟨by rfl, ?y10u111⟩) hHeld ?r10u111
          case y10u111 => (intro W hSW; (try dsimp only at hSW); go_simp; try with_reducible rfl)
          simp only [Act.put, sI, sZ, sS]
          refine takeH 11 (v := ?v11u112) rfl (by kernel_rfl) (by kernel_rfl) (by kernel_rfl) rfl (fun _ _ _ h => h) (Or.inl ⟨by rfl, ?y11u112⟩) hHeld ?r11u112
          case y11u112 => (intro W hSW; (try dsimp only at hSW); have q4 : W.cell? ⟨gs, 4, none⟩ = some (.slice Ae s.evs.length ce) := hSW.cell 1 rfl 4; go_simp; try with_reducible rfl)
          simp only [Act.put, sI, sZ, sS]
          refine takeH 12 (v := ?v12u113) rfl (by kernel_rfl) (by kernel_rfl) (by kernel_rfl) rfl (fun _ _ _ h => h) (Or.inl ⟨by rfl, ?y12u113⟩) hHeld ?r12u113
          case y12u113 => (intro W hSW; (try dsimp only at hSW); go_simp; try with_reducible rfl)
          simp only [Act.put, sI, sZ, sS]
          refine takeH 13 (v := ?v13u114) rfl (by kernel_rfl) (by kernel_rfl) (by kernel_rfl) rfl (fun _ _ _ h => h) (Or.inl ⟨by rfl, ?y13u114⟩) hHeld ?r13u114
          case y13u114 => (intro W hSW; (try dsimp only at hSW); have q4 : W.cell? ⟨gt, 4, none⟩ = some (.slice Ae2 t.evs.length ce2) := hSW.cell 0 rfl 4; go_simp; try with_reducible rfl)
          simp only [Act.put, sI, sZ, sS]
          refine takeH 14 (v := ?v14u115) rfl (by kernel_rfl) (by kernel_rfl) (by kernel_rfl) rfl (fun _ _ _ h => h) (Or.inl ⟨by rfl, ?y14u115⟩) hHeld ?r14u115
          case y14u115 => (intro W hSW; (try dsimp only at hSW); go_simp; try with_reducible rfl)
          simp only [Act.put, sI, sZ, sS]
          refine takeH 15 (v := ?v15u116) rfl (by kernel_rfl) (by kernel_rfl) (by kernel_rfl) rfl (fun _ _ _ h => h) (Or.inl ⟨by rfl, ?y15u116⟩) hHeld ?r15u116
          case y15u116 => (intro W hSW; (try dsimp only at hSW); go_simp; try with_reducible rfl)
          simp only [Act.put, sI, sZ, sS]
          refine wpAnyH_ready (rs := [16]) (by kernel_rfl) (by simp) ?_
          refine AllReadyH.cons rfl (fun K hK => ?_) AllReadyH.nil
          go_simp
          with_reducible refine (EvSame_c Ae2 t.evs.length ce2 _ t.evs Ae t.evs.length ce (s.evs.take t.evs.length) _ (hHeld.sl 0 rfl).evr ((hHeld.sl 1 rfl).pre htl).evr (Nat.le_refl _) (by omega) (by omega)).mono ?_
          rintro e w8 ⟨r, rfl, hre, hb9⟩
          obtain rfl : r = true := hre.2 HC1.out
          have hkn := hHeld.on hb9
          clear hb9 hre
          refine hK.out _ _ hkn (fun hHeld => ?_)
          clear hK K
          try simp only [Act.put, sI, sZ, sS]
          refine takeH 17 (v := ?v17u117) rfl (by kernel_rfl) (by kernel_rfl) (by kernel_rfl) rfl (fun _ _ _ h => h) (Or.inl ⟨by rfl, ?y17u117⟩) hHeld ?r17u117
          case y17u117 => (intro W hSW; (try dsimp only at hSW); go_simp; try with_reducible rfl)
          simp only [Act.put, sI, sZ, sS]
          refine takeH 18 (v := ?v18u118) rfl (by kernel_rfl) (by kernel_rfl) (by kernel_rfl) rfl (fun _ _ _ h => h) (Or.inl ⟨by rfl, ?y18u118⟩) hHeld ?r18u118
          case y18u118 => (intro W hSW; (try dsimp only at hSW); go_simp; try with_reducible rfl)
          simp only [Act.put, sI, sZ, sS]
          refine wpAnyH_done (by kernel_rfl) ?_ _
          refine NoPanic.normal ?_
          have HKt := Lib.hid hHeld
          clear hHeld HK27
          have c_s_0_28 : w8.cell? ⟨gs, 0, none⟩ = some (.int .i64 s.num) := HKt.out.cell 1 rfl 0
          have c_s_1_29 : w8.cell? ⟨gs, 1, none⟩ = some (.int .i64 s.bq) := HKt.out.cell 1 rfl 1
          have c_s_2_30 : w8.cell? ⟨gs, 2, none⟩ = some (.int .i64 s.ba) := HKt.out.cell 1 rfl 2
          have c_s_3_31 : w8.cell? ⟨gs, 3, none⟩ = some (.slice none 0 0) := HKt.out.cell 1 rfl 3
          have c_s_4_32 : w8.cell? ⟨gs, 4, none⟩ = some (.slice Ae s.evs.length ce) := HKt.out.cell 1 rfl 4
          have c_s_5_33 : w8.cell? ⟨gs, 5, none⟩ = some (.int .i64 s.c.q) := HKt.out.cell 1 rfl 5
          have c_s_6_34 : w8.cell? ⟨gs, 6, none⟩ = some (.int .i64 s.c.a) := HKt.out.cell 1 rfl 6
          have c_s_7_35 : w8.cell? ⟨gs, 7, none⟩ = some (.slice An nn cn) := HKt.out.cell 1 rfl 7
          have c_s_8_36 : w8.cell? ⟨gs, 8, none⟩ = some (.int .i64 4) := HKt.out.cell 1 rfl 8
          have c_s_9_37 : w8.cell? ⟨gs, 9, none⟩ = some (.int .i64 s.size) := HKt.out.cell 1 rfl 9
          have c_t_0_38 : w8.cell? ⟨gt, 0, none⟩ = some (.int .i64 t.num) := HKt.out.cell 0 rfl 0
          have c_t_1_39 : w8.cell? ⟨gt, 1, none⟩ = some (.int .i64 t.bq) := HKt.out.cell 0 rfl 1
          have c_t_2_40 : w8.cell? ⟨gt, 2, none⟩ = some (.int .i64 t.ba) := HKt.out.cell 0 rfl 2
          have c_t_3_41 : w8.cell? ⟨gt, 3, none⟩ = some (.slice none 0 0) := HKt.out.cell 0 rfl 3
          have c_t_4_42 : w8.cell? ⟨gt, 4, none⟩ = some (.slice Ae2 t.evs.length ce2) := HKt.out.cell 0 rfl 4
          have c_t_5_43 : w8.cell? ⟨gt, 5, none⟩ = some (.int .i64 t.c.q) := HKt.out.cell 0 rfl 5
          have c_t_6_44 : w8.cell? ⟨gt, 6, none⟩ = some (.int .i64 t.c.a) := HKt.out.cell 0 rfl 6
          have c_t_7_45 : w8.cell? ⟨gt, 7, none⟩ = some (.slice An2 nn2 cn2) := HKt.out.cell 0 rfl 7
          have c_t_8_46 : w8.cell? ⟨gt, 8, none⟩ = some (.int .i64 tt) := HKt.out.cell 0 rfl 8
          have c_t_9_47 : w8.cell? ⟨gt, 9, none⟩ = some (.int .i64 t.size) := HKt.out.cell 0 rfl 9
          have dt : (tt != 3) = true := by rw [bne_iff_ne]; exact ct2 (by decide)
          go_wp2
          go_ret
          exact ⟨rfl, HKt.out.below⟩
      have n1 : ¬ st = 1 := fun h => hst (.inl h)
      have n4 : ¬ st = 4 := fun h => hst (.inr h)
      have e1 : (st == 1) = false := by rw [beq_eq_false_iff_ne]; exact n1
      have e4 : (st == 4) = false := by rw [beq_eq_false_iff_ne]; exact n4
      have b1 : (st != 1) = true := by rw [bne_iff_ne]; exact n1
      have b4 : (st != 4) = true := by rw [bne_iff_ne]; exact n4
      clear n1 n4 hm hst
      by_cases hnum : 0 < s.num
      · skip
        have dn : decide (0 < s.num) = true := by simp; omega
        go_upto_region 18 with (fail)
        clear c_s_0_15 c_s_1_16 c_s_2_17 c_s_3_18 c_s_4_19 c_s_5_20 c_s_6_21 c_s_7_22 c_s_8_23 c_s_9_24
        go_upto_region 19 with (fail)
        obtain ⟨kk, hkk, hkn⟩ : ∃ kk : Nat, cut % ((n : Int) + 1) = (kk : Int) ∧ kk ≤ n := ⟨_, (Int.toNat_of_nonneg (Int.emod_nonneg _ (by omega))).symm, by have := Int.emod_lt_of_pos cut (show (0 : Int) < (n : Int) + 1 by omega); omega⟩
        rw [hkk]
        clear hkk
        have hkc : kk ≤ c := Nat.le_trans hkn HCL.out
        have HHT := Lib.hid (scanned (bs.take kk))
        obtain ⟨ct1, ct2⟩ := (HCUT kk (by have := HSL.out; omega)).out
        have hsz2 := HKl.out.size
        have HSP := Lib.hid (show Reads wr wr.heap.size 1 A kk (byteCells (bs.take kk)) from ((HKl.out.sl 1 rfl).pre hkn).bytes)
        clear HCUT
        go_wp2_with fail
        with_reducible refine (Read_s A kk c wr.heap.size (bs.take kk) _ wr HKl.out.xok' HSP.out (Nat.le_refl _) hkc (by have := HCM.out; unfold maxLen at this; omega) (by omega)).mono ?_
        clear HSP
        generalize hsc2 : scanF (bs.take kk) scn0 = R2 at HHT ct1 ct2 ⊢
        clear hsc2
        obtain ⟨t, tt⟩ := R2
        rintro e w6 ⟨hb, ve2, An2, nn2, cn2, rfl, hown, hns, -, hvx⟩
        simp only at HHT ct1 ct2
        have HC1 := Lib.hid ct1
        clear ct1
        obtain ⟨Ae2, ce2, rfl, hse⟩ := Sl.of_own (s := evSh) hown hvx (repAll_ev _ (fun e he => okE_of (HHT.out.chk e he))) (by decide)
        clear hown hvx hns
        have HK25 := Lib.hid (show Held w [] [] w6 [.box (gs) 54 #[.int .i64 s.num, .int .i64 s.bq, .int .i64 s.ba, .slice none 0 0, .slice Ae s.evs.length ce, .int .i64 s.c.q, .int .i64 s.c.a, .slice An nn cn, .int .i64 st, .int .i64 s.size]] [Sl.fact evSh Ae2 t.evs.length ce2 t.evs, Sl.fact evSh Ae s.evs.length ce s.evs, Sl.fact byteSh A n c bs] from ((HKl.out.on hb).know (Sl.fact evSh Ae2 t.evs.length ce2 t.evs) hse))
        clear HKl
        clear hb
        clear hse
        have HK26 := Lib.hid (show Held w [] [] (w6.alloc (.cells #[.int .i64 t.num, .int .i64 t.bq, .int .i64 t.ba, .slice none 0 0, .slice Ae2 t.evs.length ce2, .int .i64 t.c.q, .int .i64 t.c.a, .slice An2 nn2 cn2, .int .i64 tt, .int .i64 t.size] 54)) [.box (w6.heap.size) 54 #[.int .i64 t.num, .int .i64 t.bq, .int .i64 t.ba, .slice none 0 0, .slice Ae2 t.evs.length ce2, .int .i64 t.c.q, .int .i64 t.c.a, .slice An2 nn2 cn2, .int .i64 tt, .int .i64 t.size], .box (gs) 54 #[.int .i64 s.num, .int .i64 s.bq, .int .i64 s.ba, .slice none 0 0, .slice Ae s.evs.length ce, .int .i64 s.c.q, .int .i64 s.c.a, .slice An nn cn, .int .i64 st, .int .i64 s.size]] [Sl.fact evSh Ae2 t.evs.length ce2 t.evs, Sl.fact evSh Ae s.evs.length ce s.evs, Sl.fact byteSh A n c bs] from HK25.out.alloc_at 54 #[.int .i64 t.num, .int .i64 t.bq, .int .i64 t.ba, .slice none 0 0, .slice Ae2 t.evs.length ce2, .int .i64 t.c.q, .int .i64 t.c.a, .slice An2 nn2 cn2, .int .i64 tt, .int .i64 t.size] (w6.heap.size) (by simp))
        clear HK25
        go_upto_region 20 with (fail)
        generalize w6.alloc (.cells #[.int .i64 t.num, .int .i64 t.bq, .int .i64 t.ba, .slice none 0 0, .slice Ae2 t.evs.length ce2, .int .i64 t.c.q, .int .i64 t.c.a, .slice An2 nn2 cn2, .int .i64 tt, .int .i64 t.size] 54) = w7 at HK26 ⊢
        generalize w6.heap.size = gt at HK26 ⊢
        have htl : t.evs.length ≤ s.evs.length := by have := congrArg List.length HC1.out; rw [List.length_take] at this; omega
        have htm : t.evs.length ≤ 100000 := by have := HSA.out.many; have := HSL.out; omega
        have dg : decide (s.evs.length < t.evs.length) = false := by simp; omega
        have hec : s.evs.length ≤ ce := (HK26.out.sl 1 rfl).le
        have hte : t.evs.length ≤ ce := Nat.le_trans htl hec
        refine wp_region_noPanic ?_
        refine wp_region_held_drew (S := fun W' => Held w [] [] W' [.box (gt) 54 #[.int .i64 t.num, .int .i64 t.bq, .int .i64 t.ba, .slice none 0 0, .slice Ae2 t.evs.length ce2, .int .i64 t.c.q, .int .i64 t.c.a, .slice An2 nn2 cn2, .int .i64 tt, .int .i64 t.size], .box (gs) 54 #[.int .i64 s.num, .int .i64 s.bq, .int .i64 s.ba, .slice none 0 0, .slice Ae s.evs.length ce, .int .i64 s.c.q, .int .i64 s.c.a, .slice An nn cn, .int .i64 st, .int .i64 s.size]] [Sl.fact evSh Ae2 t.evs.length ce2 t.evs, Sl.fact evSh Ae s.evs.length ce s.evs, Sl.fact byteSh A n c bs]) (by kernel_rfl) HK26.out.drew (fun hHeld => ?_)
        have HK27 := Lib.hid (show Held w [] [] w7.drew [.box (gt) 54 #[.int .i64 t.num, .int .i64 t.bq, .int .i64 t.ba, .slice none 0 0, .slice Ae2 t.evs.length ce2, .int .i64 t.c.q, .int .i64 t.c.a, .slice An2 nn2 cn2, .int .i64 tt, .int .i64 t.size], .box (gs) 54 #[.int .i64 s.num, .int .i64 s.bq, .int .i64 s.ba, .slice none 0 0, .slice Ae s.evs.length ce, .int .i64 s.c.q, .int .i64 s.c.a, .slice An nn cn, .int .i64 st, .int .i64 s.size]] [Sl.fact evSh Ae2 t.evs.length ce2 t.evs, Sl.fact evSh Ae s.evs.length ce s.evs, Sl.fact byteSh A n c bs] from HK26.out.drew)
        clear HK26
        generalize w7.drew = wd at hHeld HK27 ⊢
        refine takeH 0 (v := ?v0u119) rfl (by kernel_rfl) (by kernel_rfl) (by kernel_rfl) rfl (fun _ _ _ h => h) (Or.inl ⟨by rfl, ?y0u119⟩) hHeld ?r0u119
        case y0u119 => (intro W hSW; (try dsimp only at hSW); go_simp; try with_reducible rfl)
        simp only [Act.put, sI, sZ, sS]
        refine takeH 1 (v := ?v1u120) rfl (by kernel_rfl) (by kernel_rfl) (by kernel_rfl) rfl (fun _ _ _ h => h) (Or.inl ⟨by rfl, ?y1u120⟩) hHeld ?r1u120
        case y1u120 => (intro W hSW; (try dsimp only at hSW); have q4 : W.cell? ⟨gt, 4, none⟩ = some (.slice Ae2 t.evs.length ce2) := hSW.cell 0 rfl 4; go_simp; try with_reducible rfl)
        simp only [Act.put, sI, sZ, sS]
        refine takeH 2 (v := ?v2u121) rfl (by kernel_rfl) (by kernel_rfl) (by kernel_rfl) rfl (fun _ _ _ h => h) (Or.inl ⟨by rfl, ?y2u121⟩) hHeld ?r2u121
        case y2u121 => (intro W hSW; (try dsimp only at hSW); go_simp; try with_reducible rfl)
        simp only [Act.put, sI, sZ, sS]
        refine takeH 3 (v := ?v3u122) rfl (by kernel_rfl) (by kernel_rfl) (by kernel_rfl) rfl (fun _ _ _ h => h) (Or.inl ⟨by rfl, ?y3u122⟩) hHeld ?r3u122
        case y3u122 => (intro W hSW; (try dsimp only at hSW); go_simp; try with_reducible rfl)
        simp only [Act.put, sI, sZ, sS]
        refine takeH 4 (v := ?v4u123) rfl (by kernel_rfl) (by kernel_rfl) (by kernel_rfl) rfl (fun _ _ _ h => h) (Or.inl ⟨by rfl, ?y4u123⟩) hHeld ?r4u123
        case y4u123 => (intro W hSW; (try dsimp only at hSW); have q4 : W.cell? ⟨gs, 4, none⟩ = some (.slice Ae s.evs.length ce) := hSW.cell 1 rfl 4; go_simp; try with_reducible rfl)
        simp only [Act.put, sI, sZ, sS]
        refine takeH 5 (v := ?v5u124) rfl (by kernel_rfl) (by kernel_rfl) (by kernel_rfl) rfl (fun _ _ _ h => h) (Or.inl ⟨by rfl, ?y5u124⟩) hHeld ?r5u124
        case y5u124 => (intro W hSW; (try dsimp only at hSW); go_simp; try with_reducible rfl)
        simp only [Act.put, sI, sZ, sS]
        refine takeH 6 (v := ?v6u125) rfl (by kernel_rfl) (by kernel_rfl) (by kernel_rfl) rfl (fun _ _ _ h => h) (Or.inl ⟨by rfl, ?y6u125⟩) hHeld ?r6u125
        case y6u125 => (intro W hSW; (try dsimp only at hSW); go_simp; try with_reducible rfl)
        simp only [Act.put, sI, sZ, sS]
        refine takeH 7 (v := ?v7u126) rfl (by kernel_rfl) (by kernel_rfl) (by kernel_rfl) rfl (fun _ _ _ h => h) (Or.inl ⟨by rfl, ?y7u126⟩) hHeld ?r7u126
        case y7u126 => (intro W hSW; (try dsimp only at hSW); go_simp; try with_reducible rfl)
        simp only [Act.put, sI, sZ, sS]
        refine takeH 8 (v := ?v8u127) rfl (by kernel_rfl) (by kernel_rfl) (by kernel_rfl) rfl (fun _ _ _ h => h) (Or.inl ⟨by rfl, ?y8u127⟩) hHeld ?r8u127
        case y8u127 => (intro W hSW; (try dsimp only at hSW); go_simp; try with_reducible rfl)
        simp only [Act.put, sI, sZ, sS]
        refine takeH 9 (v := ?v9u128) rfl (by kernel_rfl) (by kernel_rfl) (by kernel_rfl) rfl (fun _ _ _ h => h) (Or.inl ⟨by rfl, ?y9u128⟩) hHeld ?r9u128
        case y9u128 => (intro W hSW; (try dsimp only at hSW); have q4 : W.cell? ⟨gt, 4, none⟩ = some (.slice Ae2 t.evs.length ce2) := hSW.cell 0 rfl 4; go_simp; try with_reducible rfl)
        simp only [Act.put, sI, sZ, sS]
        refine takeH 10 (v := ?v10u129) rfl (by kernel_rfl) (by kernel_rfl) (by kernel_rfl) rfl (fun _ _ _ h => h) (Or.inl ⟨by rfl, ?y10u129⟩) hHeld ?r10u129
        case y10u129 => (intro W hSW; (try dsimp only at hSW); go_simp; try with_reducible rfl)
        simp only [Act.put, sI, sZ, sS]
        refine takeH 11 (v := ?v11u130) rfl (by kernel_rfl) (by kernel_rfl) (by kernel_rfl) rfl (fun _ _ _ h => h) (Or.inl ⟨by rfl, ?y11u130⟩) hHeld ?r11u130
        case y11u130 => (intro W hSW; (try dsimp only at hSW); have q4 : W.cell? ⟨gs, 4, none⟩ = some (.slice Ae s.evs.length ce) := hSW.cell 1 rfl 4; go_simp; try with_reducible rfl)
        simp only [Act.put, sI, sZ, sS]
        refine takeH 12 (v := ?v12u131) rfl (by kernel_rfl) (by kernel_rfl) (by kernel_rfl) rfl (fun _ _ _ h => h) (Or.inl ⟨by rfl, ?y12u131⟩) hHeld ?r12u131
        case y12u131 => (intro W hSW; (try dsimp only at hSW); go_simp; try with_reducible rfl)
        simp only [Act.put, sI, sZ, sS]
        refine takeH 13 (v := ?v13u132) rfl (by kernel_rfl) (by kernel_rfl) (by kernel_rfl) rfl (fun _ _ _ h => h) (Or.inl ⟨by rfl, ?y13u132⟩) hHeld ?r13u132
        case y13u132 => (intro W hSW; (try dsimp only at hSW); have q4 : W.cell? ⟨gt, 4, none⟩ = some (.slice Ae2 t.evs.length ce2) := hSW.cell 0 rfl 4; go_simp; try with_reducible rfl)
        simp only [Act.put, sI, sZ, sS]
        refine takeH 14 (v := ?v14u133) rfl (by kernel_rfl) (by kernel_rfl) (by kernel_rfl) rfl (fun _ _ _ h => h) (Or.inl ⟨by rfl, ?y14u133⟩) hHeld ?r14u133
        case y14u133 => (intro W hSW; (try dsimp only at hSW); go_simp; try with_reducible rfl)
        simp only [Act.put, sI, sZ, sS]
        refine takeH 15 (v := ?v15u134) rfl (by kernel_rfl) (by kernel_rfl) (by kernel_rfl) rfl (fun _ _ _ h => h) (Or.inl ⟨by rfl, ?y15u134⟩) hHeld ?r15u134
        case y15u134 => (intro W hSW; (try dsimp only at hSW); go_simp; try with_reducible rfl)
        simp only [Act.put, sI, sZ, sS]
        refine wpAnyH_ready (rs := [16]) (by kernel_rfl) (by simp) ?_
        refine AllReadyH.cons rfl (fun K hK => ?_) AllReadyH.nil
        go_simp
        with_reducible refine (EvSame_c Ae2 t.evs.length ce2 _ t.evs Ae t.evs.length ce (s.evs.take t.evs.length) _ (hHeld.sl 0 rfl).evr ((hHeld.sl 1 rfl).pre htl).evr (Nat.le_refl _) (by omega) (by omega)).mono ?_
        rintro e w8 ⟨r, rfl, hre, hb9⟩
        obtain rfl : r = true := hre.2 HC1.out
        have hkn := hHeld.on hb9
        clear hb9 hre
        refine hK.out _ _ hkn (fun hHeld => ?_)
        clear hK K
        try simp only [Act.put, sI, sZ, sS]
        refine takeH 17 (v := ?v17u135) rfl (by kernel_rfl) (by kernel_rfl) (by kernel_rfl) rfl (fun _ _ _ h => h) (Or.inl ⟨by rfl, ?y17u135⟩) hHeld ?r17u135
        case y17u135 => (intro W hSW; (try dsimp only at hSW); go_simp; try with_reducible rfl)
        simp only [Act.put, sI, sZ, sS]
        refine takeH 18 (v := ?v18u136) rfl (by kernel_rfl) (by kernel_rfl) (by kernel_rfl) rfl (fun _ _ _ h => h) (Or.inl ⟨by rfl, ?y18u136⟩) hHeld ?r18u136
        case y18u136 => (intro W hSW; (try dsimp only at hSW); go_simp; try with_reducible rfl)
        simp only [Act.put, sI, sZ, sS]
        refine wpAnyH_done (by kernel_rfl) ?_ _
        refine NoPanic.normal ?_
        have HKt := Lib.hid hHeld
        clear hHeld HK27
        have c_s_0_28 : w8.cell? ⟨gs, 0, none⟩ = some (.int .i64 s.num) := HKt.out.cell 1 rfl 0
        have c_s_1_29 : w8.cell? ⟨gs, 1, none⟩ = some (.int .i64 s.bq) := HKt.out.cell 1 rfl 1
        have c_s_2_30 : w8.cell? ⟨gs, 2, none⟩ = some (.int .i64 s.ba) := HKt.out.cell 1 rfl 2
        have c_s_3_31 : w8.cell? ⟨gs, 3, none⟩ = some (.slice none 0 0) := HKt.out.cell 1 rfl 3
        have c_s_4_32 : w8.cell? ⟨gs, 4, none⟩ = some (.slice Ae s.evs.length ce) := HKt.out.cell 1 rfl 4
        have c_s_5_33 : w8.cell? ⟨gs, 5, none⟩ = some (.int .i64 s.c.q) := HKt.out.cell 1 rfl 5
        have c_s_6_34 : w8.cell? ⟨gs, 6, none⟩ = some (.int .i64 s.c.a) := HKt.out.cell 1 rfl 6
        have c_s_7_35 : w8.cell? ⟨gs, 7, none⟩ = some (.slice An nn cn) := HKt.out.cell 1 rfl 7
        have c_s_8_36 : w8.cell? ⟨gs, 8, none⟩ = some (.int .i64 st) := HKt.out.cell 1 rfl 8
        have c_s_9_37 : w8.cell? ⟨gs, 9, none⟩ = some (.int .i64 s.size) := HKt.out.cell 1 rfl 9
        have c_t_0_38 : w8.cell? ⟨gt, 0, none⟩ = some (.int .i64 t.num) := HKt.out.cell 0 rfl 0
        have c_t_1_39 : w8.cell? ⟨gt, 1, none⟩ = some (.int .i64 t.bq) := HKt.out.cell 0 rfl 1
        have c_t_2_40 : w8.cell? ⟨gt, 2, none⟩ = some (.int .i64 t.ba) := HKt.out.cell 0 rfl 2
        have c_t_3_41 : w8.cell? ⟨gt, 3, none⟩ = some (.slice none 0 0) := HKt.out.cell 0 rfl 3
        have c_t_4_42 : w8.cell? ⟨gt, 4, none⟩ = some (.slice Ae2 t.evs.length ce2) := HKt.out.cell 0 rfl 4
        have c_t_5_43 : w8.cell? ⟨gt, 5, none⟩ = some (.int .i64 t.c.q) := HKt.out.cell 0 rfl 5
        have c_t_6_44 : w8.cell? ⟨gt, 6, none⟩ = some (.int .i64 t.c.a) := HKt.out.cell 0 rfl 6
        have c_t_7_45 : w8.cell? ⟨gt, 7, none⟩ = some (.slice An2 nn2 cn2) := HKt.out.cell 0 rfl 7
        have c_t_8_46 : w8.cell? ⟨gt, 8, none⟩ = some (.int .i64 tt) := HKt.out.cell 0 rfl 8
        have c_t_9_47 : w8.cell? ⟨gt, 9, none⟩ = some (.int .i64 t.size) := HKt.out.cell 0 rfl 9
        go_wp2
        go_ret
        exact ⟨rfl, HKt.out.below⟩
      · skip
        have dn : decide (0 < s.num) = false := by simp; omega
        go_upto_region 18 with (fail)
        clear c_s_0_15 c_s_1_16 c_s_2_17 c_s_3_18 c_s_4_19 c_s_5_20 c_s_6_21 c_s_7_22 c_s_8_23 c_s_9_24
        go_upto_region 19 with (fail)
        obtain ⟨kk, hkk, hkn⟩ : ∃ kk : Nat, cut % ((n : Int) + 1) = (kk : Int) ∧ kk ≤ n := ⟨_, (Int.toNat_of_nonneg (Int.emod_nonneg _ (by omega))).symm, by have := Int.emod_lt_of_pos cut (show (0 : Int) < (n : Int) + 1 by omega); omega⟩
        rw [hkk]
        clear hkk
        have hkc : kk ≤ c := Nat.le_trans hkn HCL.out
        have HHT := Lib.hid (scanned (bs.take kk))
        obtain ⟨ct1, ct2⟩ := (HCUT kk (by have := HSL.out; omega)).out
        have hsz2 := HKl.out.size
        have HSP := Lib.hid (show Reads wr wr.heap.size 1 A kk (byteCells (bs.take kk)) from ((HKl.out.sl 1 rfl).pre hkn).bytes)
        clear HCUT
        go_wp2_with fail
        with_reducible refine (Read_s A kk c wr.heap.size (bs.take kk) _ wr HKl.out.xok' HSP.out (Nat.le_refl _) hkc (by have := HCM.out; unfold maxLen at this; omega) (by omega)).mono ?_
        clear HSP
        generalize hsc2 : scanF (bs.take kk) scn0 = R2 at HHT ct1 ct2 ⊢
        clear hsc2
        obtain ⟨t, tt⟩ := R2
        rintro e w6 ⟨hb, ve2, An2, nn2, cn2, rfl, hown, hns, -, hvx⟩
        simp only at HHT ct1 ct2
        have HC1 := Lib.hid ct1
        clear ct1
        obtain ⟨Ae2, ce2, rfl, hse⟩ := Sl.of_own (s := evSh) hown hvx (repAll_ev _ (fun e he => okE_of (HHT.out.chk e he))) (by decide)
        clear hown hvx hns
        have HK25 := Lib.hid (show Held w [] [] w6 [.box (gs) 54 #[.int .i64 s.num, .int .i64 s.bq, .int .i64 s.ba, .slice none 0 0, .slice Ae s.evs.length ce, .int .i64 s.c.q, .int .i64 s.c.a, .slice An nn cn, .int .i64 st, .int .i64 s.size]] [Sl.fact evSh Ae2 t.evs.length ce2 t.evs, Sl.fact evSh Ae s.evs.length ce s.evs, Sl.fact byteSh A n c bs] from ((HKl.out.on hb).know (Sl.fact evSh Ae2 t.evs.length ce2 t.evs) hse))
        clear HKl
        clear hb
        clear hse
        have HK26 := Lib.hid (show Held w [] [] (w6.alloc (.cells #[.int .i64 t.num, .int .i64 t.bq, .int .i64 t.ba, .slice none 0 0, .slice Ae2 t.evs.length ce2, .int .i64 t.c.q, .int .i64 t.c.a, .slice An2 nn2 cn2, .int .i64 tt, .int .i64 t.size] 54)) [.box (w6.heap.size) 54 #[.int .i64 t.num, .int .i64 t.bq, .int .i64 t.ba, .slice none 0 0, .slice Ae2 t.evs.length ce2, .int .i64 t.c.q, .int .i64 t.c.a, .slice An2 nn2 cn2, .int .i64 tt, .int .i64 t.size], .box (gs) 54 #[.int .i64 s.num, .int .i64 s.bq, .int .i64 s.ba, .slice none 0 0, .slice Ae s.evs.length ce, .int .i64 s.c.q, .int .i64 s.c.a, .slice An nn cn, .int .i64 st, .int .i64 s.size]] [Sl.fact evSh Ae2 t.evs.length ce2 t.evs, Sl.fact evSh Ae s.evs.length ce s.evs, Sl.fact byteSh A n c bs] from HK25.out.alloc_at 54 #[.int .i64 t.num, .int .i64 t.bq, .int .i64 t.ba, .slice none 0 0, .slice Ae2 t.evs.length ce2, .int .i64 t.c.q, .int .i64 t.c.a, .slice An2 nn2 cn2, .int .i64 tt, .int .i64 t.size] (w6.heap.size) (by simp))
        clear HK25
        go_upto_region 20 with (fail)
        generalize w6.alloc (.cells #[.int .i64 t.num, .int .i64 t.bq, .int .i64 t.ba, .slice none 0 0, .slice Ae2 t.evs.length ce2, .int .i64 t.c.q, .int .i64 t.c.a, .slice An2 nn2 cn2, .int .i64 tt, .int .i64 t.size] 54) = w7 at HK26 ⊢
        generalize w6.heap.size = gt at HK26 ⊢
        have htl : t.evs.length ≤ s.evs.length := by have := congrArg List.length HC1.out; rw [List.length_take] at this; omega
        have htm : t.evs.length ≤ 100000 := by have := HSA.out.many; have := HSL.out; omega
        have dg : decide (s.evs.length < t.evs.length) = false := by simp; omega
        have hec : s.evs.length ≤ ce := (HK26.out.sl 1 rfl).le
        have hte : t.evs.length ≤ ce := Nat.le_trans htl hec
        refine wp_region_noPanic ?_
        refine wp_region_held_drew (S := fun W' => Held w [] [] W' [.box (gt) 54 #[.int .i64 t.num, .int .i64 t.bq, .int .i64 t.ba, .slice none 0 0, .slice Ae2 t.evs.length ce2, .int .i64 t.c.q, .int .i64 t.c.a, .slice An2 nn2 cn2, .int .i64 tt, .int .i64 t.size], .box (gs) 54 #[.int .i64 s.num, .int .i64 s.bq, .int .i64 s.ba, .slice none 0 0, .slice Ae s.evs.length ce, .int .i64 s.c.q, .int .i64 s.c.a, .slice An nn cn, .int .i64 st, .int .i64 s.size]] [Sl.fact evSh Ae2 t.evs.length ce2 t.evs, Sl.fact evSh Ae s.evs.length ce s.evs, Sl.fact byteSh A n c bs]) (by kernel_rfl) HK26.out.drew (fun hHeld => ?_)
        have HK27 := Lib.hid (show Held w [] [] w7.drew [.box (gt) 54 #[.int .i64 t.num, .int .i64 t.bq, .int .i64 t.ba, .slice none 0 0, .slice Ae2 t.evs.length ce2, .int .i64 t.c.q, .int .i64 t.c.a, .slice An2 nn2 cn2, .int .i64 tt, .int .i64 t.size], .box (gs) 54 #[.int .i64 s.num, .int .i64 s.bq, .int .i64 s.ba, .slice none 0 0, .slice Ae s.evs.length ce, .int .i64 s.c.q, .int .i64 s.c.a, .slice An nn cn, .int .i64 st, .int .i64 s.size]] [Sl.fact evSh Ae2 t.evs.length ce2 t.evs, Sl.fact evSh Ae s.evs.length ce s.evs, Sl.fact byteSh A n c bs] from HK26.out.drew)
        clear HK26
        generalize w7.drew = wd at hHeld HK27 ⊢
        refine takeH 0 (v := ?v0u137) rfl (by kernel_rfl) (by kernel_rfl) (by kernel_rfl) rfl (fun _ _ _ h => h) (Or.inl ⟨by rfl, ?y0u137⟩) hHeld ?r0u137
        case y0u137 => (intro W hSW; (try dsimp only at hSW); go_simp; try with_reducible rfl)
        simp only [Act.put, sI, sZ, sS]
        refine takeH 1 (v := ?v1u138) rfl (by kernel_rfl) (by kernel_rfl) (by kernel_rfl) rfl (fun _ _ _ h => h) (Or.inl ⟨by rfl, ?y1u138⟩) hHeld ?r1u138
        case y1u138 => (intro W hSW; (try dsimp only at hSW); have q4 : W.cell? ⟨gt, 4, none⟩ = some (.slice Ae2 t.evs.length ce2) := hSW.cell 0 rfl 4; go_simp; try with_reducible rfl)
        simp only [Act.put, sI, sZ, sS]
        refine takeH 2 (v := ?v2u139) rfl (by kernel_rfl) (by kernel_rfl) (by kernel_rfl) rfl (fun _ _ _ h => h) (Or.inl ⟨by rfl, ?y2u139⟩) hHeld ?r2u139
        case y2u139 => (intro W hSW; (try dsimp only at hSW); go_simp; try with_reducible rfl)
        simp only [Act.put, sI, sZ, sS]
        refine takeH 3 (v := ?v3u140) rfl (by kernel_rfl) (by kernel_rfl) (by kernel_rfl) rfl (fun _ _ _ h => h) (Or.inl ⟨by rfl, ?y3u140⟩) hHeld ?r3u140
        case y3u140 => (intro W hSW; (try dsimp only at hSW); go_simp; try with_reducible rfl)
        simp only [Act.put, sI, sZ, sS]
        refine takeH 4 (v := ?v4u141) rfl (by kernel_rfl) (by kernel_rfl) (by kernel_rfl) rfl (fun _ _ _ h => h) (Or.inl ⟨by rfl, ?y4u141⟩) hHeld ?r4u141
        case y4u141 => (intro W hSW; (try dsimp only at hSW); have q4 : W.cell? ⟨gs, 4, none⟩ = some (.slice Ae s.evs.length ce) := hSW.cell 1 rfl 4; go_simp; try with_reducible rfl)
        simp only [Act.put, sI, sZ, sS]
        refine takeH 5 (v := ?v5u142) rfl (by kernel_rfl) (by kernel_rfl) (by kernel_rfl) rfl (fun _ _ _ h => h) (Or.inl ⟨by rfl, ?y5u142⟩) hHeld ?r5u142
        case y5u142 => (intro W hSW; (try dsimp only at hSW); go_simp; try with_reducible rfl)
        simp only [Act.put, sI, sZ, sS]
        refine takeH 6 (v := ?v6u143) rfl (by kernel_rfl) (by kernel_rfl) (by kernel_rfl) rfl (fun _ _ _ h => h) (Or.inl ⟨by rfl, ?y6u143⟩) hHeld ?r6u143
        case y6u143 => (intro W hSW; (try dsimp only at hSW); go_simp; try with_reducible rfl)
        simp only [Act.put, sI, sZ, sS]
        refine takeH 7 (v := ?v7u144) rfl (by kernel_rfl) (by kernel_rfl) (by kernel_rfl) rfl (fun _ _ _ h => h) (Or.inl ⟨by rfl, ?y7u144⟩) hHeld ?r7u144
        case y7u144 => (intro W hSW; (try dsimp only at hSW); go_simp; try with_reducible rfl)
        simp only [Act.put, sI, sZ, sS]
        refine takeH 8 (v := ?v8u145) rfl (by kernel_rfl) (by kernel_rfl) (by kernel_rfl) rfl (fun _ _ _ h => h) (Or.inl ⟨by rfl, ?y8u145⟩) hHeld ?r8u145
        case y8u145 => (intro W hSW; (try dsimp only at hSW); go_simp; try with_reducible rfl)
        simp only [Act.put, sI, sZ, sS]
        refine takeH 9 (v := ?v9u146) rfl (by kernel_rfl) (by kernel_rfl) (by kernel_rfl) rfl (fun _ _ _ h => h) (Or.inl ⟨by rfl, ?y9u146⟩) hHeld ?r9u146
        case y9u146 => (intro W hSW; (try dsimp only at hSW); have q4 : W.cell? ⟨gt, 4, none⟩ = some (.slice Ae2 t.evs.length ce2) := hSW.cell 0 rfl 4; go_simp; try with_reducible rfl)
        simp only [Act.put, sI, sZ, sS]
        refine takeH 10 (v := ?v10u147) rfl (by kernel_rfl) (by kernel_rfl) (by kernel_rfl) rfl (fun _ _ _ h => h) (Or.inl ⟨by rfl, ?y10u147⟩) hHeld ?r10u147
        case y10u147 => (intro W hSW; (try dsimp only at hSW); go_simp; try with_reducible rfl)
        simp only [Act.put, sI, sZ, sS]
        refine takeH 11 (v := ?v11u148) rfl (by kernel_rfl) (by kernel_rfl) (by kernel_rfl) rfl (fun _ _ _ h => h) (Or.inl ⟨by rfl, ?y11u148⟩) hHeld ?r11u148
        case y11u148 => (intro W hSW; (try dsimp only at hSW); have q4 : W.cell? ⟨gs, 4, none⟩ = some (.slice Ae s.evs.length ce) := hSW.cell 1 rfl 4; go_simp; try with_reducible rfl)
        simp only [Act.put, sI, sZ, sS]
        refine takeH 12 (v := ?v12u149) rfl (by kernel_rfl) (by kernel_rfl) (by kernel_rfl) rfl (fun _ _ _ h => h) (Or.inl ⟨by rfl, ?y12u149⟩) hHeld ?r12u149
        case y12u149 => (intro W hSW; (try dsimp only at hSW); go_simp; try with_reducible rfl)
        simp only [Act.put, sI, sZ, sS]
        refine takeH 13 (v := ?v13u150) rfl (by kernel_rfl) (by kernel_rfl) (by kernel_rfl) rfl (fun _ _ _ h => h) (Or.inl ⟨by rfl, ?y13u150⟩) hHeld ?r13u150
        case y13u150 => (intro W hSW; (try dsimp only at hSW); have q4 : W.cell? ⟨gt, 4, none⟩ = some (.slice Ae2 t.evs.length ce2) := hSW.cell 0 rfl 4; go_simp; try with_reducible rfl)
        simp only [Act.put, sI, sZ, sS]
        refine takeH 14 (v := ?v14u151) rfl (by kernel_rfl) (by kernel_rfl) (by kernel_rfl) rfl (fun _ _ _ h => h) (Or.inl ⟨by rfl, ?y14u151⟩) hHeld ?r14u151
        case y14u151 => (intro W hSW; (try dsimp only at hSW); go_simp; try with_reducible rfl)
        simp only [Act.put, sI, sZ, sS]
        refine takeH 15 (v := ?v15u152) rfl (by kernel_rfl) (by kernel_rfl) (by kernel_rfl) rfl (fun _ _ _ h => h) (Or.inl ⟨by rfl, ?y15u152⟩) hHeld ?r15u152
        case y15u152 => (intro W hSW; (try dsimp only at hSW); go_simp; try with_reducible rfl)
        simp only [Act.put, sI, sZ, sS]
        refine wpAnyH_ready (rs := [16]) (by kernel_rfl) (by simp) ?_
        refine AllReadyH.cons rfl (fun K hK => ?_) AllReadyH.nil
        go_simp
        with_reducible refine (EvSame_c Ae2 t.evs.length ce2 _ t.evs Ae t.evs.length ce (s.evs.take t.evs.length) _ (hHeld.sl 0 rfl).evr ((hHeld.sl 1 rfl).pre htl).evr (Nat.le_refl _) (by omega) (by omega)).mono ?_
        rintro e w8 ⟨r, rfl, hre, hb9⟩
        obtain rfl : r = true := hre.2 HC1.out
        have hkn := hHeld.on hb9
        clear hb9 hre
        refine hK.out _ _ hkn (fun hHeld => ?_)
        clear hK K
        try simp only [Act.put, sI, sZ, sS]
        refine takeH 17 (v := ?v17u153) rfl (by kernel_rfl) (by kernel_rfl) (by kernel_rfl) rfl (fun _ _ _ h => h) (Or.inl ⟨by rfl, ?y17u153⟩) hHeld ?r17u153
        case y17u153 => (intro W hSW; (try dsimp only at hSW); go_simp; try with_reducible rfl)
        simp only [Act.put, sI, sZ, sS]
        refine takeH 18 (v := ?v18u154) rfl (by kernel_rfl) (by kernel_rfl) (by kernel_rfl) rfl (fun _ _ _ h => h) (Or.inl ⟨by rfl, ?y18u154⟩) hHeld ?r18u154
        case y18u154 => (intro W hSW; (try dsimp only at hSW); go_simp; try with_reducible rfl)
        simp only [Act.put, sI, sZ, sS]
        refine wpAnyH_done (by kernel_rfl) ?_ _
        refine NoPanic.normal ?_
        have HKt := Lib.hid hHeld
        clear hHeld HK27
        have c_s_0_28 : w8.cell? ⟨gs, 0, none⟩ = some (.int .i64 s.num) := HKt.out.cell 1 rfl 0
        have c_s_1_29 : w8.cell? ⟨gs, 1, none⟩ = some (.int .i64 s.bq) := HKt.out.cell 1 rfl 1
        have c_s_2_30 : w8.cell? ⟨gs, 2, none⟩ = some (.int .i64 s.ba) := HKt.out.cell 1 rfl 2
        have c_s_3_31 : w8.cell? ⟨gs, 3, none⟩ = some (.slice none 0 0) := HKt.out.cell 1 rfl 3
        have c_s_4_32 : w8.cell? ⟨gs, 4, none⟩ = some (.slice Ae s.evs.length ce) := HKt.out.cell 1 rfl 4
        have c_s_5_33 : w8.cell? ⟨gs, 5, none⟩ = some (.int .i64 s.c.q) := HKt.out.cell 1 rfl 5
        have c_s_6_34 : w8.cell? ⟨gs, 6, none⟩ = some (.int .i64 s.c.a) := HKt.out.cell 1 rfl 6
        have c_s_7_35 : w8.cell? ⟨gs, 7, none⟩ = some (.slice An nn cn) := HKt.out.cell 1 rfl 7
        have c_s_8_36 : w8.cell? ⟨gs, 8, none⟩ = some (.int .i64 st) := HKt.out.cell 1 rfl 8
        have c_s_9_37 : w8.cell? ⟨gs, 9, none⟩ = some (.int .i64 s.size) := HKt.out.cell 1 rfl 9
        have c_t_0_38 : w8.cell? ⟨gt, 0, none⟩ = some (.int .i64 t.num) := HKt.out.cell 0 rfl 0
        have c_t_1_39 : w8.cell? ⟨gt, 1, none⟩ = some (.int .i64 t.bq) := HKt.out.cell 0 rfl 1
        have c_t_2_40 : w8.cell? ⟨gt, 2, none⟩ = some (.int .i64 t.ba) := HKt.out.cell 0 rfl 2
        have c_t_3_41 : w8.cell? ⟨gt, 3, none⟩ = some (.slice none 0 0) := HKt.out.cell 0 rfl 3
        have c_t_4_42 : w8.cell? ⟨gt, 4, none⟩ = some (.slice Ae2 t.evs.length ce2) := HKt.out.cell 0 rfl 4
        have c_t_5_43 : w8.cell? ⟨gt, 5, none⟩ = some (.int .i64 t.c.q) := HKt.out.cell 0 rfl 5
        have c_t_6_44 : w8.cell? ⟨gt, 6, none⟩ = some (.int .i64 t.c.a) := HKt.out.cell 0 rfl 6
        have c_t_7_45 : w8.cell? ⟨gt, 7, none⟩ = some (.slice An2 nn2 cn2) := HKt.out.cell 0 rfl 7
        have c_t_8_46 : w8.cell? ⟨gt, 8, none⟩ = some (.int .i64 tt) := HKt.out.cell 0 rfl 8
        have c_t_9_47 : w8.cell? ⟨gt, 9, none⟩ = some (.int .i64 t.size) := HKt.out.cell 0 rfl 9
        go_wp2
        go_ret
        exact ⟨rfl, HKt.out.below⟩
end
end Go.Proofs.YtpokkciheejeiaaGreatDoor
