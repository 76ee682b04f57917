/- Lemmas and contracts that the proof of TopCut uses, part 3 of 16: each is a theorem for every input that its premises allow. -/
import Derived.BigQuiet
import Derived.StillTailTactics
import Derived.Deep.RegionHeld3
import Derived.WalkLawsBesides
import Derived.WalkSpells
import Derived.Outline
import Derived.Deep.DeepMust
import Derived.Test.YtpokkciheejeiaaGreatDoorRows
import Derived.Laws.CopyOwn
import Derived.Laws.CopyRow
import Derived.RangeFuncNested
import Derived.RangeFuncBound
import Derived.RangeFuncCalls
import Derived.RangeFuncLeaves
import Derived.RangeFuncFrom
import Derived.RangeFuncBox
import Derived.Shelf.Abstract
import Derived.Shelf.RegionOpen
import Derived.OwnWalkIn
import Derived.TacticsInMore
import Derived.LoopNIn
import Derived.LoopIn
import Derived.RegionIn
import Derived.Test.YtpokkciheejeiaaGreatDoorTuB
set_option linter.unusedVariables false
set_option linter.unusedSimpArgs false
set_option maxRecDepth 100000
namespace Go.Proofs.YtpokkciheejeiaaGreatDoor
section
open Go.RowKit
set_option maxHeartbeats 4000000 in
theorem Gc (f:Nat→Int) (s n:Int) (w:World) (h:¬ (bV f s=true∧0≤n)):Calls Tryz.prog 166 #[.agg #[.int .i64 (f 0),.int .i64 (f 1),.int .i64 (f 2),.int .i64 (f 3),.int .i64 (f 4),.int .i64 (f 5),.int .i64 (f 6),.int .i64 (f 7),.int .i64 (f 8),.int .i64 s],.int .i64 n] w fun e w'=>e = .returned (.agg #[.int .i64 (f 0),.int .i64 (f 1),.int .i64 (f 2),.int .i64 (f 3),.int .i64 (f 4),.int .i64 (f 5),.int .i64 (f 6),.int .i64 (f 7),.int .i64 (f 8),.int .i64 s])∧Below w.heap.size w w':=by
 have g:=fun W=>Lib.hid (eS f s W)
 by_cases hR:bV f s=true
 ·have j:n<0:=by
   rcases Int.lt_or_le n 0 with h' | h'
   ·exact h'
   ·exact absurd ⟨hR,h'⟩ h
  clear h
  go_enter Tryz.func166,Tryz.ntmps166
  go_wp2_with (go_at_call 222;refine((g _).out).mono ?_;rintro e w1 ⟨rfl,a⟩;obtain⟨b,c⟩:=gU a;have d:w.heap.size+1<w1.heap.size:=(by have:=a.size;simp at this;omega))
  have hbase:Below w.heap.size w w1:=(((Below.refl _ _).alloc (Nat.le_refl _) _).alloc (by simp) _).trans (a.mono (by simp;omega))
  refine bodyPost_ret (v := .agg #[.int .i64 (f 0),.int .i64 (f 1),.int .i64 (f 2),.int .i64 (f 3),.int .i64 (f 4),.int .i64 (f 5),.int .i64 (f 6),.int .i64 (f 7),.int .i64 (f 8),.int .i64 s]) (by simp[results,Tryz.results166,go_sem,b]) rfl ⟨rfl,?_⟩
  repeat (refine Below.setCell ?_ (by simp) _)
  exact hbase
 ·have i:bV f s=false:=by simpa using hR
  clear h hR
  go_enter Tryz.func166,Tryz.ntmps166
  go_wp2_with (go_at_call 222;refine((g _).out).mono ?_;rintro e w1 ⟨rfl,a⟩;obtain⟨b,c⟩:=gU a;have d:w.heap.size+1<w1.heap.size:=(by have:=a.size;simp at this;omega))
  have hbase:Below w.heap.size w w1:=(((Below.refl _ _).alloc (Nat.le_refl _) _).alloc (by simp) _).trans (a.mono (by simp;omega))
  refine bodyPost_ret (v := .agg #[.int .i64 (f 0),.int .i64 (f 1),.int .i64 (f 2),.int .i64 (f 3),.int .i64 (f 4),.int .i64 (f 5),.int .i64 (f 6),.int .i64 (f 7),.int .i64 (f 8),.int .i64 s]) (by simp[results,Tryz.results166,go_sem,b]) rfl ⟨rfl,?_⟩
  repeat (refine Below.setCell ?_ (by simp) _)
  exact hbase
set_option maxHeartbeats 4000000 in
theorem Db (f:Nat→Int) (s n:Int) (w:World) (hR:bV f s=true) (o:0≤n) (c:cg n=0):Calls Tryz.prog 166 #[.agg #[.int .i64 (f 0),.int .i64 (f 1),.int .i64 (f 2),.int .i64 (f 3),.int .i64 (f 4),.int .i64 (f 5),.int .i64 (f 6),.int .i64 (f 7),.int .i64 (f 8),.int .i64 s],.int .i64 n] w fun e w'=>e = .returned (.agg #[.int .i64 (up (f 0) 1),.int .i64 (f 1),.int .i64 (f 2),.int .i64 (f 3),.int .i64 (f 4),.int .i64 (f 5),.int .i64 (f 6),.int .i64 (f 7),.int .i64 (f 8),.int .i64 (up s n)])∧Below w.heap.size w w':=by
 have k:=fun W=>Lib.hid (eS f s W)
 have g:=Lib.hid c;clear c
 go_enter Tryz.func166,Tryz.ntmps166
 go_wp2_with (first
  | (go_at_call 222;refine((k _).out).mono ?_;rintro e w1 ⟨rfl,b⟩;obtain⟨a,d⟩:=gU b;have i:w.heap.size+1<w1.heap.size:=(by have:=b.size;simp at this;omega);have j:w1.cell? ⟨w.heap.size,0,none⟩=some (.int .i64 (f 0)):=(by have h:=a w.heap.size 0 (by simp;omega);simpa using h);have l:w1.cell? ⟨w.heap.size,9,none⟩=some (.int .i64 s):=by have h:=a w.heap.size 9 (by simp;omega);simpa using h)
  | (go_at_call 223;refine(gA _ _).mono ?_;rintro e m ⟨rfl,rfl⟩;rw[g.out])
  | (go_at_call 221;refine(nT _ _ _).mono ?_;rintro e w' ⟨rfl,rfl⟩))
 have hbase:Below w.heap.size w w1:=(((Below.refl _ _).alloc (Nat.le_refl _) _).alloc (by simp) _).trans (b.mono (by simp;omega))
 refine bodyPost_ret (v := .agg #[.int .i64 (up (f 0) 1),.int .i64 (f 1),.int .i64 (f 2),.int .i64 (f 3),.int .i64 (f 4),.int .i64 (f 5),.int .i64 (f 6),.int .i64 (f 7),.int .i64 (f 8),.int .i64 (up s n)]) (by simp[results,Tryz.results166,go_sem,a]) rfl ⟨rfl,?_⟩
 repeat (refine Below.setCell ?_ (by simp) _)
 exact hbase
set_option maxHeartbeats 4000000 in
theorem Be (f:Nat→Int) (s n:Int) (w:World) (hR:bV f s=true) (o:0≤n) (c:cg n=1):Calls Tryz.prog 166 #[.agg #[.int .i64 (f 0),.int .i64 (f 1),.int .i64 (f 2),.int .i64 (f 3),.int .i64 (f 4),.int .i64 (f 5),.int .i64 (f 6),.int .i64 (f 7),.int .i64 (f 8),.int .i64 s],.int .i64 n] w fun e w'=>e = .returned (.agg #[.int .i64 (f 0),.int .i64 (up (f 1) 1),.int .i64 (f 2),.int .i64 (f 3),.int .i64 (f 4),.int .i64 (f 5),.int .i64 (f 6),.int .i64 (f 7),.int .i64 (f 8),.int .i64 (up s n)])∧Below w.heap.size w w':=by
 have k:=fun W=>Lib.hid (eS f s W)
 have g:=Lib.hid c;clear c
 go_enter Tryz.func166,Tryz.ntmps166
 go_wp2_with (first
  | (go_at_call 222;refine((k _).out).mono ?_;rintro e w1 ⟨rfl,b⟩;obtain⟨a,d⟩:=gU b;have i:w.heap.size+1<w1.heap.size:=(by have:=b.size;simp at this;omega);have j:w1.cell? ⟨w.heap.size,1,none⟩=some (.int .i64 (f 1)):=(by have h:=a w.heap.size 1 (by simp;omega);simpa using h);have l:w1.cell? ⟨w.heap.size,9,none⟩=some (.int .i64 s):=by have h:=a w.heap.size 9 (by simp;omega);simpa using h)
  | (go_at_call 223;refine(gA _ _).mono ?_;rintro e m ⟨rfl,rfl⟩;rw[g.out])
  | (go_at_call 221;refine(nT _ _ _).mono ?_;rintro e w' ⟨rfl,rfl⟩))
 have hbase:Below w.heap.size w w1:=(((Below.refl _ _).alloc (Nat.le_refl _) _).alloc (by simp) _).trans (b.mono (by simp;omega))
 refine bodyPost_ret (v := .agg #[.int .i64 (f 0),.int .i64 (up (f 1) 1),.int .i64 (f 2),.int .i64 (f 3),.int .i64 (f 4),.int .i64 (f 5),.int .i64 (f 6),.int .i64 (f 7),.int .i64 (f 8),.int .i64 (up s n)]) (by simp[results,Tryz.results166,go_sem,a]) rfl ⟨rfl,?_⟩
 repeat (refine Below.setCell ?_ (by simp) _)
 exact hbase
set_option maxHeartbeats 4000000 in
theorem Cv (f:Nat→Int) (s n:Int) (w:World) (hR:bV f s=true) (o:0≤n) (c:cg n=2):Calls Tryz.prog 166 #[.agg #[.int .i64 (f 0),.int .i64 (f 1),.int .i64 (f 2),.int .i64 (f 3),.int .i64 (f 4),.int .i64 (f 5),.int .i64 (f 6),.int .i64 (f 7),.int .i64 (f 8),.int .i64 s],.int .i64 n] w fun e w'=>e = .returned (.agg #[.int .i64 (f 0),.int .i64 (f 1),.int .i64 (up (f 2) 1),.int .i64 (f 3),.int .i64 (f 4),.int .i64 (f 5),.int .i64 (f 6),.int .i64 (f 7),.int .i64 (f 8),.int .i64 (up s n)])∧Below w.heap.size w w':=by
 have k:=fun W=>Lib.hid (eS f s W)
 have g:=Lib.hid c;clear c
 go_enter Tryz.func166,Tryz.ntmps166
 go_wp2_with (first
  | (go_at_call 222;refine((k _).out).mono ?_;rintro e w1 ⟨rfl,b⟩;obtain⟨a,d⟩:=gU b;have i:w.heap.size+1<w1.heap.size:=(by have:=b.size;simp at this;omega);have j:w1.cell? ⟨w.heap.size,2,none⟩=some (.int .i64 (f 2)):=(by have h:=a w.heap.size 2 (by simp;omega);simpa using h);have l:w1.cell? ⟨w.heap.size,9,none⟩=some (.int .i64 s):=by have h:=a w.heap.size 9 (by simp;omega);simpa using h)
  | (go_at_call 223;refine(gA _ _).mono ?_;rintro e m ⟨rfl,rfl⟩;rw[g.out])
  | (go_at_call 221;refine(nT _ _ _).mono ?_;rintro e w' ⟨rfl,rfl⟩))
 have hbase:Below w.heap.size w w1:=(((Below.refl _ _).alloc (Nat.le_refl _) _).alloc (by simp) _).trans (b.mono (by simp;omega))
 refine bodyPost_ret (v := .agg #[.int .i64 (f 0),.int .i64 (f 1),.int .i64 (up (f 2) 1),.int .i64 (f 3),.int .i64 (f 4),.int .i64 (f 5),.int .i64 (f 6),.int .i64 (f 7),.int .i64 (f 8),.int .i64 (up s n)]) (by simp[results,Tryz.results166,go_sem,a]) rfl ⟨rfl,?_⟩
 repeat (refine Below.setCell ?_ (by simp) _)
 exact hbase
set_option maxHeartbeats 4000000 in
theorem Cf (f:Nat→Int) (s n:Int) (w:World) (hR:bV f s=true) (o:0≤n) (c:cg n=3):Calls Tryz.prog 166 #[.agg #[.int .i64 (f 0),.int .i64 (f 1),.int .i64 (f 2),.int .i64 (f 3),.int .i64 (f 4),.int .i64 (f 5),.int .i64 (f 6),.int .i64 (f 7),.int .i64 (f 8),.int .i64 s],.int .i64 n] w fun e w'=>e = .returned (.agg #[.int .i64 (f 0),.int .i64 (f 1),.int .i64 (f 2),.int .i64 (up (f 3) 1),.int .i64 (f 4),.int .i64 (f 5),.int .i64 (f 6),.int .i64 (f 7),.int .i64 (f 8),.int .i64 (up s n)])∧Below w.heap.size w w':=by
 have k:=fun W=>Lib.hid (eS f s W)
 have g:=Lib.hid c;clear c
 go_enter Tryz.func166,Tryz.ntmps166
 go_wp2_with (first
  | (go_at_call 222;refine((k _).out).mono ?_;rintro e w1 ⟨rfl,b⟩;obtain⟨a,d⟩:=gU b;have i:w.heap.size+1<w1.heap.size:=(by have:=b.size;simp at this;omega);have j:w1.cell? ⟨w.heap.size,3,none⟩=some (.int .i64 (f 3)):=(by have h:=a w.heap.size 3 (by simp;omega);simpa using h);have l:w1.cell? ⟨w.heap.size,9,none⟩=some (.int .i64 s):=by have h:=a w.heap.size 9 (by simp;omega);simpa using h)
  | (go_at_call 223;refine(gA _ _).mono ?_;rintro e m ⟨rfl,rfl⟩;rw[g.out])
  | (go_at_call 221;refine(nT _ _ _).mono ?_;rintro e w' ⟨rfl,rfl⟩))
 have hbase:Below w.heap.size w w1:=(((Below.refl _ _).alloc (Nat.le_refl _) _).alloc (by simp) _).trans (b.mono (by simp;omega))
 refine bodyPost_ret (v := .agg #[.int .i64 (f 0),.int .i64 (f 1),.int .i64 (f 2),.int .i64 (up (f 3) 1),.int .i64 (f 4),.int .i64 (f 5),.int .i64 (f 6),.int .i64 (f 7),.int .i64 (f 8),.int .i64 (up s n)]) (by simp[results,Tryz.results166,go_sem,a]) rfl ⟨rfl,?_⟩
 repeat (refine Below.setCell ?_ (by simp) _)
 exact hbase
set_option maxHeartbeats 4000000 in
theorem AJ (f:Nat→Int) (s n:Int) (w:World) (hR:bV f s=true) (o:0≤n) (c:cg n=4):Calls Tryz.prog 166 #[.agg #[.int .i64 (f 0),.int .i64 (f 1),.int .i64 (f 2),.int .i64 (f 3),.int .i64 (f 4),.int .i64 (f 5),.int .i64 (f 6),.int .i64 (f 7),.int .i64 (f 8),.int .i64 s],.int .i64 n] w fun e w'=>e = .returned (.agg #[.int .i64 (f 0),.int .i64 (f 1),.int .i64 (f 2),.int .i64 (f 3),.int .i64 (up (f 4) 1),.int .i64 (f 5),.int .i64 (f 6),.int .i64 (f 7),.int .i64 (f 8),.int .i64 (up s n)])∧Below w.heap.size w w':=by
 have k:=fun W=>Lib.hid (eS f s W)
 have g:=Lib.hid c;clear c
 go_enter Tryz.func166,Tryz.ntmps166
 go_wp2_with (first
  | (go_at_call 222;refine((k _).out).mono ?_;rintro e w1 ⟨rfl,b⟩;obtain⟨a,d⟩:=gU b;have i:w.heap.size+1<w1.heap.size:=(by have:=b.size;simp at this;omega);have j:w1.cell? ⟨w.heap.size,4,none⟩=some (.int .i64 (f 4)):=(by have h:=a w.heap.size 4 (by simp;omega);simpa using h);have l:w1.cell? ⟨w.heap.size,9,none⟩=some (.int .i64 s):=by have h:=a w.heap.size 9 (by simp;omega);simpa using h)
  | (go_at_call 223;refine(gA _ _).mono ?_;rintro e m ⟨rfl,rfl⟩;rw[g.out])
  | (go_at_call 221;refine(nT _ _ _).mono ?_;rintro e w' ⟨rfl,rfl⟩))
 have hbase:Below w.heap.size w w1:=(((Below.refl _ _).alloc (Nat.le_refl _) _).alloc (by simp) _).trans (b.mono (by simp;omega))
 refine bodyPost_ret (v := .agg #[.int .i64 (f 0),.int .i64 (f 1),.int .i64 (f 2),.int .i64 (f 3),.int .i64 (up (f 4) 1),.int .i64 (f 5),.int .i64 (f 6),.int .i64 (f 7),.int .i64 (f 8),.int .i64 (up s n)]) (by simp[results,Tryz.results166,go_sem,a]) rfl ⟨rfl,?_⟩
 repeat (refine Below.setCell ?_ (by simp) _)
 exact hbase
set_option maxHeartbeats 4000000 in
theorem AT (f:Nat→Int) (s n:Int) (w:World) (hR:bV f s=true) (o:0≤n) (c:cg n=5):Calls Tryz.prog 166 #[.agg #[.int .i64 (f 0),.int .i64 (f 1),.int .i64 (f 2),.int .i64 (f 3),.int .i64 (f 4),.int .i64 (f 5),.int .i64 (f 6),.int .i64 (f 7),.int .i64 (f 8),.int .i64 s],.int .i64 n] w fun e w'=>e = .returned (.agg #[.int .i64 (f 0),.int .i64 (f 1),.int .i64 (f 2),.int .i64 (f 3),.int .i64 (f 4),.int .i64 (up (f 5) 1),.int .i64 (f 6),.int .i64 (f 7),.int .i64 (f 8),.int .i64 (up s n)])∧Below w.heap.size w w':=by
 have k:=fun W=>Lib.hid (eS f s W)
 have g:=Lib.hid c;clear c
 go_enter Tryz.func166,Tryz.ntmps166
 go_wp2_with (first
  | (go_at_call 222;refine((k _).out).mono ?_;rintro e w1 ⟨rfl,b⟩;obtain⟨a,d⟩:=gU b;have i:w.heap.size+1<w1.heap.size:=(by have:=b.size;simp at this;omega);have j:w1.cell? ⟨w.heap.size,5,none⟩=some (.int .i64 (f 5)):=(by have h:=a w.heap.size 5 (by simp;omega);simpa using h);have l:w1.cell? ⟨w.heap.size,9,none⟩=some (.int .i64 s):=by have h:=a w.heap.size 9 (by simp;omega);simpa using h)
  | (go_at_call 223;refine(gA _ _).mono ?_;rintro e m ⟨rfl,rfl⟩;rw[g.out])
  | (go_at_call 221;refine(nT _ _ _).mono ?_;rintro e w' ⟨rfl,rfl⟩))
 have hbase:Below w.heap.size w w1:=(((Below.refl _ _).alloc (Nat.le_refl _) _).alloc (by simp) _).trans (b.mono (by simp;omega))
 refine bodyPost_ret (v := .agg #[.int .i64 (f 0),.int .i64 (f 1),.int .i64 (f 2),.int .i64 (f 3),.int .i64 (f 4),.int .i64 (up (f 5) 1),.int .i64 (f 6),.int .i64 (f 7),.int .i64 (f 8),.int .i64 (up s n)]) (by simp[results,Tryz.results166,go_sem,a]) rfl ⟨rfl,?_⟩
 repeat (refine Below.setCell ?_ (by simp) _)
 exact hbase
set_option maxHeartbeats 4000000 in
theorem AM (f:Nat→Int) (s n:Int) (w:World) (hR:bV f s=true) (o:0≤n) (c:cg n=6):Calls Tryz.prog 166 #[.agg #[.int .i64 (f 0),.int .i64 (f 1),.int .i64 (f 2),.int .i64 (f 3),.int .i64 (f 4),.int .i64 (f 5),.int .i64 (f 6),.int .i64 (f 7),.int .i64 (f 8),.int .i64 s],.int .i64 n] w fun e w'=>e = .returned (.agg #[.int .i64 (f 0),.int .i64 (f 1),.int .i64 (f 2),.int .i64 (f 3),.int .i64 (f 4),.int .i64 (f 5),.int .i64 (up (f 6) 1),.int .i64 (f 7),.int .i64 (f 8),.int .i64 (up s n)])∧Below w.heap.size w w':=by
 have k:=fun W=>Lib.hid (eS f s W)
 have g:=Lib.hid c;clear c
 go_enter Tryz.func166,Tryz.ntmps166
 go_wp2_with (first
  | (go_at_call 222;refine((k _).out).mono ?_;rintro e w1 ⟨rfl,b⟩;obtain⟨a,d⟩:=gU b;have i:w.heap.size+1<w1.heap.size:=(by have:=b.size;simp at this;omega);have j:w1.cell? ⟨w.heap.size,6,none⟩=some (.int .i64 (f 6)):=(by have h:=a w.heap.size 6 (by simp;omega);simpa using h);have l:w1.cell? ⟨w.heap.size,9,none⟩=some (.int .i64 s):=by have h:=a w.heap.size 9 (by simp;omega);simpa using h)
  | (go_at_call 223;refine(gA _ _).mono ?_;rintro e m ⟨rfl,rfl⟩;rw[g.out])
  | (go_at_call 221;refine(nT _ _ _).mono ?_;rintro e w' ⟨rfl,rfl⟩))
 have hbase:Below w.heap.size w w1:=(((Below.refl _ _).alloc (Nat.le_refl _) _).alloc (by simp) _).trans (b.mono (by simp;omega))
 refine bodyPost_ret (v := .agg #[.int .i64 (f 0),.int .i64 (f 1),.int .i64 (f 2),.int .i64 (f 3),.int .i64 (f 4),.int .i64 (f 5),.int .i64 (up (f 6) 1),.int .i64 (f 7),.int .i64 (f 8),.int .i64 (up s n)]) (by simp[results,Tryz.results166,go_sem,a]) rfl ⟨rfl,?_⟩
 repeat (refine Below.setCell ?_ (by simp) _)
 exact hbase
set_option maxHeartbeats 4000000 in
theorem Dm (f:Nat→Int) (s n:Int) (w:World) (hR:bV f s=true) (o:0≤n) (c:cg n=7):Calls Tryz.prog 166 #[.agg #[.int .i64 (f 0),.int .i64 (f 1),.int .i64 (f 2),.int .i64 (f 3),.int .i64 (f 4),.int .i64 (f 5),.int .i64 (f 6),.int .i64 (f 7),.int .i64 (f 8),.int .i64 s],.int .i64 n] w fun e w'=>e = .returned (.agg #[.int .i64 (f 0),.int .i64 (f 1),.int .i64 (f 2),.int .i64 (f 3),.int .i64 (f 4),.int .i64 (f 5),.int .i64 (f 6),.int .i64 (up (f 7) 1),.int .i64 (f 8),.int .i64 (up s n)])∧Below w.heap.size w w':=by
 have k:=fun W=>Lib.hid (eS f s W)
 have g:=Lib.hid c;clear c
 go_enter Tryz.func166,Tryz.ntmps166
 go_wp2_with (first
  | (go_at_call 222;refine((k _).out).mono ?_;rintro e w1 ⟨rfl,b⟩;obtain⟨a,d⟩:=gU b;have i:w.heap.size+1<w1.heap.size:=(by have:=b.size;simp at this;omega);have j:w1.cell? ⟨w.heap.size,7,none⟩=some (.int .i64 (f 7)):=(by have h:=a w.heap.size 7 (by simp;omega);simpa using h);have l:w1.cell? ⟨w.heap.size,9,none⟩=some (.int .i64 s):=by have h:=a w.heap.size 9 (by simp;omega);simpa using h)
  | (go_at_call 223;refine(gA _ _).mono ?_;rintro e m ⟨rfl,rfl⟩;rw[g.out])
  | (go_at_call 221;refine(nT _ _ _).mono ?_;rintro e w' ⟨rfl,rfl⟩))
 have hbase:Below w.heap.size w w1:=(((Below.refl _ _).alloc (Nat.le_refl _) _).alloc (by simp) _).trans (b.mono (by simp;omega))
 refine bodyPost_ret (v := .agg #[.int .i64 (f 0),.int .i64 (f 1),.int .i64 (f 2),.int .i64 (f 3),.int .i64 (f 4),.int .i64 (f 5),.int .i64 (f 6),.int .i64 (up (f 7) 1),.int .i64 (f 8),.int .i64 (up s n)]) (by simp[results,Tryz.results166,go_sem,a]) rfl ⟨rfl,?_⟩
 repeat (refine Below.setCell ?_ (by simp) _)
 exact hbase
set_option maxHeartbeats 4000000 in
theorem CE (f:Nat→Int) (s n:Int) (w:World) (hR:bV f s=true) (o:0≤n) (c:cg n=8):Calls Tryz.prog 166 #[.agg #[.int .i64 (f 0),.int .i64 (f 1),.int .i64 (f 2),.int .i64 (f 3),.int .i64 (f 4),.int .i64 (f 5),.int .i64 (f 6),.int .i64 (f 7),.int .i64 (f 8),.int .i64 s],.int .i64 n] w fun e w'=>e = .returned (.agg #[.int .i64 (f 0),.int .i64 (f 1),.int .i64 (f 2),.int .i64 (f 3),.int .i64 (f 4),.int .i64 (f 5),.int .i64 (f 6),.int .i64 (f 7),.int .i64 (up (f 8) 1),.int .i64 (up s n)])∧Below w.heap.size w w':=by
 have k:=fun W=>Lib.hid (eS f s W)
 have g:=Lib.hid c;clear c
 go_enter Tryz.func166,Tryz.ntmps166
 go_wp2_with (first
  | (go_at_call 222;refine((k _).out).mono ?_;rintro e w1 ⟨rfl,b⟩;obtain⟨a,d⟩:=gU b;have i:w.heap.size+1<w1.heap.size:=(by have:=b.size;simp at this;omega);have j:w1.cell? ⟨w.heap.size,8,none⟩=some (.int .i64 (f 8)):=(by have h:=a w.heap.size 8 (by simp;omega);simpa using h);have l:w1.cell? ⟨w.heap.size,9,none⟩=some (.int .i64 s):=by have h:=a w.heap.size 9 (by simp;omega);simpa using h)
  | (go_at_call 223;refine(gA _ _).mono ?_;rintro e m ⟨rfl,rfl⟩;rw[g.out])
  | (go_at_call 221;refine(nT _ _ _).mono ?_;rintro e w' ⟨rfl,rfl⟩))
 have hbase:Below w.heap.size w w1:=(((Below.refl _ _).alloc (Nat.le_refl _) _).alloc (by simp) _).trans (b.mono (by simp;omega))
 refine bodyPost_ret (v := .agg #[.int .i64 (f 0),.int .i64 (f 1),.int .i64 (f 2),.int .i64 (f 3),.int .i64 (f 4),.int .i64 (f 5),.int .i64 (f 6),.int .i64 (f 7),.int .i64 (up (f 8) 1),.int .i64 (up s n)]) (by simp[results,Tryz.results166,go_sem,a]) rfl ⟨rfl,?_⟩
 repeat (refine Below.setCell ?_ (by simp) _)
 exact hbase
theorem xJ (f:Nat→Int) (s n:Int) (w:World):Calls Tryz.prog 166 #[.agg #[.int .i64 (f 0),.int .i64 (f 1),.int .i64 (f 2),.int .i64 (f 3),.int .i64 (f 4),.int .i64 (f 5),.int .i64 (f 6),.int .i64 (f 7),.int .i64 (f 8),.int .i64 s],.int .i64 n] w fun e w'=>e = .returned (.agg #[.int .i64 (eN f s n 0),.int .i64 (eN f s n 1),.int .i64 (eN f s n 2),.int .i64 (eN f s n 3),.int .i64 (eN f s n 4),.int .i64 (eN f s n 5),.int .i64 (eN f s n 6),.int .i64 (eN f s n 7),.int .i64 (eN f s n 8),.int .i64 (gq f s n)])∧Below w.heap.size w w':=by
 by_cases h:bV f s=true∧0≤n
 ·obtain⟨hR,a⟩:=h
  have i:=zl n
  rcases(by omega:cg n=0∨cg n=1∨cg n=2∨cg n=3∨cg n=4∨cg n=5∨cg n=6∨cg n=7∨cg n=8) with b | b | b | b | b | b | b | b | b
  ·have g:=Db f s n w hR a b
   have c:eN f s n=gY f 0 (up (f 0) 1):=by unfold eN;rw[if_pos ⟨hR,a⟩,b]
   have d:gq f s n=up s n:=by unfold gq;rw[if_pos ⟨hR,a⟩]
   rw[c,d]
   simpa [gY] using g
  ·have g:=Be f s n w hR a b
   have c:eN f s n=gY f 1 (up (f 1) 1):=by unfold eN;rw[if_pos ⟨hR,a⟩,b]
   have d:gq f s n=up s n:=by unfold gq;rw[if_pos ⟨hR,a⟩]
   rw[c,d]
   simpa [gY] using g
  ·have g:=Cv f s n w hR a b
   have c:eN f s n=gY f 2 (up (f 2) 1):=by unfold eN;rw[if_pos ⟨hR,a⟩,b]
   have d:gq f s n=up s n:=by unfold gq;rw[if_pos ⟨hR,a⟩]
   rw[c,d]
   simpa [gY] using g
  ·have g:=Cf f s n w hR a b
   have c:eN f s n=gY f 3 (up (f 3) 1):=by unfold eN;rw[if_pos ⟨hR,a⟩,b]
   have d:gq f s n=up s n:=by unfold gq;rw[if_pos ⟨hR,a⟩]
   rw[c,d]
   simpa [gY] using g
  ·have g:=AJ f s n w hR a b
   have c:eN f s n=gY f 4 (up (f 4) 1):=by unfold eN;rw[if_pos ⟨hR,a⟩,b]
   have d:gq f s n=up s n:=by unfold gq;rw[if_pos ⟨hR,a⟩]
   rw[c,d]
   simpa [gY] using g
  ·have g:=AT f s n w hR a b
   have c:eN f s n=gY f 5 (up (f 5) 1):=by unfold eN;rw[if_pos ⟨hR,a⟩,b]
   have d:gq f s n=up s n:=by unfold gq;rw[if_pos ⟨hR,a⟩]
   rw[c,d]
   simpa [gY] using g
  ·have g:=AM f s n w hR a b
   have c:eN f s n=gY f 6 (up (f 6) 1):=by unfold eN;rw[if_pos ⟨hR,a⟩,b]
   have d:gq f s n=up s n:=by unfold gq;rw[if_pos ⟨hR,a⟩]
   rw[c,d]
   simpa [gY] using g
  ·have g:=Dm f s n w hR a b
   have c:eN f s n=gY f 7 (up (f 7) 1):=by unfold eN;rw[if_pos ⟨hR,a⟩,b]
   have d:gq f s n=up s n:=by unfold gq;rw[if_pos ⟨hR,a⟩]
   rw[c,d]
   simpa [gY] using g
  ·have g:=CE f s n w hR a b
   have c:eN f s n=gY f 8 (up (f 8) 1):=by unfold eN;rw[if_pos ⟨hR,a⟩,b]
   have d:gq f s n=up s n:=by unfold gq;rw[if_pos ⟨hR,a⟩]
   rw[c,d]
   simpa [gY] using g
 ·have c:eN f s n=f:=by unfold eN;rw[if_neg h]
  have d:gq f s n=s:=by unfold gq;rw[if_neg h]
  rw[c,d]
  exact Gc f s n w h
end
section
open Go.RowKit
theorem Fw {c:Cmp} (h:dR c) (a:c.role=1):cJ c.wd c.sl c.cells=true:=by
 rcases h.2.2 with h | h | h
 ·exact h.2.2.2.1
 ·have:=h.1;omega
 ·have:=h.1;omega
theorem CT {c:Cmp} {e:Evt} (f:e.k=2) (d:mL c e=0):(c.role=2→fJ e.x e.y=true)∧(c.role=3→fJ e.x e.x=true):=by
 obtain⟨i,_,_,_,g⟩:=fA d
 obtain⟨j,b,_,kw,_⟩:=eD i
 obtain⟨⟨n,l⟩,⟨o,m⟩,_⟩:=dI ⟨j,b⟩ kw
 have a:=g f
 unfold jj at a
 refine⟨fun h=>?_,fun h=>?_⟩
 ·rw[if_neg (by omega),if_pos h,decide_eq_true_eq]at a
  unfold fJ
  rw[decide_eq_true_eq]
  omega
 ·unfold fJ
  rw[decide_eq_true_eq]
  omega
theorem Eo {c:Cmp} {i:Evt} (u:i.k=2):kV c i (fc c i):=by
 intro A n t X w hX q g o l C
 obtain⟨nm,role,mode,wd,sl,cells,h,p,room,has,s⟩:=c
 obtain⟨eq,ea,B,x,ex,D,z⟩:=i
 simp only at *
 subst u
 have a:=CT rfl l
 simp only[cD,evA]
 go_enter Tryz.func100,Tryz.ntmps100
 go_upto_region 1 with(fail)
 refine(hstart hX).cw fun W K=>?_
 have K:=K.k0 (f:=ay.fact A n cells) q
 refine wp_region_lit (K.ld 2 rfl ?_)
 have j:=K.r 1 rfl
 go_wp2_with fail
 clear j
 refine(gI ⟨nm,_,mode,wd,sl,cells,h,p,room,has,s⟩ A n t ⟨_,_,_,_,_,_,_⟩ _ W K.xok (K.fa 0 rfl) g o).mono ?_
 rw[l]
 rintro e W ⟨rfl,b⟩
 have K:=K.on b
 clear b q l
 have j:=K.r 1 rfl
 have v:=K.c 2 rfl
 go_upto_region 6 with(fail)
 refine wp_region_lit (K.ld 2 rfl ?_)
 go_wp2_with fail
 refine(uD ⟨nm,role,mode,wd,sl,cells,h,p,room,has,s⟩ A n t ⟨_,_,_,_,_,_,_⟩ _ W K.xok (K.fa 0 rfl) (bU g) a.1 a.2).mono ?_
 rintro e y ⟨A',n',m,rfl,b,d⟩
 have K:=(K.on b).kn (f:=ay.fact A' n' _) d
 clear b j v d
 go_wp2_with (refine K.sr 0 rfl fun W K=>?_)
 exact K.rc2 0 rfl rfl ⟨A',n',m,rfl,K.below,K.back (K.fa 0 rfl)⟩
theorem DV {c:Cmp} {d:Evt} (s:d.k=9):kV c d (fc c d):=by
 intro A n p X w hX o l j i B
 obtain⟨nm,role,mode,wd,sl,cells,h,m,room,has,t⟩:=c
 obtain⟨eq,ea,z,v,ex,C,y⟩:=d
 simp only at *
 subst s
 obtain rfl:role=3:=by
  have u:=(fA i).2.2.2.1
  simp[dw]at u
  omega
 simp only[cD,evA]
 go_enter Tryz.func100,Tryz.ntmps100
 go_upto_region 1 with(fail)
 refine(hstart hX).cw fun W K=>?_
 have K:=K.k0 (f:=ay.fact A n cells) o
 refine wp_region_lit (K.ld 2 rfl ?_)
 have a:=K.r 1 rfl
 go_wp2_with fail
 clear a
 refine(gI ⟨nm,_,mode,wd,sl,cells,h,m,room,has,t⟩ A n p ⟨_,_,_,_,_,_,_⟩ _ W K.xok (K.fa 0 rfl) l j).mono ?_
 rw[i]
 rintro e x ⟨rfl,b⟩
 have K:=K.on b
 clear b o i
 have a:=K.r 1 rfl
 have g:=K.c 2 rfl
 go_upto_region 28 with(fail)
 go_wp2_with fail
 refine K.cl fun W K=>?_
 refine(xJ h m ex W).mono ?_
 rintro e q ⟨rfl,b⟩
 have K:=K.on b
 clear b a g
 have a:=K.r 1 rfl
 have g:=K.c 2 rfl
 go_upto_region 29 with(fail)
 clear a g
 refine K.cw fun W K=>?_
 refine wp_region_lit (K.ld 2 rfl ?_)
 have a:=K.r 1 rfl
 go_wp2_with fail
 refine(eI ⟨_,_,_,_,_,cells,_,_,_,_,_⟩ _ _ _ 1 (by omega) _ W K.xok).mono ?_
 rintro e q ⟨rfl,b⟩
 have K:=K.on b
 clear a
 go_wp2_with (refine K.sr 0 rfl fun W K=>?_)
 exact K.rc2 0 rfl rfl ⟨A,n,p,rfl,K.below,K.back (K.fa 0 rfl)⟩
theorem Bx {c:Cmp} {i:Evt} (j:i.k=4) (C:i.x=0):kV c i (fc c i):=by
 intro A n v X w hX o q p l H
 obtain⟨nm,role,mode,wd,sl,cells,h,s,room,has,u⟩:=c
 obtain⟨eq,ea,G,B,ex,I,F⟩:=i
 simp only at *
 subst j
 obtain rfl:role=1:=by
  have z:=(fA l).2.2.2.1
  simp[dw]at z
  omega
 subst C
 have t:=Lib.hid o.1
 simp only[cD,evA]
 go_enter Tryz.func100,Tryz.ntmps100
 go_upto_region 1 with(fail)
 refine(hstart hX).cw fun W K=>?_
 have K:=K.k0 (f:=ay.fact A n cells) o
 refine wp_region_lit (K.ld 2 rfl ?_)
 have a:=K.r 1 rfl
 go_wp2_with fail
 clear a
 refine(gI ⟨nm,_,mode,wd,sl,cells,h,s,room,has,u⟩ A n v ⟨_,_,_,_,_,_,_⟩ _ W K.xok (K.fa 0 rfl) q p).mono ?_
 rw[l]
 rintro e E ⟨rfl,b⟩
 have K:=K.on b
 clear b o l
 have a:=K.r 1 rfl
 have g:=K.c 2 rfl
 go_upto_region 14 with(fail)
 refine K.cw fun W K=>?_
 clear a g
 have a:=K.r 1 rfl
 have g:=K.c 2 rfl
 go_wp2_with fail
 refine(CW wd n ea W).mono ?_
 intro e D j
 obtain⟨A',n',m,rfl,b,d⟩:=ay.of_win (X:=Exs _++X) j K.xok (ay.zero _ _) (.inr rfl)
 have K:=(K.on b).kn (f:=ay.fact A' n' _) d
 clear a g d b j
 have g:=K.c 2 rfl
 go_upto_region 33 with(fail)
 clear g
 refine K.cw fun W K=>?_
 refine wp_region_lit (K.ld 2 rfl ?_)
 refine K.sr 0 rfl fun W K=>?_
 go_wp2
 have y:=t.out
 subst y
 exact K.rc2 0 rfl rfl ⟨A',n',m,rfl,K.below,K.back (K.fa 0 rfl)⟩
theorem BS {c:Cmp} {a:Evt} (q:a.k=4) (o:¬ a.x=0):kV c a (fc c a):=by
 intro A n m X w hX l i g d C
 obtain⟨nm,role,mode,wd,sl,cells,h,p,room,has,t⟩:=c
 obtain⟨eq,ea,B,v,ex,D,z⟩:=a
 simp only at *
 subst q
 obtain rfl:role=1:=by
  have u:=(fA d).2.2.2.1
  simp[dw]at u
  omega
 simp only[cD,evA]
 go_enter Tryz.func100,Tryz.ntmps100
 go_upto_region 1 with(fail)
 refine(hstart hX).cw fun W K=>?_
 have K:=K.k0 (f:=ay.fact A n cells) l
 refine wp_region_lit (K.ld 2 rfl ?_)
 have b:=K.r 1 rfl
 go_wp2_with fail
 clear b
 refine(gI ⟨nm,_,mode,wd,sl,cells,h,p,room,has,t⟩ A n m ⟨_,_,_,_,_,_,_⟩ _ W K.xok (K.fa 0 rfl) i g).mono ?_
 rw[d]
 rintro e y ⟨rfl,j⟩
 have K:=K.on j
 clear j l d
 have b:=K.r 1 rfl
 have s:=K.c 2 rfl
 go_upto_region 33 with(fail)
 refine K.cw fun W K=>?_
 clear b s
 refine wp_region_lit (K.ld 2 rfl ?_)
 refine K.sr 0 rfl fun W K=>?_
 go_wp2
 refine K.rc2 0 rfl rfl ⟨A,n,m,?_,K.below,?_⟩
 ·unfold fc
  simp only[Int.reduceEq,if_true,if_false,o]
  rfl
 ·unfold fc
  simp only[Int.reduceEq,if_true,if_false,o]
  exact K.back (K.fa 0 rfl)
theorem Ew {c:Cmp} {s:Evt} (j:s.k=3):kV c s (fc c s):=by
 intro A n t X w hX v m x u y
 obtain⟨nm,role,mode,wd,sl,cells,h,o,room,has,C⟩:=c
 obtain⟨eq,ea,H,E,ex,z,G⟩:=s
 simp only at *
 subst j
 obtain rfl:role=1:=by
  have D:=(fA u).2.2.2.1
  simp[dw]at D
  omega
 have p:=Lib.hid v.1
 have q:=Lib.hid (Fw m rfl)
 simp only[cD,evA]
 go_enter Tryz.func100,Tryz.ntmps100
 go_upto_region 1 with(fail)
 refine(hstart hX).cw fun W K=>?_
 have K:=K.k0 (f:=ay.fact A n cells) v
 refine wp_region_lit (K.ld 2 rfl ?_)
 have b:=K.r 1 rfl
 go_wp2_with fail
 clear b
 refine(gI ⟨nm,_,mode,wd,sl,cells,h,o,room,has,C⟩ A n t ⟨_,_,_,_,_,_,_⟩ _ W K.xok (K.fa 0 rfl) m x).mono ?_
 rw[u]
 rintro e F ⟨rfl,a⟩
 have K:=K.on a
 clear a v u
 have b:=K.r 1 rfl
 have g:=K.c 2 rfl
 have B:n≤16:=by have:=cI q.out;have:=p.out;omega
 rcases y with rfl | rfl | rfl | y
 case inr.inr.inr=>exact absurd rfl y
 ·go_upto_region 8 with(fail)
  go_wp2_with fail
  refine K.cl fun W K=>?_
  refine(BJ wd sl A n t W.heap.size cells ea true W (K.fa 0 rfl).rd (Nat.le_refl _) (by omega)).mono ?_
  intro e l j
  obtain⟨A',n',i,rfl,a,d⟩:=ay.of_win (X:=Exs _++X) j K.xok (K.fa 0 rfl) (.inl (by have:=cI q.out;have:=p.out;omega))
  have K:=(K.on a).kn (f:=ay.fact A' n' _) d
  clear b g d a j
  have b:=K.r 1 rfl
  have g:=K.c 2 rfl
  go_upto_region 9 with(fail)
  go_wp2_with fail
  refine K.cl fun W K=>?_
  refine(xJ h o z W).mono ?_
  rintro e l ⟨rfl,a⟩
  have K:=K.on a
  clear a b g
  have b:=K.r 1 rfl
  have g:=K.c 2 rfl
  go_upto_region 10 with(fail)
  clear b g
  refine K.cw fun W K=>?_
  refine wp_region_lit (K.ld 2 rfl ?_)
  have b:=K.r 1 rfl
  go_wp2_with fail
  refine(eI ⟨_,_,_,_,_,(mQ wd sl cells ea true).cs,_,_,_,_,_⟩ _ _ _ 0 (by omega) _ W K.xok).mono ?_
  rintro e l ⟨rfl,a⟩
  have K:=K.on a
  clear b
  go_wp2_with (refine K.sr 0 rfl fun W K=>?_)
  exact K.rc2 0 rfl rfl ⟨A',n',i,rfl,K.below,K.back (K.fa 0 rfl)⟩
 ·go_upto_region 8 with(fail)
  go_wp2_with fail
  refine K.cl fun W K=>?_
  refine(BJ wd sl A n t W.heap.size cells ea false W (K.fa 0 rfl).rd (Nat.le_refl _) (by omega)).mono ?_
  intro e l j
  obtain⟨A',n',i,rfl,a,d⟩:=ay.of_win (X:=Exs _++X) j K.xok (K.fa 0 rfl) (.inl (by have:=cI q.out;have:=p.out;omega))
  have K:=(K.on a).kn (f:=ay.fact A' n' _) d
  clear b g d a j
  have b:=K.r 1 rfl
  have g:=K.c 2 rfl
  go_upto_region 9 with(fail)
  go_wp2_with fail
  refine K.cl fun W K=>?_
  refine(xJ h o z W).mono ?_
  rintro e l ⟨rfl,a⟩
  have K:=K.on a
  clear a b g
  have b:=K.r 1 rfl
  have g:=K.c 2 rfl
  go_upto_region 10 with(fail)
  clear b g
  refine K.cw fun W K=>?_
  refine wp_region_lit (K.ld 2 rfl ?_)
  have b:=K.r 1 rfl
  go_wp2_with fail
  refine(eI ⟨_,_,_,_,_,(mQ wd sl cells ea false).cs,_,_,_,_,_⟩ _ _ _ 1 (by omega) _ W K.xok).mono ?_
  rintro e l ⟨rfl,a⟩
  have K:=K.on a
  clear b
  go_wp2_with (refine K.sr 0 rfl fun W K=>?_)
  exact K.rc2 0 rfl rfl ⟨A',n',i,rfl,K.below,K.back (K.fa 0 rfl)⟩
 ·go_upto_region 8 with(fail)
  go_wp2_with fail
  refine K.cl fun W K=>?_
  refine(BJ wd sl A n t W.heap.size cells ea false W (K.fa 0 rfl).rd (Nat.le_refl _) (by omega)).mono ?_
  intro e l j
  obtain⟨A',n',i,rfl,a,d⟩:=ay.of_win (X:=Exs _++X) j K.xok (K.fa 0 rfl) (.inl (by have:=cI q.out;have:=p.out;omega))
  have K:=(K.on a).kn (f:=ay.fact A' n' _) d
  clear b g d a j
  have b:=K.r 1 rfl
  have g:=K.c 2 rfl
  go_upto_region 9 with(fail)
  go_wp2_with fail
  refine K.cl fun W K=>?_
  refine(xJ h o z W).mono ?_
  rintro e l ⟨rfl,a⟩
  have K:=K.on a
  clear a b g
  have b:=K.r 1 rfl
  have g:=K.c 2 rfl
  go_upto_region 10 with(fail)
  clear b g
  refine K.cw fun W K=>?_
  refine wp_region_lit (K.ld 2 rfl ?_)
  have b:=K.r 1 rfl
  go_wp2_with fail
  refine(eI ⟨_,_,_,_,_,(mQ wd sl cells ea false).cs,_,_,_,_,_⟩ _ _ _ 2 (by omega) _ W K.xok).mono ?_
  rintro e l ⟨rfl,a⟩
  have K:=K.on a
  clear b
  go_wp2_with (refine K.sr 0 rfl fun W K=>?_)
  exact K.rc2 0 rfl rfl ⟨A',n',i,rfl,K.below,K.back (K.fa 0 rfl)⟩
end
section
open Go.RowKit
theorem yp (c:Cmp) (A:Option Addr) (n f:Nat) (d:Evt) (X:List Nat) (w:World) (hX:XOk X w) (g:ay w X A n c.cells) (b:dR c) (a:d.cm.size≤maxLen) (e:mL c d=0):
 Calls Tryz.prog 100 #[.agg (cD c A n f).toArray,.agg (evA d)] w (sE (fc c d) X w):=by
 obtain⟨m,_,o,_,_⟩:=fA e
 obtain⟨p,q,_,kw,_⟩:=eD m
 have i:d.x=0∨d.x=1∨d.x=2∨d.k≠3:=by
  by_cases j:d.k=3
  ·unfold dL inB jg at kw
   rw[j]at kw
   simp at kw
   omega
  ·exact .inr (.inr (.inr j))
 rcases(by omega:d.k=2∨d.k=3∨d.k=4∨d.k=5∨d.k=6∨d.k=7∨d.k=8∨d.k=9∨d.k=10) with h | h | h | h | h | h | h | h | h
 ·exact Eo h A n f X w hX g b a e i
 ·exact Ew h A n f X w hX g b a e i
 ·by_cases l:d.x=0
  ·exact Bx h l A n f X w hX g b a e i
  ·exact BS h l A n f X w hX g b a e i
 ·exact Ep h A n f X w hX g b a e i
 ·exact DO h A n f X w hX g b a e i
 ·exact Es h A n f X w hX g b a e i
 ·exact DH h A n f X w hX g b a e i
 ·exact DV h A n f X w hX g b a e i
 ·exact As h A n f X w hX g b a e i
theorem yz (A:Option Addr) (n c:Nat) (p:Option Addr) (r:Nat) (cs:List (Int×Int)) (w:World) (m:Reads w w.heap.size 2 A n (aB cs)) (d:Reads w w.heap.size 2 p n (aB cs)) (D:n≤9223372036854775807):
 Calls Tryz.prog 139 #[.slice A n c,.slice p n r] w fun e w'=>e = .returned (.bool true)∧Below w.heap.size w w':=by
 have u:=Lib.hid m
 have h:=Lib.hid d
 clear m d
 have v:((n:Int) != (n:Int))=false:=by simp
 go_enter Tryz.func139,Tryz.ntmps139
 go_wp2
 clear v
 go_loopw [13] (fun i wr => ∃ (k:Nat),k≤n∧i = .int .i64 k∧Hid (Below w.heap.size w wr)) (fun i _=>n-(intOf i).toNat)
 case atStart=>exact⟨0,Nat.zero_le _,rfl,Lib.hid (Below.refl _ _)⟩
 case round=>
  obtain⟨k,z,rfl,g⟩:=hrel
  by_cases f:k<n
  ·obtain⟨ad,⟨a,b⟩,rfl,l,o,x,F⟩:=sk (u.out.below g.out) f
   obtain⟨q,⟨C,y⟩,rfl,j,hy,E,B⟩:=sk (h.out.below g.out) f
   rw[o]at hy
   injection hy with hy
   injection hy with s t
   subst s t
   clear o l j
   go_wp2_with fail
   go_quiet (fail)
   go_wp2
   go_roundw
   case rel=>exact⟨k+1,by omega,by go_num,Lib.hid (below_drewN g.out _)⟩
   case measure=>simp[intOf];omega
  ·obtain rfl:k=n:=by omega
   go_wp2
   go_ret
   exact⟨rfl,g.out⟩
set_option maxHeartbeats 1000000 in
theorem DN (c:Cmp) (A:Option Addr) (n k:Nat) (g:Option Addr) (a b:Nat) (X:List Nat) (w:World) (hX:XOk X w) (j:ay w X A n c.cells) (d:ay w X g a c.cells) (o:n≤9223372036854775807):
 Calls Tryz.prog 73 #[.agg (cD c A n k).toArray,.agg (cD c g a b).toArray] w fun e w'=>e = .returned (.bool true)∧Below w.heap.size w w':=by
 obtain⟨nm,role,mode,wd,sl,cells,h,p,room,has,m⟩:=c
 obtain rfl:a=n:=by rw[j.1,d.1]
 simp only at *
 simp only[cD]
 have hA:=fun W=>xy 9997 h W
 have i:=fun W=>DU 9998 m W
 simp only[Nat.reduceAdd]at hA i
 go_enter Tryz.func73,Tryz.ntmps73
 go_wp2_with fail
 refine(hstart hX).cl fun W K=>?_
 have K:=(K.k0 (f:=ay.fact A a cells) j).k0 (f:=ay.fact g a cells) d
 refine(yz A a k g b cells W (K.fa 1 rfl).rd (K.fa 0 rfl).rd o).mono ?_
 rintro e s ⟨rfl,l⟩
 have K:=K.on l
 have c0:=K.r 0 rfl
 have q:=K.r 1 rfl
 go_wp2
 go_ret
 exact⟨rfl,K.below⟩
end
section
theorem gz {s:St} {e:Evt} (h:cH s e=0):dz e=0∧e.q=s.q+1∧s.a≤e.a∧((e.k=1∧s.cs[iF s.cs e.cm]?=none∧s.cs.length≠12)∨(e.k≠1 ∧ ∃ c,s.cs[iF s.cs e.cm]?=some c∧mL c e=0)):=by
 unfold cH at h
 by_cases d:dz e=0
 ·rw[if_neg (by simpa using d)]at h
  by_cases f:e.q=s.q+1
  ·rw[if_neg (by simpa using f)]at h
   by_cases g:e.a<s.a
   ·rw[if_pos g]at h;omega
   ·rw[if_neg g]at h
    refine⟨d,f,by omega,?_⟩
    cases hc:s.cs[iF s.cs e.cm]? with
    | none=>
      rw[hc]at h
      simp only at h
      by_cases b:e.k=1
      ·rw[if_pos b]at h
       by_cases i:s.cs.length=12
       ·rw[if_pos i]at h;omega
       ·exact .inl ⟨b,rfl,i⟩
      ·rw[if_neg b]at h;omega
    | some c=>
      rw[hc]at h
      simp only at h
      by_cases b:e.k=1
      ·rw[if_pos b]at h;omega
      ·rw[if_neg b]at h
       exact .inr ⟨b,c,rfl,h⟩
  ·rw[if_pos (by simpa using f)]at h;omega
 ·rw[if_pos (by simpa using d)]at h;exact absurd h d
theorem iu {s:St} {e:Evt} (p:bD s) (h:cH s e=0):bD (aZ s e):=by
 obtain⟨t,C,y,u⟩:=gz h
 obtain⟨z,B,kn,kw,ka,kb,kq,l⟩:=eD t
 obtain⟨o,v,A,w,E,k,n⟩:=p
 unfold aZ
 rcases u with⟨g,r,D⟩ | ⟨g,c,j,q⟩
 ·simp only[g,if_true]
  unfold dL inB jg at kw
  rw[g]at kw
  have m:1≤e.x∧e.x≤3:=by simp at kw;omega
  have f:1≤e.cm.size∧e.cm.size≤24:=by unfold fB at kn;simpa using kn
  have i:(ny e.cm e.x e.a).nm=e.cm:=by unfold ny;split<;>rfl
  refine⟨by rw[jL];omega,kq,l,ka,kb,fun d b=>?_,vh n (fun d b=>?_)⟩
  ·rcases pe.1 b with rfl | b
   ·exact Er f.1 f.2 m.1 m.2 ka kb
   ·exact k d b
  ·rw[i]
   exact qR r d b
 ·simp only[g,if_false,j]
  refine⟨by rw[List.length_set];exact o,kq,l,ka,kb,fun d b=>?_,n.set j (th c e)⟩
  rcases List.mem_or_eq_of_mem_set b with b | rfl
  ·exact k d b
  ·exact Dh (k c (List.mem_of_getElem? j)) q
theorem bI:bD ⟨[],0,0⟩:=⟨by simp,by simp,by simp,by simp,by simp,by simp,List.Pairwise.nil⟩
end
section
open Go.RowKit
theorem Gg {W:World} {X:List Nat} {ad:Addr} {n c i:Nat} {cs:List Cmp} {y:Cmp} (h:Sl aI W X (some ad) n c cs) (hy:cs[i]?=some y):W.cell? (ad.add (i*21))=some (.string y.nm):=by
 obtain⟨d,r,e,_,_,⟨f,g,b,rfl,_⟩,a⟩:=h.at' hy
 injection e with e
 subst e
 exact a 0 _ rfl
set_option maxHeartbeats 1000000 in
theorem ep (s:St) (A:Option Addr) (n d:Nat) (X:List Nat) (w:World) (hX:XOk X w) (g:Sl aI w X A n d s.cs) (o:bD s):
 Calls Tryz.prog 128 #[.agg #[.slice A n d,.int .i64 s.q,.int .i64 s.a]] w fun e w'=>e = .returned (.bool true)∧Below w.heap.size w w':=by
 obtain⟨cs,q,a⟩:=s
 obtain⟨Y,S,T,o4,Q,I,H⟩:=o
 simp only at *
 have D:=g.len
 have V:(n:Int)≤12:=by omega
 have G:=Lib.hid g
 have z:=Lib.hid D
 clear g D
 go_enter Tryz.func128,Tryz.ntmps128
 go_upto_region 1 with(fail)
 refine(hstart hX).cw fun W K=>?_
 have K:=K.ksl0 G.out
 have c0:=K.r 0 rfl
 go_wp2
 clear c0
 go_loopw [32] (fun i wr => ∃ (k:Nat),k≤n∧i = .int .i64 k∧HH w [] X wr [.box w.heap.size 37 #[.slice A n d,.int .i64 q,.int .i64 a]] [Sl.fact aI A n d cs]) (fun i _=>n-(intOf i).toNat)
 case atStart=>exact⟨0,Nat.zero_le _,rfl,K⟩
 case round=>
  obtain⟨k,P,rfl,K⟩:=hrel
  by_cases L:k<n
  ·obtain⟨x,t⟩:∃ x,cs[k]?=some x:=⟨_,List.getElem?_eq_getElem (by have:=z.out;omega)⟩
   obtain⟨ad,r,rfl,p,l,⟨C,E,j,rfl,b,M⟩,c⟩:=(K.sl 0 rfl).at' t
   have K:=K.kn (f:=ay.fact C E x.cells) b
   have F:=Lib.hid t
   have U:(0:Int)≤(k:Int):=by omega
   have R:(k:Int)<(n:Int):=by omega
   clear t p l b
   go_wp2_with (first | (refine bF c ?_) | (refine K.lw fun W K=>?_;refine K.sr 0 rfl fun W K=>?_))
   clear c
   refine K.rg fun W K=>?_
   refine tL 0 (fun _ h=>h) K ?_ (hy:=fun w v=>aM (v.at_ 0 rfl))
   refine tC 1 fun K' hK=>?_
   go_simp
   refine(gj x C E j _ _ K.xok (K.fa 0 rfl) (I x (List.mem_of_getElem? F.out))).mono ?_
   rintro e N ⟨rfl,u⟩
   refine hK.out _ _ (K.on u) fun K=>?_
   clear hK K' u
   try simp only[Act.put,an,ai,aj]
   refine tK 2 K ?_
   refine tK 3 K ?_
   refine tK 4 K ?_
   cases k with
   | zero=>
     refine tK 5 K ?_
     refine tK 6 K ?_
     refine tN 7 K ?_
     refine tN 8 K ?_
     refine tN 9 K ?_
     refine tN 10 K ?_
     refine tN 11 K ?_
     refine tN 12 K ?_
     refine tN 13 K ?_
     refine tN 14 K ?_
     refine tN 15 K ?_
     refine tN 16 K ?_
     refine tK 17 K ?_
     refine tK 18 K ?_
     refine tE ?_
     go_wp2
     go_roundw
     case rel=>exact⟨1,by omega,by go_num,K.tl.ft⟩
     case measure=>simp[intOf];omega
   | succ m=>
     obtain⟨y,hy⟩:∃ y,cs[m]?=some y:=⟨_,List.getElem?_eq_getElem (by have:=z.out;omega)⟩
     have B:Op.bytesLess y.nm.toList x.nm.toList=true:=H.lt (Nat.lt_succ_self m) hy F.out
     have J:=Lib.hid hy
     clear hy
     have i3:(m:Int)<(n:Int):=by omega
     have O:(0:Int)≤(m:Int):=by omega
     have Z:(0:Int)<(m:Int)+1:=by omega
     refine tK 5 K ?_
     refine tK 6 K ?_
     refine tK 7 K ?_
     refine tL 8 (fun _ h=>h.r 1 rfl) K ?_
     refine tK 9 K ?_
     refine tK 10 K ?_ (hy:=by(intro W _;have v:=IntWalk.i64_in (m:Int) (by omega);go_simp;try with_reducible rfl))
     refine tK 11 K ?_
     refine tK 12 K ?_
     refine tL 13 (fun _ h=>Gg (h.sl 1 rfl) J.out) K ?_
     refine tK 14 K ?_
     refine tL 15 (fun _ h=>h.r 0 rfl) K ?_
     refine tK 16 K ?_
     refine tK 17 K ?_
     refine tK 18 K ?_
     refine tE ?_
     go_wp2
     go_roundw
     case rel=>exact⟨m+1+1,by omega,by go_num,K.tl.ft⟩
     case measure=>simp[intOf];omega
  ·obtain rfl:k=n:=by omega
   go_wp2
   go_ret
   exact⟨rfl,K.below⟩
end
section
open Go.RowKit
def ga (cs:List Cmp) (nm:ByteArray):Int:=if fI Cmp.nm cs nm<cs.length then(fI Cmp.nm cs nm:Int) else -1
theorem xC (c:Cmp) (A:Option Addr) (n d g:Nat) (nm:ByteArray) (w:World) (i:w.cell? ⟨g,0,none⟩=some (.string nm)) (a:g<w.heap.size):
 Calls Tryz.prog 163 #[.agg (cD c A n d).toArray,.pointer (some ⟨g,0,none⟩)] w fun e w'=>e = .returned (.bool (decide (c.nm=nm)))∧Below w.heap.size w w':=by
 have f:(c.nm.toList == nm.toList)=decide (c.nm=nm):=by
  rw[Bool.eq_iff_iff,beq_iff_eq,decide_eq_true_eq]
  exact⟨pF,fun h=>by rw[h]⟩
 have b:¬ g=w.heap.size:=by omega
 simp only[cD]
 go_enter Tryz.func163,Tryz.ntmps163
 go_wp2
 go_ret
 exact⟨rfl,(Below.refl _ _).alloc (Nat.le_refl _) _⟩
theorem Bn (cs:List Cmp) (nm:ByteArray) (A:Option Addr) (n z g:Nat) (X:List Nat) (w:World) (hX:XOk X w) (o:Sl aI w X A n z cs) (Q:n≤12) (D:w.cell? ⟨g,0,none⟩=some (.string nm)) (c:g<w.heap.size):
 Calls Tryz.prog 162 #[.slice A n z,.func (.func 163) #[] #[.pointer (some ⟨g,0,none⟩)]] w fun e w'=>e = .returned (.int .i64 (ga cs nm))∧Below w.heap.size w w':=by
 have L:=Lib.hid o
 have s:=Lib.hid o.len
 have E:=Lib.hid D
 clear o D
 go_enter Tryz.func162,Tryz.ntmps162
 go_wp2
 go_loopw [8,5] (fun i _ wr => ∃ (k:Nat),k≤n∧i = .int .i64 k∧HH w [] X wr [] [Sl.fact aI A n z cs]∧Hid (∀ (j:Nat) d,j<k→cs[j]?=some d→d.nm≠nm)) (fun i _ _=>n-(intOf i).toNat)
 case atStart=>exact⟨0,Nat.zero_le _,rfl,(hstart hX).ksl0 L.out,Lib.hid (fun j d m=>absurd m (Nat.not_lt_zero _))⟩
 case round=>
  obtain⟨k,N,rfl,K,q⟩:=hrel
  by_cases G:k<n
  ·obtain⟨x,C⟩:∃ x,cs[k]?=some x:=⟨_,List.getElem?_eq_getElem (by have:=s.out;omega)⟩
   obtain⟨ad,r,rfl,y,t,⟨F,H,l,rfl,p,M⟩,b⟩:=(K.sl 0 rfl).at' C
   have I:=Lib.hid C
   have P:(0:Int)≤(k:Int):=by omega
   have O:(k:Int)<(n:Int):=by omega
   clear C y t p
   by_cases f:x.nm=nm
   ·have a:decide (x.nm=nm)=true:=decide_eq_true f
    have u:=Lib.hid f
    clear f
    go_wp2_with (first | (refine bF b ?_) | (go_at_call 163;refine(xC x F H l g nm _ ((K.below.cell c).trans E.out) (Nat.lt_of_lt_of_le c K.out.size)).mono ?_;rw[a];rintro e J ⟨rfl,h⟩;have K:=K.on h;clear h b))
    go_ret
    refine⟨lW ?_,K.below⟩
    have v:fI Cmp.nm cs nm=k:=oe I.out u.out q.out
    unfold ga
    rw[v,if_pos (by have:=s.out;omega)]
   ·have a:decide (x.nm=nm)=false:=decide_eq_false f
    have u:=Lib.hid f
    clear f
    go_wp2_with (first | (refine bF b ?_) | (go_at_call 163;refine(xC x F H l g nm _ ((K.below.cell c).trans E.out) (Nat.lt_of_lt_of_le c K.out.size)).mono ?_;rw[a];rintro e J ⟨rfl,h⟩;have K:=K.on h;clear h b))
    go_roundw
    case rel=>
     refine⟨k+1,by omega,by go_num,K,Lib.hid (fun j d m a=>?_)⟩
     by_cases B:j<k
     ·exact q.out j d B a
     ·obtain rfl:j=k:=by omega
      rw[I.out]at a
      injection a with a
      subst a
      exact u.out
    case measure=>simp[intOf];omega
  ·obtain rfl:k=n:=by omega
   go_wp2
   go_ret
   refine⟨lW ?_,K.below⟩
   have v:fI Cmp.nm cs nm=cs.length:=lY (fun d a=>by
    obtain⟨j,m,rfl⟩:=List.mem_iff_getElem.1 a
    exact q.out j _ (by have:=s.out;omega) (List.getElem?_eq_getElem m))
   unfold ga
   rw[v,if_neg (by omega)]
theorem jx (cs:List Cmp) (q a:Int) (nm:ByteArray) (A:Option Addr) (n b:Nat) (X:List Nat) (w:World) (hX:XOk X w) (c:Sl aI w X A n b cs) (f:n≤12):
 Calls Tryz.prog 99 #[.agg #[.slice A n b,.int .i64 q,.int .i64 a],.string nm] w fun e w'=>e = .returned (.int .i64 (ga cs nm))∧Below w.heap.size w w':=by
 go_enter Tryz.func99,Tryz.ntmps99
 go_wp2_with fail
 refine(hstart hX).cl fun W K=>?_
 have K:=K.ksl0 c
 clear c
 refine(Bn cs nm A n b _ _ W K.xok (K.sl 0 rfl) f (K.r 0 rfl 0) (K.out.lt 0 rfl)).mono ?_
 rintro e g ⟨rfl,d⟩
 have K:=K.on d
 go_wp2
 go_ret
 exact⟨rfl,K.below⟩
end
section
open Go.RowKit
def iQ (s:St) (e0:Evt) (m:Int):Prop := ∀ (A:Option Addr) (n cp:Nat) (X:List Nat) (w:World),XOk X w→Sl aI w X A n cp s.cs→bD s→e0.cm.size≤maxLen →
 Calls Tryz.prog 92 #[.agg #[.slice A n cp,.int .i64 s.q,.int .i64 s.a],.agg (evA e0)] w fun e w'=>e = .returned (.int .i64 m)∧Below w.heap.size w w'
theorem CJ {s:St} {f:Evt} (C:¬ dz f=0):iQ s f (dz f):=by
 intro A n l X w hX d c g
 obtain⟨cs,q,a⟩:=s
 obtain⟨eq,ea,z,m,ex,E,x⟩:=f
 simp only at *
 obtain⟨o,j,k,p,i,B,y⟩:=id c
 have D:n≤12:=by have:=d.len;simp only at o;omega
 have u:=Lib.hid d.len
 simp only at j k p i
 simp only[evA]
 go_enter Tryz.func92,Tryz.ntmps92
 go_wp2_with fail
 refine(hstart hX).cl fun W K=>?_
 have K:=K.ksl0 d
 clear d
 refine(ep ⟨cs,q,a⟩ A _ l _ W K.xok (K.sl 0 rfl) c).mono ?_
 rintro e v ⟨rfl,b⟩
 have K:=K.on b
 clear b
 have h:=K.r 1 rfl
 have c0:=K.r 0 rfl
 go_wp2_with fail
 refine(dA ⟨_,_,_,_,_,_,_⟩ g _).mono ?_
 skip
 rintro e t ⟨rfl,b⟩
 have K:=K.on b
 clear b c0 h
 have c0:=K.r 0 rfl
 have h:=K.r 1 rfl
 go_wp2
 go_ret
 exact⟨rfl,K.below⟩
theorem AN {s:St} {c:Evt} (k:dz c=0) {z:Int} (j:ga s.cs c.cm=z) (J:¬ c.q=s.q+1):iQ s c (1):=by
 intro A n l X w hX f d h
 obtain⟨cs,q,a⟩:=s
 obtain⟨eq,ea,G,i,ex,L,E⟩:=c
 simp only at *
 obtain⟨x,o,p,y,m,H,F⟩:=id d
 have u:n≤12:=by have:=f.len;simp only at x;omega
 have C:=Lib.hid f.len
 simp only at o p y m
 have v:=Lib.hid k
 clear k
 have t:=Lib.hid j
 clear j
 simp only[evA]
 go_enter Tryz.func92,Tryz.ntmps92
 go_wp2_with fail
 refine(hstart hX).cl fun W K=>?_
 have K:=K.ksl0 f
 clear f
 refine(ep ⟨cs,q,a⟩ A _ l _ W K.xok (K.sl 0 rfl) d).mono ?_
 rintro e D ⟨rfl,b⟩
 have K:=K.on b
 clear b
 have g:=K.r 1 rfl
 have c0:=K.r 0 rfl
 go_wp2_with fail
 refine(dA ⟨_,_,_,_,_,_,_⟩ h _).mono ?_
 rw[v.out]
 rintro e B ⟨rfl,b⟩
 have K:=K.on b
 clear b c0 g
 have c0:=K.r 0 rfl
 have g:=K.r 1 rfl
 go_wp2_with fail
 refine(jx cs q a i A _ l _ _ K.xok (K.sl 0 rfl) u).mono ?_
 rw[t.out]
 rintro e I ⟨rfl,b⟩
 have K:=K.on b
 clear b c0 g
 have c0:=K.r 0 rfl
 have g:=K.r 1 rfl
 go_wp2
 go_ret
 exact⟨rfl,K.below⟩
theorem yW {s:St} {c:Evt} (k:dz c=0) {z:Int} (j:ga s.cs c.cm=z) (y:c.q=s.q+1) (F:c.a<s.a):iQ s c (5):=by
 intro A n l X w hX f d h
 obtain⟨cs,q,a⟩:=s
 obtain⟨eq,ea,I,i,ex,M,G⟩:=c
 simp only at *
 obtain⟨x,o,p,B,m,J,H⟩:=id d
 have u:n≤12:=by have:=f.len;simp only at x;omega
 have D:=Lib.hid f.len
 simp only at o p B m
 have v:=Lib.hid k
 clear k
 have t:=Lib.hid j
 clear j
 subst y
 simp only[evA]
 go_enter Tryz.func92,Tryz.ntmps92
 go_wp2_with fail
 refine(hstart hX).cl fun W K=>?_
 have K:=K.ksl0 f
 clear f
 refine(ep ⟨cs,q,a⟩ A _ l _ W K.xok (K.sl 0 rfl) d).mono ?_
 rintro e E ⟨rfl,b⟩
 have K:=K.on b
 clear b
 have g:=K.r 1 rfl
 have c0:=K.r 0 rfl
 go_wp2_with fail
 refine(dA ⟨_,_,_,_,_,_,_⟩ h _).mono ?_
 rw[v.out]
 rintro e C ⟨rfl,b⟩
 have K:=K.on b
 clear b c0 g
 have c0:=K.r 0 rfl
 have g:=K.r 1 rfl
 go_wp2_with fail
 refine(jx cs q a i A _ l _ _ K.xok (K.sl 0 rfl) u).mono ?_
 rw[t.out]
 rintro e L ⟨rfl,b⟩
 have K:=K.on b
 clear b c0 g
 have c0:=K.r 0 rfl
 have g:=K.r 1 rfl
 go_wp2
 go_ret
 exact⟨rfl,K.below⟩
theorem vK {s:St} {c:Evt} (m:dz c=0) {i:Nat} (l:ga s.cs c.cm=(i:Int)) (C:c.q=s.q+1) (I:¬ c.a<s.a) (x:c.k=1):iQ s c (7):=by
 intro A n o X w hX f d h
 obtain⟨cs,q,a⟩:=s
 obtain⟨eq,ea,M,j,ex,P,J⟩:=c
 simp only at *
 obtain⟨B,t,u,D,p,N,L⟩:=id d
 have y:n≤12:=by have:=f.len;simp only at B;omega
 have G:=Lib.hid f.len
 simp only at t u D p
 have z:=Lib.hid m
 clear m
 have v:=Lib.hid l
 clear l
 subst C x
 have F:¬ (i:Int) = -1:=by omega
 simp only[evA]
 go_enter Tryz.func92,Tryz.ntmps92
 go_wp2_with fail
 refine(hstart hX).cl fun W K=>?_
 have K:=K.ksl0 f
 clear f
 refine(ep ⟨cs,q,a⟩ A _ o _ W K.xok (K.sl 0 rfl) d).mono ?_
 rintro e H ⟨rfl,b⟩
 have K:=K.on b
 clear b
 have g:=K.r 1 rfl
 have c0:=K.r 0 rfl
 go_wp2_with fail
 refine(dA ⟨_,_,_,_,_,_,_⟩ h _).mono ?_
 rw[z.out]
 rintro e E ⟨rfl,b⟩
 have K:=K.on b
 clear b c0 g
 have c0:=K.r 0 rfl
 have g:=K.r 1 rfl
 go_wp2_with fail
 refine(jx cs q a j A _ o _ _ K.xok (K.sl 0 rfl) y).mono ?_
 rw[v.out]
 rintro e O ⟨rfl,b⟩
 have K:=K.on b
 clear b c0 g
 have c0:=K.r 0 rfl
 have g:=K.r 1 rfl
 go_wp2
 go_ret
 exact⟨rfl,K.below⟩
theorem yY {s:St} {c:Evt} (l:dz c=0) (j:ga s.cs c.cm = -1) (C:c.q=s.q+1) (H:¬ c.a<s.a) (x:c.k=1) (F:s.cs.length=12):iQ s c (9):=by
 intro A n m X w hX f d h
 obtain⟨cs,q,a⟩:=s
 obtain⟨eq,ea,L,i,ex,O,I⟩:=c
 simp only at *
 obtain⟨B,t,u,D,p,M,J⟩:=id d
 have y:n≤12:=by have:=f.len;simp only at B;omega
 have o:=Lib.hid f.len
 simp only at t u D p
 have z:=Lib.hid l
 clear l
 have v:=Lib.hid j
 clear j
 subst C x
 obtain rfl:n=12:=by have:=o.out;omega
 simp only[evA]
 go_enter Tryz.func92,Tryz.ntmps92
 go_wp2_with fail
 refine(hstart hX).cl fun W K=>?_
 have K:=K.ksl0 f
 clear f
 refine(ep ⟨cs,q,a⟩ A _ m _ W K.xok (K.sl 0 rfl) d).mono ?_
 rintro e G ⟨rfl,b⟩
 have K:=K.on b
 clear b
 have g:=K.r 1 rfl
 have c0:=K.r 0 rfl
 go_wp2_with fail
 refine(dA ⟨_,_,_,_,_,_,_⟩ h _).mono ?_
 rw[z.out]
 rintro e E ⟨rfl,b⟩
 have K:=K.on b
 clear b c0 g
 have c0:=K.r 0 rfl
 have g:=K.r 1 rfl
 go_wp2_with fail
 refine(jx cs q a i A _ m _ _ K.xok (K.sl 0 rfl) y).mono ?_
 rw[v.out]
 rintro e N ⟨rfl,b⟩
 have K:=K.on b
 clear b c0 g
 have c0:=K.r 0 rfl
 have g:=K.r 1 rfl
 go_wp2
 go_ret
 exact⟨rfl,K.below⟩
theorem Dp {s:St} {c:Evt} (l:dz c=0) (j:ga s.cs c.cm = -1) (D:c.q=s.q+1) (H:¬ c.a<s.a) (y:c.k=1) (o:¬ s.cs.length=12):iQ s c (0):=by
 intro A n m X w hX f d h
 obtain⟨cs,q,a⟩:=s
 obtain⟨eq,ea,L,i,ex,P,I⟩:=c
 simp only at *
 obtain⟨C,u,v,E,t,M,J⟩:=id d
 have z:n≤12:=by have:=f.len;simp only at C;omega
 have p:=Lib.hid f.len
 simp only at u v E t
 have B:=Lib.hid l
 clear l
 have x:=Lib.hid j
 clear j
 subst D y
 have N:¬ (n:Int)=12:=by have:=p.out;omega
 clear o
 simp only[evA]
 go_enter Tryz.func92,Tryz.ntmps92
 go_wp2_with fail
 refine(hstart hX).cl fun W K=>?_
 have K:=K.ksl0 f
 clear f
 refine(ep ⟨cs,q,a⟩ A _ m _ W K.xok (K.sl 0 rfl) d).mono ?_
 rintro e G ⟨rfl,b⟩
 have K:=K.on b
 clear b
 have g:=K.r 1 rfl
 have c0:=K.r 0 rfl
 go_wp2_with fail
 refine(dA ⟨_,_,_,_,_,_,_⟩ h _).mono ?_
 rw[B.out]
 rintro e F ⟨rfl,b⟩
 have K:=K.on b
 clear b c0 g
 have c0:=K.r 0 rfl
 have g:=K.r 1 rfl
 go_wp2_with fail
 refine(jx cs q a i A _ m _ _ K.xok (K.sl 0 rfl) z).mono ?_
 rw[x.out]
 rintro e O ⟨rfl,b⟩
 have K:=K.on b
 clear b c0 g
 have c0:=K.r 0 rfl
 have g:=K.r 1 rfl
 go_wp2
 go_ret
 exact⟨rfl,K.below⟩
theorem Bi {s:St} {c:Evt} (l:dz c=0) (j:ga s.cs c.cm = -1) (z:c.q=s.q+1) (F:¬ c.a<s.a) (L:¬ c.k=1):iQ s c (6):=by
 intro A n m X w hX f d h
 obtain⟨cs,q,a⟩:=s
 obtain⟨eq,ea,I,i,ex,N,G⟩:=c
 simp only at *
 obtain⟨y,p,t,B,o,J,H⟩:=id d
 have v:n≤12:=by have:=f.len;simp only at y;omega
 have D:=Lib.hid f.len
 simp only at p t B o
 have x:=Lib.hid l
 clear l
 have u:=Lib.hid j
 clear j
 subst z
 simp only[evA]
 go_enter Tryz.func92,Tryz.ntmps92
 go_wp2_with fail
 refine(hstart hX).cl fun W K=>?_
 have K:=K.ksl0 f
 clear f
 refine(ep ⟨cs,q,a⟩ A _ m _ W K.xok (K.sl 0 rfl) d).mono ?_
 rintro e E ⟨rfl,b⟩
 have K:=K.on b
 clear b
 have g:=K.r 1 rfl
 have c0:=K.r 0 rfl
 go_wp2_with fail
 refine(dA ⟨_,_,_,_,_,_,_⟩ h _).mono ?_
 rw[x.out]
 rintro e C ⟨rfl,b⟩
 have K:=K.on b
 clear b c0 g
 have c0:=K.r 0 rfl
 have g:=K.r 1 rfl
 go_wp2_with fail
 refine(jx cs q a i A _ m _ _ K.xok (K.sl 0 rfl) v).mono ?_
 rw[u.out]
 rintro e M ⟨rfl,b⟩
 have K:=K.on b
 clear b c0 g
 have c0:=K.r 0 rfl
 have g:=K.r 1 rfl
 go_wp2
 go_ret
 exact⟨rfl,K.below⟩
theorem yF {s:St} {d:Evt} (y:dz d=0) {i:Nat} {c:Cmp} (z:ga s.cs d.cm=(i:Int)) (u:s.cs[i]?=some c) (O:d.q=s.q+1) (V:¬ d.a<s.a) (h4:¬ d.k=1):iQ s d (mL c d):=by
 intro A n B X w hX p m l
 obtain⟨cs,q,a⟩:=s
 obtain⟨eq,ea,ek,o,ex,ey,Y⟩:=d
 simp only at *
 obtain⟨N,G,H,R,F,I,Z⟩:=id m
 have L:n≤12:=by have:=p.len;simp only at N;omega
 have E:=Lib.hid p.len
 simp only at G H R F
 have M:=Lib.hid y
 clear y
 have J:=Lib.hid z
 clear z
 subst O
 have T:¬ (i:Int) = -1:=by omega
 have P:(i:Int)<(n:Int):=by have:=(List.getElem?_eq_some_iff.1 u).1;have:=E.out;omega
 have D:=Lib.hid u
 clear u
 simp only[evA]
 go_enter Tryz.func92,Tryz.ntmps92
 go_wp2_with fail
 refine(hstart hX).cl fun W K=>?_
 have K:=K.ksl0 p
 clear p
 refine(ep ⟨cs,q,a⟩ A _ B _ W K.xok (K.sl 0 rfl) m).mono ?_
 rintro e U ⟨rfl,b⟩
 have K:=K.on b
 clear b
 have g:=K.r 1 rfl
 have c0:=K.r 0 rfl
 go_wp2_with fail
 refine(dA ⟨_,_,_,_,_,_,_⟩ l _).mono ?_
 rw[M.out]
 rintro e S ⟨rfl,b⟩
 have K:=K.on b
 clear b c0 g
 have c0:=K.r 0 rfl
 have g:=K.r 1 rfl
 go_wp2_with fail
 refine(jx cs q a o A _ B _ _ K.xok (K.sl 0 rfl) L).mono ?_
 rw[J.out]
 rintro e w3 ⟨rfl,b⟩
 have K:=K.on b
 clear b c0 g
 have c0:=K.r 0 rfl
 have g:=K.r 1 rfl
 go_upto_region 19 with(fail)
 obtain⟨ad,r,rfl,K,⟨x,C,v,rfl,j,Q⟩⟩:=K.elem 0 rfl D.out
 have K:=K.kn (f:=ay.fact x C c.cells) j
 have i1:(0:Int)≤(i:Int):=by omega
 clear c0 g j
 refine K.rg fun W K=>?_
 refine tK 0 K ?_
 refine tL 1 (fun _ h=>h.r 1 rfl) K ?_
 refine tK 2 K ?_
 refine tK 3 K ?_
 refine tL 4 (fun _ h=>h) K ?_ (hy:=fun w t=>aM (t.at' 1 rfl))
 refine tL 5 (fun _ h=>h) K ?_ (hy:=fun w t=>aM (t.at_ 0 rfl))
 refine tC 6 fun K' hK=>?_
 go_simp
 refine(gI c x C v ⟨_,_,_,o,_,_,_⟩ _ _ K.xok (K.fa 0 rfl) (I c (List.mem_of_getElem? D.out)) l).mono ?_
 rintro e w4 ⟨rfl,b⟩
 refine hK.out _ _ (K.on b) fun K=>?_
 clear hK K' b
 try simp only[Act.put,an,ai,aj]
 refine tK 7 K ?_
 refine tE ?_
 go_wp2
 go_ret
 exact⟨rfl,K.below⟩
end
section
open Go.RowKit
def kS (a b:ByteArray):Int:=if ltB a b=true then -1 else if ltB b a=true then 1 else 0
theorem DA (s:ByteArray) (w:World):Calls Tryz.prog 159 #[.string s] w fun e w'=>e = .returned (.bool false)∧w=w':=by
 go_enter Tryz.func159,Tryz.ntmps159
 go_wp2
 go_ret
 exact⟨rfl,rfl⟩
theorem qS (a b:ByteArray) (w:World):Calls Tryz.prog 97 #[.string a,.string b] w fun e w'=>e = .returned (.int .i64 (kS a b))∧w=w':=by
 have f:(Op.bytesLess a.toList b.toList=true∧kS a b = -1)∨(Op.bytesLess a.toList b.toList=false∧(a.toList == b.toList)=false∧kS a b=1)∨(Op.bytesLess a.toList b.toList=false∧(a.toList == b.toList)=true∧kS a b=0):=by
  unfold kS ltB
  cases d:Op.bytesLess a.toList b.toList with
  | true=>exact .inl ⟨rfl,by simp⟩
  | false=>
    cases c:Op.bytesLess b.toList a.toList with
    | true=>
      refine .inr (.inl ⟨rfl,?_,by simp⟩)
      rw[beq_eq_false_iff_ne]
      intro e
      rw[e,nB]at c
      cases c
    | false=>exact .inr (.inr ⟨rfl,by rw[beq_iff_eq];exact qd _ _ d c,by simp⟩)
 generalize g:kS a b=m at f
 clear g
 rcases f with⟨d,rfl⟩ | ⟨d,c,rfl⟩ | ⟨d,c,rfl⟩
 all_goals
  go_enter Tryz.func97,Tryz.ntmps97
  go_wp2_with (go_at_call 159;refine(DA _ _).mono ?_;rintro e w' ⟨rfl,rfl⟩)
  go_ret
  exact⟨rfl,rfl⟩
theorem qf (c:Cmp) (A:Option Addr) (n a:Nat) (nm:ByteArray) (w:World):
 Calls Tryz.prog 96 #[.agg (cD c A n a).toArray,.string nm] w fun e w'=>e = .returned (.int .i64 (kS c.nm nm))∧Below w.heap.size w w':=by
 simp only[cD]
 go_enter Tryz.func96,Tryz.ntmps96
 go_wp2_with (go_at_call 97;refine(qS _ _ _).mono ?_;rintro e w' ⟨rfl,rfl⟩)
 go_ret
 exact⟨rfl,(Below.refl _ _).alloc (Nat.le_refl _) _⟩
end
section
open Go.RowKit
theorem xu {a b:ByteArray} (h:ltB a b=true):kS a b = -1:=by unfold kS;rw[if_pos h]
theorem yg {a b:ByteArray} (h:ltB a b=false):¬ kS a b<0:=by
 unfold kS
 rw[h,if_neg (by simp)]
 split<;>omega
set_option maxHeartbeats 1000000 in
theorem Gp (cs:List Cmp) (nm:ByteArray) (A:Option Addr) (n E:Nat) (X:List Nat) (w:World) (hX:XOk X w) (B:Sl aI w X A n E cs) (l:Srt Cmp.nm cs) (O:n≤12):
 Calls Tryz.prog 95 #[.slice A n E,.string nm,.func (.func 96) #[] #[]] w fun e w' => ∃ (i:Nat) (b:Bool),e = .returned (.tuple #[.int .i64 (i:Int),.bool b])∧i≤n∧(∀ (j:Nat) d,j<i→cs[j]?=some d→ltB d.nm nm=true)∧(∀ d,cs[i]?=some d→ltB d.nm nm=false)∧Below w.heap.size w w':=by
 have H:=Lib.hid B
 have D:=Lib.hid B.len
 clear B
 go_enter Tryz.func95,Tryz.ntmps95
 go_wp2
 go_loopw [9,10,11] (fun i j _ wr => ∃ (a b:Nat),a≤b∧b≤n∧i = .int .i64 a∧j = .int .i64 b∧HH w [] X wr [] [Sl.fact aI A n E cs]∧Hid ((∀ (j:Nat) d,j<a→cs[j]?=some d→ltB d.nm nm=true)∧(∀ (j:Nat) d,b≤j→cs[j]?=some d→ltB d.nm nm=false))) (fun i j _ _=>(intOf j).toNat-(intOf i).toNat)
 case atStart=>exact⟨0,n,Nat.zero_le _,Nat.le_refl _,rfl,rfl,(hstart hX).ksl0 H.out,Lib.hid ⟨fun j d v=>absurd v (Nat.not_lt_zero _),fun j d v c=>by have:=(List.getElem?_eq_some_iff.1 c).1;have:=D.out;omega⟩⟩
 case round=>
  obtain⟨a,b,L,C,rfl,rfl,K,q⟩:=hrel
  by_cases N:a<b
  ·obtain⟨h,hh,J,P⟩:∃ h:Nat,((a:Int)+(b:Int))/2=(h:Int)∧a≤h∧h<b:=⟨(a+b)/2,by omega,by omega,by omega⟩
   obtain⟨x,s⟩:∃ x,cs[h]?=some x:=⟨_,List.getElem?_eq_getElem (by have:=D.out;omega)⟩
   obtain⟨ad,r,rfl,K,⟨u,y,g,rfl,o,p⟩⟩:=K.elem 0 rfl s
   have z:=Lib.hid s
   have M:(0:Int)≤(h:Int):=by omega
   have I:(h:Int)<(n:Int):=by omega
   clear s o p
   cases hl:ltB x.nm nm with
   | true=>
     have t:=xu hl
     go_wp2_with (first | (refine bF (K.at' 0 rfl) ?_) | (go_at_call 96;refine(qf x u y g nm _).mono ?_;rw[t];rintro e F ⟨rfl,k⟩;have K:=K.on k;clear k t))
     go_roundw
     case rel=>
      refine⟨h+1,b,by omega,C,by go_num,rfl,K.ft,Lib.hid ⟨fun j d v c=>?_,q.out.2⟩⟩
      rcases Nat.lt_or_ge j h with f | f
      ·exact gF (l.lt f c z.out) hl
      ·obtain rfl:j=h:=by omega
       rw[z.out]at c
       injection c with c
       subst c
       exact hl
     case measure=>simp[intOf];omega
   | false=>
     have t:=yg hl
     go_wp2_with (first | (refine bF (K.at' 0 rfl) ?_) | (go_at_call 96;refine(qf x u y g nm _).mono ?_;generalize kS x.nm nm=m at t;rintro e F ⟨rfl,k⟩;have K:=K.on k;clear k))
     go_roundw
     case rel=>
      refine⟨a,h,J,by omega,rfl,by go_num,K.ft,Lib.hid ⟨q.out.1,fun j d v c=>?_⟩⟩
      rcases Nat.lt_or_ge h j with f | f
      ·cases hk:ltB d.nm nm with
       | false=>rfl
       | true=>rw[gF (l.lt f z.out c) hk]at hl;cases hl
      ·obtain rfl:j=h:=by omega
       rw[z.out]at c
       injection c with c
       subst c
       exact hl
     case measure=>simp[intOf];omega
  ·obtain rfl:a=b:=by omega
   by_cases G:a<n
   ·obtain⟨x,s⟩:∃ x,cs[a]?=some x:=⟨_,List.getElem?_eq_getElem (by have:=D.out;omega)⟩
    obtain⟨ad,r,rfl,K,⟨u,y,g,rfl,o,p⟩⟩:=K.elem 0 rfl s
    have M:(0:Int)≤(a:Int):=by omega
    have I:(a:Int)<(n:Int):=by omega
    clear s o p
    go_wp2_with (first | (refine bF (K.at' 0 rfl) ?_) | (go_at_call 96;refine(qf x u y g nm _).mono ?_;generalize kS x.nm nm=m;rintro e F ⟨rfl,k⟩;have K:=K.on k;clear k))
    go_ret2
    exact⟨a,_,rfl,by omega,q.out.1,fun d c=>q.out.2 a d (Nat.le_refl _) c,K.below⟩
   ·obtain rfl:a=n:=by omega
    go_wp2
    go_ret2
    exact⟨a,_,rfl,by omega,q.out.1,fun d c=>q.out.2 a d (Nat.le_refl _) c,K.below⟩
end
section
open Go.RowKit Go.Maps Go.WideMaps
theorem tw (s:ByteArray) (w:World) (a:s.size≤maxLen):Calls Tryz.prog 242 #[.string s] w fun e w'=>e = .returned (.bool (!bY s.data.toList))∧w=w':=by
 go_enter Tryz.func242,Tryz.ntmps242
 go_wp2_with (go_at_call 58;refine(gQ _ _ a).mono ?_;rintro e w' ⟨rfl,rfl⟩)
 go_ret
 exact⟨rfl,rfl⟩
theorem uX (A:Option Addr) (n c B:Nat) (ss:List ByteArray) (w:World) (g:Reads w B 1 A n (ss.map Value.string)) (C:n≤1000000) (d:∀ s ∈ ss,s.size≤maxLen):
 Calls Tryz.prog 172 #[.slice A n c,.func (.func 242) #[] #[]] w fun e w'=>e = .returned (.int .i64 (firstIdx (fun s => !bY s) (lists ss)))∧w=w':=by
 have o:ss.length=n:=by simpa using g.1
 have r:=Lib.hid o;clear o
 go_enter Tryz.func172,Tryz.ntmps172
 go_wp2
 go_loop [8] (fun i => ∃ k:Nat,k≤n∧i = .int .i64 k∧Hid (∀ (j:Nat) y,j<k→(lists ss)[j]?=some y→(!bY y)=false)) (fun i=>n-(intOf i).toNat)
 case atStart=>exact⟨0,Nat.zero_le _,rfl,fun j y t=>by omega⟩
 case round=>
  obtain⟨k,v,rfl,f⟩:=hrel
  by_cases l:k<n
  ·obtain⟨ad,x,rfl,u,m,z⟩:=g.str_at l
   have a:=d x (List.mem_of_getElem? m)
   have q:=Lib.hid (qJ ss k x m)
   clear m g
   by_cases p:bY x.data.toList=true
   ·go_wp2_with (go_at_call 242;refine(tw _ _ a).mono ?_;rintro e w' ⟨rfl,rfl⟩)
    go_round
    case rel=>
     refine⟨k+1,by omega,by go_num,fun j y t hy=>?_⟩
     rcases Nat.lt_or_ge j k with h | h
     ·exact f.out j y h hy
     ·obtain rfl:j=k:=by omega
      rw[q.out]at hy
      cases hy
      rw[p];rfl
    case measure=>simp[intOf];omega
   ·have b:bY x.data.toList=false:=by simpa using p
    go_wp2_with (go_at_call 242;refine(tw _ _ a).mono ?_;rintro e w' ⟨rfl,rfl⟩)
    go_ret
    exact⟨gu (mu _ _ k _ f.out q.out (by rw[b];rfl)).symm,rfl⟩
  ·go_wp2
   go_ret
   refine⟨gu (firstIdx_none _ _ (fun j y hy=>f.out j y ?_ hy)).symm,rfl⟩
   have:j<(lists ss).length:=(List.getElem?_eq_some_iff.1 hy).1
   rw[fH,r.out]at this
   omega
theorem pQ (A:Option Addr) (n c B:Nat) (ss:List ByteArray) (w:World) (b:Reads w B 1 A n (ss.map Value.string)) (d:n≤1000000) (a:∀ s ∈ ss,s.size≤maxLen):
 Calls Tryz.prog 103 #[.slice A n c,.func (.func 242) #[] #[]] w fun e w'=>e = .returned (.bool ((lists ss).any (fun s => !bY s)))∧w=w':=by
 have HI:=fun W=>Lib.hid (uX A n c B ss W)
 go_enter Tryz.func103,Tryz.ntmps103
 go_wp2_with fail
 refine((HI _).out b d a).mono ?_
 rintro e f ⟨rfl,rfl⟩
 go_wp2
 go_ret
 exact⟨gi (mM _ _),rfl⟩
theorem xT (A:Option Addr) (n c B:Nat) (ss:List ByteArray) (w:World) (j:Reads w B 1 A n (ss.map Value.string)) (hB:B≤w.heap.size) (q:n≤1000000) (d:∀ s ∈ ss,s.size≤maxLen):
 Calls Tryz.prog 190 #[.slice A n c] w fun e w'=>e = .returned (.bool (cK (lists ss)))∧Below w.heap.size w w':=by
 have o:ss.length=n:=by simpa using j.1
 have b:=Lib.hid ((fH ss).trans o);clear o
 have t:=fun W=>Lib.hid (sY A n c B ss W)
 have y:=fun W=>Lib.hid (pQ A n c B ss W)
 by_cases i:n≤32
 ·go_enter Tryz.func190,Tryz.ntmps190
  go_wp2_with fail
  refine((t _).out j hB q d).mono ?_
  rintro e u ⟨rfl,v,f⟩
  obtain⟨D,m,_,_,x,l⟩:=v
  have hlen:=fun ty=>m.len (P:=Tryz.prog) Tryz.underlying313 ty
  rw[b.out]at x
  have k:=Lib.hid l
  have g:=j.keep (w':=u) (fun p C=>f.cell (by omega))
  clear m l
  by_cases r:Maps.size D<n
  ·go_wp2
   go_ret
   refine⟨gi ?_,f⟩
   have a:¬ (lists ss).Nodup:=fun h=>by have:=k.out.2 h;rw[b.out]at this;omega
   unfold cK
   simp[a]
  ·go_wp2_with fail
   refine((y _).out g q d).mono ?_
   rintro e z ⟨rfl,rfl⟩
   go_wp2
   go_ret
   refine⟨gi ?_,f⟩
   have a:(lists ss).Nodup:=k.out.1 (by rw[b.out];omega)
   unfold cK
   rw[Bool.eq_iff_iff]
   simp[a]
   intro _
   rw[b.out];exact i
 ·go_enter Tryz.func190,Tryz.ntmps190
  go_wp2_with fail
  go_ret
  refine⟨gi ?_,Below.refl _ _⟩
  unfold cK
  simp
  intro h
  rw[b.out]at h
  omega
theorem Gs (A:Option Addr) (n c:Nat) (p:Int) (w:World) (d:n≤1000000) (h:p<1∨(n:Int)<p):
 Calls Tryz.prog 262 #[.slice A n c,.int .i64 p] w fun e w'=>e = .returned (.tuple #[.string ⟨#[]⟩,.int .i64 14])∧w=w':=by
 by_cases a:p<1
 ·go_enter Tryz.func262,Tryz.ntmps262
  go_wp2
  go_ret2
  exact⟨rfl,rfl⟩
 ·have b:(n:Int)<p:=by omega
  go_enter Tryz.func262,Tryz.ntmps262
  go_wp2
  go_ret2
  exact⟨rfl,rfl⟩
theorem Fx (A:Option Addr) (n c B k:Nat) (ss:List ByteArray) (s:ByteArray) (w:World) (b:Reads w B 1 A n (ss.map Value.string)) (l:n≤1000000) (a:ss[k]?=some s):
 Calls Tryz.prog 262 #[.slice A n c,.int .i64 ((k:Int)+1)] w fun e w'=>e = .returned (.tuple #[.string s,.int .i64 0])∧w=w':=by
 have g:ss.length=n:=by simpa using b.1
 have d:k<n:=by rw[←g];exact(List.getElem?_eq_some_iff.1 a).1
 obtain⟨ad,x,rfl,i,f,j⟩:=b.str_at d
 obtain rfl:x=s:=by rw[a]at f;injection f with h;exact h.symm
 clear g f a b
 go_enter Tryz.func262,Tryz.ntmps262
 go_wp2
 go_ret2
 exact⟨rfl,rfl⟩
end
section
open Go.RowKit Go.Maps Go.WideMaps
theorem Tryz.infoStr:(Tryz.prog.info? 9).map (fun i=>(i.zero,i.size,i.bytes))=some (some (.string ByteArray.empty),1,16):=by kernel_rfl
theorem BK (ss:List ByteArray):∀ u ∈ ss.map Value.string,u.oneCell'=true:=by
 intro u a
 obtain⟨s,_,rfl⟩:=List.mem_map.1 a
 rfl
theorem sW (A:Option Addr) (n c B:Nat) (ss:List ByteArray) (w:World) (d:Reads w B 1 A n (ss.map Value.string)) (hB:B≤w.heap.size) (x:n≤1000000):
 Calls Tryz.prog 243 #[.slice A n c] w fun e w' => ∃ v,e = .returned v∧w'.ownsRow w.heap.size 9 1 v n (ss.map Value.string)∧Below w.heap.size w w':=by
 have q:∀ (w:World) (a:Option Addr) (n c n' c':Nat),(binOp .eql 32 (.slice a n c) (.slice none n' c')).run Tryz.prog w = .ok (.bool a.isNone) w:=fun w a n c n' c'=>Lib.run_eql_slice_nil w _ _ a n c n' c' Tryz.underlying32
 obtain⟨r,k,l,f,g⟩:=info_parts Tryz.infoStr
 rcases A with _ | ad
 ·have i:n=0:=by
   rcases Nat.eq_zero_or_pos n with h | h
   ·exact h
   ·obtain⟨_,h,_⟩:=d.2 h;cases h
  subst i
  have m:ss.map Value.string = []:=List.eq_nil_of_length_eq_zero (by simpa using d.1)
  have p:=Lib.hid m;clear m d
  go_enter Tryz.func243,Tryz.ntmps243
  go_wp2
  go_ret
  exact⟨_,rfl,⟨by rw[p.out];rfl,.inl ⟨rfl,rfl⟩⟩,Below.refl _ _⟩
 ·have s:=Lib.hid d;clear d
  go_enter Tryz.func243,Tryz.ntmps243
  go_wp2_with (at_builtin;go_must (refine bf _ rfl _ _ 32 rfl w.heap.size 9 r _ 1 16 Tryz.underlying32 k l f g rfl (by omega) _ 0 [] rfl (cY w 9 w.heap.size (Nat.le_refl _) 1) B (some ad) n c _ rfl (s.out.alloc hB _) (BK ss) (by unfold maxLen;omega) (by omega) (by simp) ?_);intro t u b j o)
  go_ret
  exact⟨t,rfl,by simpa using b,cX ((Below.refl _ _).alloc (Nat.le_refl _) _) j (cY w 9 w.heap.size (Nat.le_refl _) 1) (Nat.le_refl _) (by simp)⟩
def eW (l:List (List UInt8)) (s:List UInt8):Int:=
 if cK l=false then 1 else if bY s=false then 3 else if placeOf l s≠0 then 7 else if l.length=32 then 9 else 0
def xA (A:Option Addr) (n c:Nat) (ss:List ByteArray) (s:ByteArray) (w:World) (e:Ending) (w':World):Prop:=
 ((eW (lists ss) s.data.toList≠0∧e = .returned (.tuple #[.slice A n c,.int .i64 (eW (lists ss) s.data.toList)])) ∨
  (eW (lists ss) s.data.toList=0 ∧ ∃ v,e = .returned (.tuple #[v,.int .i64 0])∧w'.ownsRow w.heap.size 9 1 v (n+1) ((ss ++ [s]).map Value.string)))∧Below w.heap.size w w'
theorem GL (A:Option Addr) (n c B:Nat) (ss:List ByteArray) (s:ByteArray) (w:World) (k:Reads w B 1 A n (ss.map Value.string)) (hB:B≤w.heap.size) (V:n≤100000) (b:∀ s ∈ ss,s.size≤maxLen) (u:s.size≤maxLen):
 Calls Tryz.prog 193 #[.slice A n c,.string s] w (xA A n c ss s w):=by
 have R:ss.length=n:=by simpa using k.1
 have F:=Lib.hid ((fH ss).trans R);clear R
 have t:=fun W=>Lib.hid (xT A n c B ss W)
 have U:=fun W=>Lib.hid (lZ A n c B ss s W)
 have X:=fun W=>Lib.hid (sW A n c B ss W)
 have y:=fun W=>Lib.hid (gQ s W u)
 obtain⟨S,K,M,E,G⟩:=info_parts Tryz.infoStr
 by_cases hR:cK (lists ss)=true
 ·have Q:n≤32:=by
   have:=hR;unfold cK at this;rw[decide_eq_true_eq,F.out]at this;exact this.1
  by_cases hN:bY s.data.toList=true
  ·by_cases hP:placeOf (lists ss) s.data.toList=0
   ·have D:¬ ((0:Int)<(placeOf (lists ss) s.data.toList:Int)):=by omega
    by_cases m:n=32
    ·have g:=Lib.hid (show eW (lists ss) s.data.toList=9 from by unfold eW;rw[hR,hN,hP,F.out,m];rfl)
     clear hP
     subst m
     go_enter Tryz.func193,Tryz.ntmps193
     go_wp2_with fail
     refine((t _).out k hB (by omega) b).mono ?_
     rintro e x ⟨rfl,a⟩
     have f:=(k.more hB).below a
     have d:=a.size
     go_wp2_with fail
     refine((y _).out).mono ?_
     rintro e p ⟨rfl,rfl⟩
     go_wp2_with fail
     have j:=fun W=>Lib.hid (lZ A 32 c w.heap.size ss s W)
     refine((j _).out f d (by omega) b u).mono ?_
     rintro e C ⟨rfl,h⟩
     go_wp2
     go_ret2
     exact⟨.inl ⟨by rw[g.out];decide,by rw[g.out];rfl⟩,a.trans (h.mono d)⟩
    ·have g:=Lib.hid (show eW (lists ss) s.data.toList=0 from by unfold eW;rw[hR,hN,hP,F.out];simp[m])
     have O:((n:Int) == 32)=false:=by simp;omega
     have P:(n == 32)=false:=by simp;omega
     clear hP m
     go_enter Tryz.func193,Tryz.ntmps193
     go_wp2_with fail
     refine((t _).out k hB (by omega) b).mono ?_
     rintro e x ⟨rfl,a⟩
     have f:=(k.more hB).below a
     have d:=a.size
     go_wp2_with fail
     refine((y _).out).mono ?_
     rintro e p ⟨rfl,rfl⟩
     go_wp2_with fail
     have j:=fun W=>Lib.hid (lZ A n c w.heap.size ss s W)
     refine((j _).out f d (by omega) b u).mono ?_
     rintro e C ⟨rfl,h⟩
     have i:=a.trans (h.mono d)
     have H:=(k.more hB).below i
     have l:=i.size
     clear f h
     go_wp2_with fail
     have z:=fun W=>Lib.hid (sW A n c w.heap.size ss W)
     refine((z _).out H l (by omega)).mono ?_
     rintro e T ⟨v,rfl,hown,r⟩
     have q:=i.trans (r.mono l)
     have J:=r.size
     go_wp2_with (at_builtin;go_must (refine dZ T rfl _ _ 32 rfl C.heap.size 9 S _ 16 Tryz.underlying32 K M E G rfl _ n _ hown rfl (.string s) rfl rfl (by unfold maxLen;omega) (by omega) J ?_);intro v' Y o I)
     go_ret2
     refine⟨.inr ⟨g.out,v',rfl,?_⟩,cX q I hown l (by omega)⟩
     rw[List.map_append]
     exact dN o l
   ·have D:(0:Int)<(placeOf (lists ss) s.data.toList:Int):=by omega
    have g:=Lib.hid (show eW (lists ss) s.data.toList=7 from by unfold eW;rw[hR,hN];simp[hP])
    clear hP
    go_enter Tryz.func193,Tryz.ntmps193
    go_wp2_with fail
    refine((t _).out k hB (by omega) b).mono ?_
    rintro e x ⟨rfl,a⟩
    have f:=(k.more hB).below a
    have d:=a.size
    go_wp2_with fail
    refine((y _).out).mono ?_
    rintro e p ⟨rfl,rfl⟩
    go_wp2_with fail
    have j:=fun W=>Lib.hid (lZ A n c w.heap.size ss s W)
    refine((j _).out f d (by omega) b u).mono ?_
    rintro e C ⟨rfl,h⟩
    go_wp2
    go_ret2
    exact⟨.inl ⟨by rw[g.out];decide,by rw[g.out];rfl⟩,a.trans (h.mono d)⟩
  ·have N:bY s.data.toList=false:=by simpa using hN
   have g:=Lib.hid (show eW (lists ss) s.data.toList=3 from by unfold eW;rw[hR,N];rfl)
   go_enter Tryz.func193,Tryz.ntmps193
   go_wp2_with fail
   refine((t _).out k hB (by omega) b).mono ?_
   rintro e x ⟨rfl,a⟩
   go_wp2_with fail
   refine((y _).out).mono ?_
   rintro e p ⟨rfl,rfl⟩
   go_wp2
   go_ret2
   exact⟨.inl ⟨by rw[g.out];decide,by rw[g.out];rfl⟩,a⟩
 ·have L:cK (lists ss)=false:=by simpa using hR
  have g:=Lib.hid (show eW (lists ss) s.data.toList=1 from by unfold eW;rw[L];rfl)
  go_enter Tryz.func193,Tryz.ntmps193
  go_wp2_with fail
  refine((t _).out k hB (by omega) b).mono ?_
  rintro e x ⟨rfl,a⟩
  go_wp2
  go_ret2
  exact⟨.inl ⟨by rw[g.out];decide,by rw[g.out];rfl⟩,a⟩
end
section
open Go.RowKit
abbrev eX (l:List UInt8):ByteArray:=⟨l.toArray⟩
def af:Sh (List UInt8):=jb 1 (fun l => [.string (eX l)]) (fun l=>l.length≤maxLen) (fun _=>rfl) (by intro a u hu;rw[List.mem_singleton]at hu;subst hu;rfl)
theorem pS (l:List (List UInt8)):lists (l.map eX)=l:=by
 unfold lists
 rw[List.map_map]
 induction l with
 | nil=>rfl
 | cons x l ih=>rw[List.map_cons,ih];rfl
theorem Sl.names {w:World} {X:List Nat} {A:Option Addr} {n c:Nat} {l:List (List UInt8)} (h:Sl af w X A n c l):Reads w w.heap.size 1 A n ((l.map eX).map Value.string) ∧ ∀ s ∈ l.map eX,s.size≤maxLen:=by
 obtain⟨i,k,g,j,vs,a,m,e⟩:=h
 obtain⟨rfl,d⟩:=aO.1 e
 rw[ff]at a
 refine⟨by rw[List.map_map];exact a,fun s b=>?_⟩
 obtain⟨l,f,rfl⟩:=List.mem_map.1 b
 have:=d l f
 simpa [eX,ByteArray.size] using this
theorem sj {w:World} {X:List Nat} (l:List (List UInt8)) (h:∀ s ∈ l,s.length≤maxLen):aC af w X ((l.map eX).map Value.string) l:=by
 refine aO.2 ⟨?_,h⟩
 rw[ff,List.map_map]
 rfl
theorem yD {c:Cx} (h:¬ (0≤c.q∧c.q≤4294967296∧0≤c.a∧c.a≤1099511627776)):aN c=false:=by
 cases hr:aN c with
 | false=>rfl
 | true=>
   unfold aN at hr
   simp only[Bool.and_eq_true,decide_eq_true_iff]at hr
   exact absurd ⟨hr.1.1.1.1,hr.1.1.1.2,hr.1.1.2,hr.1.2⟩ h
theorem za {c:Cx} (d:0≤c.q) (e:c.q≤4294967296) (b:0≤c.a) (f:c.a≤1099511627776):aN c=cK c.ns:=by
 unfold aN;rw[decide_eq_true d,decide_eq_true e,decide_eq_true b,decide_eq_true f];rfl
set_option maxHeartbeats 2000000 in
theorem jy (q a:Int) (ns:List (List UInt8)) (A:Option Addr) (n d:Nat) (X:List Nat) (w:World) (g:Sl af w X A n d ns) (r:n≤1000):
 Calls Tryz.prog 125 #[.agg #[.int .i64 q,.int .i64 a,.slice A n d]] w fun e w'=>e = .returned (.bool (aN ⟨q,a,ns⟩))∧Below w.heap.size w w':=by
 have i:=Lib.hid g.names
 clear g
 by_cases h:¬ (0≤q∧q≤4294967296∧0≤a∧a≤1099511627776)
 ·rw[yD (c:=⟨q,a,ns⟩) h]
  rcases(by omega:q<0∨(0≤q∧4294967296<q)∨(0≤q∧q≤4294967296∧a<0)∨(0≤q∧q≤4294967296∧0≤a∧1099511627776<a)) with b | ⟨k,b⟩ | ⟨k,b,f⟩ | ⟨k,b,f,j⟩
  all_goals
   clear h
   go_enter Tryz.func125,Tryz.ntmps125
   go_wp2
   go_ret
   exact⟨rfl,(Below.refl _ _).alloc (Nat.le_refl _) _⟩
 ·obtain⟨b,f,j,o⟩:=Classical.not_not.1 h
  rw[za (c:=⟨q,a,ns⟩) b f j o]
  have m:=Lib.hid (pS ns)
  clear h
  go_enter Tryz.func125,Tryz.ntmps125
  go_wp2_with (go_at_call 190;refine(xT A n d w.heap.size (ns.map eX) _ (i.out.1.alloc (Nat.le_refl _) _) (by simp) (by omega) i.out.2).mono ?_;rintro e p ⟨rfl,l⟩;rw[m.out])
  go_ret
  exact⟨rfl,((Below.refl _ _).alloc (Nat.le_refl _) _).trans (l.mono (by simp))⟩
end
section
open Go.RowKit
theorem iD (k:Int):cu k≤3:=by
 unfold cu
 split
 ·omega
 ·split
  ·omega
  ·split<;>omega
theorem zZ (b:Evt) (w:World):Calls Tryz.prog 195 #[.agg (evA b)] w fun e w' => ∃ g,e = .returned (.slice (some ⟨g,0,none⟩) (cu b.k) 3)∧w.heap.size≤g∧Blk w' g 2 #[.int .i64 b.x,.int .i64 b.y,.int .i64 b.z]∧Below w.heap.size w w':=by
 have c:=fun W=>Lib.hid (wZ b.k W)
 have d:=iD b.k
 generalize cu b.k=m at c d ⊢
 obtain⟨q,a,k,f,x,y,z⟩:=b
 simp only at c
 go_enter Tryz.func195,Tryz.ntmps195
 go_wp2_with (go_at_call 57;refine((c _).out).mono ?_;rintro e w' ⟨rfl,rfl⟩)
 go_ret
 refine⟨w.heap.size+1,rfl,by omega,sA _ _ _ _ _,((Below.refl _ _).alloc (Nat.le_refl _) _).alloc (by simp) _⟩
end
section
def maskN:Nat:=4294967295
def yw:Nat:=3988292384
def gv (n:Nat):Nat:=if n%2=1 then n/2 ^^^ yw else n/2
def cZ (n:Nat):Nat:=gv (gv (gv (gv (gv (gv (gv (gv n)))))))
def tj:Nat→Nat→Nat
 | 0,n=>n
 | k+1,n=>gv (tj k n)
def goN (t:Nat→Nat) (n:Nat) (b:List Nat):Nat:=b.foldl (fun n x=>t (n%256 ^^^ x) ^^^ n/256) n
def pW (t:Nat→Nat) (s:Nat) (b:List Nat):Nat:=goN t (s ^^^ maskN) b ^^^ maskN
def le4 (n:Nat):List Nat:=[n%256,n/256%256,n/65536%256,n/16777216%256]
theorem ER (n:Nat):tj 8 n=cZ n:=rfl
theorem gV {a b:Nat} (c:a<4294967296) (d:b<4294967296):a ^^^ b<4294967296:=Nat.xor_lt_two_pow (n:=32) (by simpa using c) (by simpa using d)
theorem xH {a b:Nat} (c:a<256) (d:b<256):a ^^^ b<256:=Nat.xor_lt_two_pow (n:=8) (by simpa using c) (by simpa using d)
theorem Du {n:Nat} (h:n<4294967296):gv n<4294967296:=by
 unfold gv
 split
 ·exact gV (by omega) (by decide)
 ·omega
theorem vf {n:Nat} (h:n<4294967296) (k:Nat):tj k n<4294967296:=by
 induction k with
 | zero=>exact h
 | succ k ih=>exact Du ih
theorem vk {n:Nat} (h:n<4294967296):cZ n<4294967296:=vf h 8
theorem jW (a b:Nat):(a ^^^ b) ^^^ b=a:=by rw[Nat.xor_assoc,Nat.xor_self,Nat.xor_zero]
theorem add_eq_xor (c r:Nat) (e:c<256):c+256*r=c ^^^ 256*r:=by
 refine Nat.eq_of_testBit_eq fun i=>?_
 rw[Nat.testBit_xor]
 have b:c+256*r=2^8*r+c:=by omega
 have d:256*r=2^8*r:=by omega
 rw[b,Nat.testBit_two_pow_mul_add r (by omega:c<2^8) i,d,Nat.testBit_two_pow_mul]
 by_cases h:i<8
 ·have a:decide (8≤i)=false:=by simp;omega
  simp[h,a]
 ·rw[if_neg h]
  have:c.testBit i=false:=Nat.testBit_lt_two_pow (Nat.lt_of_lt_of_le (by omega:c<2^8) (Nat.pow_le_pow_right (by omega) (by omega)))
  have a:decide (8≤i)=true:=by simp;omega
  simp[this,a]
theorem Gn (n:Nat):n=n%256 ^^^ 256*(n/256):=by
 rw[←add_eq_xor _ _ (by omega)];omega
theorem AF (t:Nat→Nat) (d:∀ i,i<256→t i<4294967296) (b:List Nat) (a:∀ x ∈ b,x<256):∀ n,n<4294967296→goN t n b<4294967296:=by
 induction b with
 | nil=>intro n c;exact c
 | cons x b ih=>
   intro n c
   simp only[goN,List.foldl_cons]
   exact ih (fun y hy=>a y (List.mem_cons_of_mem _ hy)) _ (gV (d _ (xH (by omega) (a x (List.mem_cons_self ..)))) (by omega))
theorem Dw (t:Nat→Nat) (d:∀ i,i<256→t i<4294967296) (s:Nat) (a:s<4294967296) (b:List Nat) (c:∀ x ∈ b,x<256):pW t s b<4294967296:=
 gV (AF t d b c _ (gV a (by decide))) (by decide)
end
section
open Go.RowKit
theorem FG {k:IntKind} {a b:Int} (h:a=b):Ending.returned (.int k a) = .returned (.int k b):=by rw[h]
theorem Bj (n:Nat) (h:n<4294967296):bits .xor .u32 ((n:Int)/2) 3988292384=((n/2 ^^^ yw:Nat):Int):=by
 have e:((n:Int)/2)=((n/2:Nat):Int):=by omega
 have a:(3988292384:Int)=((yw:Nat):Int):=rfl
 rw[e,a,u32_xor_nat _ _ (by omega) (by decide)]
theorem Fi (n:Nat) (f:n<4294967296) (w:World):Calls Tryz.prog 174 #[.int .u32 n] w fun e w'=>e = .returned (.int .u32 (gv n))∧w=w':=by
 have b:=Bj n f
 have d:=Lib.hid b;clear b
 by_cases h:n%2=1
 ·have c:(((n:Int)%2) == 1)=true:=by rw[beq_iff_eq];omega
  have a:=Lib.hid (show gv n=n/2 ^^^ yw from by unfold gv;rw[if_pos h])
  clear h
  go_enter Tryz.func174,Tryz.ntmps174
  go_wp2
  go_ret
  exact⟨FG (by rw[a.out,←d.out]),rfl⟩
 ·have c:(((n:Int)%2) == 1)=false:=by rw[beq_eq_false_iff_ne];omega
  have a:=Lib.hid (show gv n=n/2 from by unfold gv;rw[if_neg h])
  clear h
  go_enter Tryz.func174,Tryz.ntmps174
  go_wp2
  go_ret
  exact⟨FG (by rw[a.out];rfl),rfl⟩
def bB (t:Nat→Nat):Array Value:=((List.range 256).map (fun i=>Value.int .u32 ((t i:Nat):Int))).toArray
theorem cN (t:Nat→Nat):(bB t).size=256:=by simp[bB]
theorem eu (t:Nat→Nat) (i:Nat) (h:i<256):(bB t)[i]?=some (.int .u32 (t i)):=by
 simp[bB,h]
theorem nJ:Tryz.zeroCells185=bB (fun _=>0):=by kernel_rfl
theorem vS (t:Nat→Nat) (k:Nat) (b:k<256) (v:Nat):(bB t).setIfInBounds k (.int .u32 v)=bB (fun i=>if i=k then v else t i):=by
 apply Array.ext_getElem?
 intro i
 rw[Array.getElem?_setIfInBounds]
 by_cases a:k=i
 ·subst a
  rw[if_pos rfl,cN,if_pos b,eu _ _ b];simp
 ·rw[if_neg a]
  by_cases h:i<256
  ·rw[eu _ _ h,eu _ _ h,if_neg (fun e=>a e.symm)]
  ·rw[Array.getElem?_eq_none (by rw[cN];omega),Array.getElem?_eq_none (by rw[cN];omega)]
theorem lD {t u:Nat→Nat} (h:∀ i,i<256→t i=u i):bB t=bB u:=by
 apply Array.ext_getElem?
 intro i
 by_cases a:i<256
 ·rw[eu _ _ a,eu _ _ a,h i a]
 ·rw[Array.getElem?_eq_none (by rw[cN];omega),Array.getElem?_eq_none (by rw[cN];omega)]
theorem oJ (t:Nat→Nat):(bB t).all (·.oneCell')=true:=by
 rw[Array.all_eq_true]
 intro i b
 have a:i<256:=by rw[cN]at b;exact b
 have:=eu t i a
 rw[Array.getElem?_eq_getElem b]at this
 injection this with this
 rw[this];rfl
attribute [irreducible] bB
theorem fW (t:Nat→Nat):(Tryz.prog.info? 185).map (·.size)=some (bB t).size:=by rw[cN];kernel_rfl
theorem Blk.setRow {w:World} {g:Nat} {t:TypeId} {old:Array Value} (h:Blk w g t old) (cs:Array Value):Blk (w.setRow g cs) g t cs:=setRow_heap w g old cs t (0,0) h
theorem below_setRow {B:Nat} {a w:World} (h:Below B a w) {g:Nat} (b:B≤g) (cs:Array Value):Below B a (w.setRow g cs):=
 h.trans ⟨rfl,rfl,rfl,by simp,fun k c=>setRow_other w g k cs (by omega)⟩
theorem mD (w:World):Calls Tryz.prog 110 #[] w fun e w'=>e = .returned (.agg (bB cZ))∧Below w.heap.size w w':=by
 go_enter Tryz.func110,Tryz.ntmps110
 go_wp2
 go_loopw [4] (fun i wr => ∃ k:Nat,k≤256∧i = .int .i64 k∧Hid (Blk wr (w.heap.size+1) 185 (bB (fun i=>if i<k then cZ i else 0)))∧Hid (Blk wr w.heap.size 185 (bB (fun _=>0)))∧Below w.heap.size w wr) (fun i _=>256-(intOf i).toNat)
 case atStart=>
  refine⟨0,Nat.zero_le _,rfl,?_,?_,(((Below.refl _ _).alloc (Nat.le_refl _) _).alloc (by simp) _)⟩
  ·have h:=sA w 185 185 Tryz.zeroCells185 Tryz.zeroCells185
   rw[show bB (fun i=>if i<0 then cZ i else 0)=Tryz.zeroCells185 from by rw[nJ];exact lD (fun i _=>rfl)]
   exact h
  ·rw[←nJ]
   exact vp w 185 185 Tryz.zeroCells185 Tryz.zeroCells185
 case round=>
  obtain⟨k,p,rfl,a,d,b⟩:=hrel
  by_cases c:k<256
  ·have hcell:wr.cell? ⟨w.heap.size+1,k,none⟩=some (.int .u32 0):=by
    rw[a.out.cell k,eu _ _ c,if_neg (by omega)];rfl
   have m:wr.frozen? ⟨w.heap.size+1,k,none⟩=false:=a.out.frozen k
   have o:(0:Int)≤(k:Int):=by omega
   have r:decide ((k:Int)<256)=true:=by simp;omega
   go_wp2
   go_loop [3,9] (fun t j => ∃ q:Nat,q≤8∧j = .int .i64 q∧t = .int .u32 (tj q k)) (fun _ j=>8-(intOf j).toNat)
   case atStart=>exact⟨0,Nat.zero_le _,rfl,rfl⟩
   case round=>
    obtain⟨q,s,rfl,rfl⟩:=hrel
    by_cases n:q<8
    ·go_wp2_with (go_at_call 174;refine(Fi _ (vf (by omega) q) _).mono ?_;rintro e w' ⟨rfl,rfl⟩)
     go_round
     case rel=>exact⟨q+1,by omega,by go_num,rfl⟩
     case measure=>simp[intOf];omega
    ·obtain rfl:q=8:=by omega
     go_wp2
     go_roundw
     case rel=>
      refine⟨k+1,by omega,by go_num,?_,d.out.far (by simp) _,b.setCell (by simp) _⟩
      have e:=a.out.set_ k (.int .u32 (tj 8 k))
      rw[vS _ k c,lD (u:=fun i=>if i<k+1 then cZ i else 0) (fun i _=>?_)]at e
      ·exact e
      ·by_cases f:i=k
       ·subst f;rw[if_pos rfl,if_pos (by omega),ER]
       ·rw[if_neg f]
        by_cases g:i<k
        ·rw[if_pos g,if_pos (by omega)]
        ·rw[if_neg g,if_neg (by omega)]
     case measure=>simp[intOf];omega
  ·obtain rfl:k=256:=by omega
   rw[lD (u:=cZ) (fun i l=>by rw[if_pos l])]at a
   go_wp2_with (first
    | (refine wpList_load_row rfl 185 _ rfl (w.heap.size+1) rfl 185 (bB cZ) (0,0) _ a.out Tryz.underlying185 rfl (fW _) ?_)
    | (refine wpList_store_row rfl 185 _ _ rfl w.heap.size (bB cZ) rfl rfl 185 (bB (fun _=>0)) d.out (fW _) (by rw[cN,cN]) (oJ _) ?_))
   exact bodyPost_ret (results_cell_row rfl _ _ w.heap.size 185 (bB cZ) (0,0) _ rfl (d.out.setRow _) Tryz.underlying185 rfl (fW _)) rfl ⟨rfl,below_setRow b (Nat.le_refl _) _⟩
end
section
open Go.RowKit
theorem DM (g:Nat) (a:g<4294967296):bits .xor .u32 IntKind.u32.max ((g ^^^ maskN:Nat):Int)=(g:Int):=by
 have b:IntKind.u32.max=((maskN:Nat):Int):=rfl
 rw[b,u32_xor_nat _ _ (by decide) (gV a (by decide)),Nat.xor_comm,jW]
theorem Ca (g:Nat) (a:g<4294967296):bits .xor .u32 IntKind.u32.max (g:Int)=((g ^^^ maskN:Nat):Int):=by
 have b:IntKind.u32.max=((maskN:Nat):Int):=rfl
 rw[b,u32_xor_nat _ _ (by decide) a,Nat.xor_comm]
theorem Ev (g x:Nat) (a:x<256):bits .xor .u8 ((g:Int)%256) (x:Int)=((g%256 ^^^ x:Nat):Int):=by
 have e:(g:Int)%256=((g%256:Nat):Int):=by omega
 rw[e,u8_xor_nat _ _ (by omega) a]
theorem Ci (a g:Nat) (b:a<4294967296) (c:g<4294967296):bits .xor .u32 (a:Int) ((g:Int)/256)=((a ^^^ g/256:Nat):Int):=by
 have e:(g:Int)/256=((g/256:Nat):Int):=by omega
 rw[e,u32_xor_nat _ _ b (by omega)]
theorem AW (t:Nat→Nat) (n:Nat) (b:List Nat) (x:Nat):goN t n (b ++ [x])=t (goN t n b%256 ^^^ x) ^^^ goN t n b/256:=by simp[goN]
theorem GD (t:Nat→Nat) (z:∀ i,i<256→t i<4294967296) (s:Nat) (F:s<4294967296) (A:Option Addr) (n c B:Nat) (bs:List UInt8) (w:World) (q:Reads w B 1 A n (byteCells bs)) (hB:B≤w.heap.size) (P:n≤1000000):
 Calls Tryz.prog 225 #[.agg (bB t),.int .u32 s,.slice A n c] w fun e w'=>e = .returned (.int .u32 (pW t s (bE bs)))∧Below w.heap.size w w':=by
 have C:=q.lenB
 have I:=Lib.hid C;clear C
 go_enter Tryz.func225,Tryz.ntmps225
 go_wp2
 go_loop [1,12] (fun v i => ∃ k:Nat,k≤n∧i = .int .i64 k∧v = .int .u32 ((goN t (s ^^^ maskN) ((bE bs).take k) ^^^ maskN:Nat):Int)) (fun _ i=>n-(intOf i).toNat)
 case atStart=>exact⟨0,Nat.zero_le _,rfl,by simp[goN,jW]⟩
 case round=>
  obtain⟨k,O,rfl,rfl⟩:=hrel
  by_cases r:k<n
  ·obtain⟨ad,x,rfl,N,D,u⟩:=q.byte_at r
   have H:=(World.cell?_alloc_lt w (.cells (bB t) 185) (ad.add k) (by rw[aF];omega)).trans u
   obtain⟨g,o⟩:∃ g,goN t (s ^^^ maskN) ((bE bs).take k)=g:=⟨_,rfl⟩
   have h:g<4294967296:=by rw[←o];exact AF t z _ (fun y hy=>kJ bs y (List.mem_of_mem_take hy)) _ (gV F (by decide))
   rw[o]
   have d:=DM g h
   have m:=x.toNat_lt
   clear u q
   obtain⟨j,p⟩:∃ j,g%256 ^^^ x.toNat=j:=⟨_,rfl⟩
   have f:j<256:=by rw[←p];exact xH (by omega) m
   have a:=Ev g x.toNat m
   rw[p]at a
   have htab:=eu t j f
   have b:=z j f
   have E:=Ci (t j) g b h
   have M:=Ca (t j ^^^ g/256) (gV b (by omega))
   have L:(0:Int)≤bits BinOp.xor IntKind.u8 (bits BinOp.xor IntKind.u32 IntKind.u32.max ((g ^^^ maskN:Nat):Int)%256) (x.toNat:Int):=by rw[d,a];omega
   have G:bits BinOp.xor IntKind.u8 (bits BinOp.xor IntKind.u32 IntKind.u32.max ((g ^^^ maskN:Nat):Int)%256) (x.toNat:Int)<256:=by rw[d,a];omega
   have K:=Lib.hid (show goN t (s ^^^ maskN) ((bE bs).take (k+1))=t j ^^^ g/256 from by
    have e:(bE bs).take (k+1)=(bE bs).take k ++ [x.toNat]:=by rw[List.take_add_one];simp[bE,D]
    rw[e,AW,o,p])
   clear o p D
   go_wp2
   go_round
   case rel=>exact⟨k+1,by omega,by go_num,by rw[K.out]⟩
   case measure=>simp[intOf];omega
  ·have J:=Lib.hid (List.take_of_length_le (l:=bE bs) (i:=k) (by rw[dj,I.out];omega))
   go_wp2
   go_ret
   exact⟨FG (by rw[J.out];rfl),(Below.refl _ _).alloc (Nat.le_refl _) _⟩
end
section
open Go.RowKit
def kU (s:Nat):List UInt8:=(le4 s).map UInt8.ofNat
def fK (t:Nat→Nat) (bs:List UInt8):List UInt8:=bs++kU (pW t 0 (bE bs))
theorem fm (s:Nat):(kU s).length=4:=by simp[kU,le4]
theorem mS (t:Nat→Nat) (bs:List UInt8):(fK t bs).length=bs.length+4:=by unfold fK;rw[List.length_append,fm]
theorem yO (s k:Nat) (a:k<4):(kU s).take (k+1)=(kU s).take k ++ [UInt8.ofNat (s/256^k%256)]:=by
 rcases(by omega:k=0∨k=1∨k=2∨k=3) with rfl | rfl | rfl | rfl<;>simp[kU,le4]
theorem gP (m:Nat) (h:m<256):((UInt8.ofNat m).toNat:Int)=(m:Int):=by simp;omega
theorem vo (t:Nat→Nat) (z:∀ i,i<256→t i<4294967296) (A:Option Addr) (n c B:Nat) (bs:List UInt8) (w:World) (r:Reads w B 1 A n (byteCells bs)) (hB:B≤w.heap.size) (L:n≤900000):
 Calls Tryz.prog 173 #[.agg (bB t),.slice A n c] w fun e w' => ∃ v,e = .returned v∧w'.ownsRow w.heap.size 5 1 v (n+4) (byteCells (fK t bs))∧Below w.heap.size w w':=by
 have C:=r.lenB
 have J:=Lib.hid C;clear C
 have D:=Lib.hid r;clear r
 obtain⟨G,x,y,o,q⟩:=info_parts Tryz.infoU8
 go_enter Tryz.func173,Tryz.ntmps173
 go_wp2_with (refine wpList_load_row rfl 185 _ rfl w.heap.size rfl 185 (bB t) (0,0) _ (Blk.new w 185 (bB t)) Tryz.underlying185 rfl (fW _) ?_)
 refine(GD t z 0 (by decide) A n c B bs _ (D.out.alloc hB _) (by simp;omega) (by omega)).mono ?_
 rintro e w1 ⟨rfl,j⟩
 obtain⟨s,m⟩:∃ s,pW t 0 (bE bs)=s:=⟨_,rfl⟩
 have H:s<4294967296:=by rw[←m];exact Dw t z 0 (by decide) _ (kJ bs)
 rw[m]
 have F:=Lib.hid m;clear m
 have b:Below w.heap.size w w1:=((Below.refl _ _).alloc (Nat.le_refl _) _).trans (j.mono (by simp))
 have u:=Lib.hid ((D.out.more hB).below b)
 have f:=b.size
 go_wp2_with fail
 refine(tg A n c w.heap.size bs _ u.out f (by omega)).mono ?_
 rintro e I ⟨v,rfl,hown,g⟩
 have h:=b.trans (g.mono f)
 have hown':=dN hown f
 clear j g hown
 go_wp2
 go_loopw [6,13] (fun v i wr => ∃ k:Nat,k≤4∧i = .int .i64 k∧wr.ownsRow w.heap.size 5 1 v (n+k) (byteCells (bs++(kU s).take k))∧Below w.heap.size w wr) (fun _ i _=>4-(intOf i).toNat)
 case atStart=>exact⟨0,Nat.zero_le _,rfl,by simpa using hown',h⟩
 case round=>
  obtain⟨k,K,rfl,hown,d⟩:=hrel
  by_cases l:k<4
  ·have E:=Lib.hid (show byteCells (bs++(kU s).take (k+1))=byteCells (bs++(kU s).take k) ++ [.int .u8 ((s/256^k%256:Nat):Int)] from by
    rw[yO s k l,←List.append_assoc,byteCells_append]
    congr 1
    simp only[byteCells,List.map_cons,List.map_nil]
    rw[gP _ (by omega)])
   rcases(by omega:k=0∨k=1∨k=2∨k=3) with rfl | rfl | rfl | rfl
   all_goals
    go_wp2_with (at_builtin;go_must (refine dZ wr rfl _ _ 50 rfl w.heap.size 5 G _ 1 Tryz.underlying50 x y o q rfl _ _ _ hown rfl _ rfl rfl (by unfold maxLen;omega) (by omega) d.size ?_);intro v' M a p)
    go_roundw
    case rel=>exact⟨_,l,by go_num,by rw[E.out];first | exact a | (rw[show((s/256^0%256:Nat):Int)=(s:Int)%256 from by omega];exact a) | (rw[show((s/256^3%256:Nat):Int)=(s:Int)/16777216 from by omega];exact a),cX d p hown (Nat.le_refl _) d.size⟩
    case measure=>simp[intOf]
  ·obtain rfl:k=4:=by omega
   go_wp2
   go_ret
   refine⟨_,rfl,?_,d⟩
   unfold fK
   rw[F.out]
   rw[List.take_of_length_le (by rw[fm];omega)]at hown
   exact hown
theorem oo (A b:Option Addr) (n c d g B h:Nat) (bs cs:List UInt8) (w:World) (f:Reads w B 1 A n (byteCells bs)) (a:Reads w h 1 b d (byteCells cs)):
 Calls Tryz.prog 113 #[.slice A n c,.slice b d g] w fun e w'=>e = .returned (.bool (bs == cs))∧w=w':=by
 have i:=lT f c
 have j:=lT a g
 clear f a
 go_enter Tryz.func113,Tryz.ntmps113
 go_wp2
 go_ret
 exact⟨rfl,rfl⟩
end
section
open Go.RowKit
theorem zx {w:World} {g:Nat} {t:Nat→Nat} (h:Blk w g 185 (bB t)):w.rangeAt g 0 (bB t).toList:=fun j v a=>by
 rw[Nat.zero_add,h.cell j]
 simpa using a
theorem sR {B b o:Nat} {w w':World} {cs:List Value} (h:w.rangeAt b o cs) (c:Below B w w') (a:b<B):w'.rangeAt b o cs:=fun j v d=>(c.cell (p:=⟨b,o+j,none⟩) a).trans (h j v d)
set_option maxHeartbeats 1000000 in
theorem tQ (t:Nat→Nat) (u:∀ i,i<256→t i<4294967296) (A:Option Addr) (m c B:Nat) (bs:List UInt8) (w:World) (j:Reads w B 1 A (m+4) (byteCells bs)) (hB:B≤w.heap.size) (y:m+4≤c) (J:m≤900000) (x:c≤9223372036854775807) (b:Bool) (o:(fK t (bs.take m) == bs)=b):
 Calls Tryz.prog 109 #[.agg (bB t),.slice A (m+4) c] w fun e w'=>e = .returned (.tuple #[if b then .slice A m m else .slice none 0 0,.int .i64 (if b then 0 else 12)])∧Below w.heap.size w w':=by
 have s:=Lib.hid (j.preB (k:=m) (by omega))
 have E:=Lib.hid j;clear j
 have K:=Tryz.underlying185
 have F:(Tryz.prog.info? 185).map (·.size)=some (bB t).toList.length:=by rw[Array.length_toList];exact fW t
 have D:(bB t).toList.length=256:=by rw[Array.length_toList,cN]
 have z:∀ v ∈ (bB t).toList,v.oneCell'=true:=by have:=oJ t;rw[Array.all_eq_true']at this;intro v r;exact this v (by simpa using r)
 have I:((m+4:Nat):Int)-4=(m:Int):=by omega
 have q:m≤c:=by omega
 have p:Hid ((w.alloc (.cells (bB t) 185)).drew.rangeAt w.heap.size 0 (bB t).toList):=(zx (Blk.new w 185 (bB t)))
 have d:Hid (Below w.heap.size w (w.alloc (.cells (bB t) 185)).drew):=((Below.refl _ _).alloc (Nat.le_refl _) _).drew
 go_enter Tryz.func109,Tryz.ntmps109
 go_wp2
 go_region_held3 (fun w'=>w'.rangeAt w.heap.size 0 (bB t).toList∧Below w.heap.size w w')
  (first
   | exact⟨p.out,d.out⟩
   | exact⟨sR p.out a (by simp),d.out.trans (a.mono (by simp))⟩
   | assumption)
  (first
   | (go_at_call 173;refine(vo t u A m c B (bs.take m) _ ((s.out.alloc hB _).drew) (by simp;omega) (by omega)).mono ?_;rintro e wn ⟨v,rfl,hown,a⟩;obtain⟨H,G,rfl,h,l,n,g⟩:=iI hown;clear hown h l n)
   | (go_at_call 113;refine(oo _ _ _ _ _ _ _ B (fK t (bs.take m)) bs _ g (((E.out.alloc hB _).drew).below (a.mono (by simp;omega)))).mono ?_;rintro e C ⟨rfl,rfl⟩;rw[o]))
 all_goals
  have f:Below w.heap.size w wn:=d.out.trans (a.mono (by simp))
  clear a g
  cases b
  ·go_wp2
   go_ret2
   exact⟨rfl,f⟩
  ·go_wp2
   go_ret2
   exact⟨rfl,f⟩
end
section
open Go.RowKit
theorem DD (i:Nat) (h:i<256):cZ i<4294967296:=vk (by omega)
def iy (n:Nat) (k:Int):List UInt8:=[UInt8.ofNat (n/256),UInt8.ofNat (n%256),UInt8.ofNat k.toNat]
def av (k:Int) (p:List UInt8):List UInt8:=fK cZ (iy p.length k++p)
theorem aW (k:Int) (p:List UInt8):(av k p).length=p.length+7:=by
 unfold av iy;rw[mS];simp
theorem ue {w w':World} {base:Nat} {e:TypeId} {size n:Nat} {v:Value} {xs:List Value} (h:w.ownsRow base e size v n xs) (f:Below w.heap.size w w'):w'.ownsRow base e size v n xs:=by
 rcases h with⟨b,a | ⟨g,cap,cur,a,d,c,i⟩⟩
 ·exact⟨b,.inl a⟩
 ·refine⟨b,.inr ⟨g,cap,cur,a,d,(f.block g ?_).trans c,i⟩⟩
  exact Blk.lt (t:=e) (cs:=cur) c
theorem CS (W:World) (e:TypeId) (base:Nat) (cs:List Value) (a:base≤W.heap.size) (b:cs.length≤maxLen):(W.alloc (.cells cs.toArray e)).ownsRow base e 1 (.slice (some ⟨W.heap.size,0,none⟩) cs.length cs.length) cs.length cs:=
 ⟨by simp,.inr ⟨W.heap.size,cs.length,cs.toArray,rfl,a,Blk.new W e cs.toArray,Nat.le_refl _,b,by simp,by simp⟩⟩
theorem lE (k:Int) (w:World) (b:1≤k) (c:k≤3):Calls Tryz.prog 108 #[.int .i64 k] w fun e w'=>e = .returned (.bool true)∧w=w':=by
 have a:decide ((1:Int)≤k)=true:=by simpa using b
 have d:decide (k≤(3:Int))=true:=by simpa using c
 go_enter Tryz.func108,Tryz.ntmps108
 go_wp2
 go_ret
 exact⟨rfl,rfl⟩
theorem zo (k:Int) (w:World) (h:k<1∨3<k):Calls Tryz.prog 108 #[.int .i64 k] w fun e w'=>e = .returned (.bool false)∧w=w':=by
 rcases h with h | h
 ·have a:decide ((1:Int)≤k)=false:=by simpa using h
  go_enter Tryz.func108,Tryz.ntmps108
  go_wp2
  go_ret
  exact⟨rfl,rfl⟩
 ·have a:decide ((1:Int)≤k)=true:=by simp;omega
  have b:decide (k≤(3:Int))=false:=by simpa using h
  go_enter Tryz.func108,Tryz.ntmps108
  go_wp2
  go_ret
  exact⟨rfl,rfl⟩
theorem uT (n:Nat) (k:Int) (c:n≤200) (b:0≤k) (a:k≤255):byteCells (iy n k) = [.int .u8 0,.int .u8 (n:Int),.int .u8 k]:=by
 unfold byteCells iy
 simp only[List.map_cons,List.map_nil]
 rw[gP _ (by omega),gP _ (by omega),gP _ (by omega),show n/256=0 from by omega,show n%256=n from by omega,show((k.toNat:Nat):Int)=k from by omega]
 rfl
set_option maxHeartbeats 1000000 in
theorem Eh (k:Int) (A:Option Addr) (n c B:Nat) (bs:List UInt8) (w:World) (G:1≤k) (C:k≤3) (I:n≤200) (t:Reads w B 1 A n (byteCells bs)) (hB:B≤w.heap.size):
 Calls Tryz.prog 126 #[.int .i64 k,.slice A n c] w fun e w' => ∃ v,e = .returned (.tuple #[v,.int .i64 0])∧w'.ownsRow w.heap.size 5 1 v (n+7) (byteCells (av k bs))∧Below w.heap.size w w':=by
 have z:=Lib.hid t.lenB
 have L:=Lib.hid t;clear t
 have Q:decide ((200:Int)<(n:Int))=false:=by simp;omega
 have hdiv:(n:Int)/256=0:=by omega
 have hmod:(n:Int)%256=(n:Int):=by omega
 have H:k%256=k:=by omega
 obtain⟨D,u,x,p,r⟩:=info_parts Tryz.infoU8
 go_enter Tryz.func126,Tryz.ntmps126
 go_wp2_with fail
 refine(lE k _ G C).mono ?_
 rintro e O ⟨rfl,rfl⟩
 go_wp2_with fail
 refine(mD _).mono ?_
 rintro e y ⟨rfl,d⟩
 have s:=Lib.hid (ue (CS w 5 w.heap.size [.int .u8 0,.int .u8 (n:Int),.int .u8 k] (Nat.le_refl _) (by unfold maxLen;simp)) d)
 have b:Hid (Below w.heap.size w y):=((Below.refl _ _).alloc (Nat.le_refl _) _).trans (d.mono (by simp))
 have i:=b.out.size
 clear d
 go_wp2_with (at_builtin;go_must (refine bf _ rfl _ _ 50 rfl w.heap.size 5 D _ 1 1 Tryz.underlying50 u x p r rfl (by omega) _ 3 _ rfl s.out w.heap.size A n c _ rfl ((L.out.more hB).below b.out) (byteCells_one bs) (by unfold maxLen;omega) (by omega) i ?_);intro R J a j m)
 have g:=cX b.out j s.out (Nat.le_refl _) i
 have q:=Lib.hid g
 obtain⟨F,M,rfl,E,K,N,h⟩:=iI a
 rw[←uT n k I (by omega) (by omega),←byteCells_append]at h
 have l:=g.size
 clear a j m g b s
 refine(vo cZ DD F (3+n) M J.heap.size _ _ h (Nat.le_refl _) (by omega)).mono ?_
 rintro e P ⟨v,rfl,f,o⟩
 go_wp2
 go_ret2
 refine⟨v,rfl,?_,q.out.trans (o.mono l)⟩
 unfold av
 rw[z.out,show n+7=3+n+4 from by omega]
 exact dN f l
end
section
open Go.RowKit
set_option maxHeartbeats 2000000 in
theorem Ge {W:World} {g:Nat} {x0 x1 x2 x3 x4 x5 x6:Value} (fn:Func) (e:fn.results=#[.cell 4 44]) (h:Blk W g 44 #[x0,x1,x2,x3,x4,x5,x6]) (tmps:Array Value) (d:tmps[4]?.getD undef = .pointer (some ⟨g,0,none⟩)):(results fn tmps).run Tryz.prog W = .ok (.agg #[x0,x1,x2,x3,x4,x5,x6]) W:=by
 have c0:W.cell? ⟨g,0,none⟩=some x0:=h.cell 0
 have a:W.cell? ⟨g,1,none⟩=some x1:=h.cell 1
 have c:W.cell? ⟨g,2,none⟩=some x2:=h.cell 2
 have i:W.cell? ⟨g,3,none⟩=some x3:=h.cell 3
 have f:W.cell? ⟨g,4,none⟩=some x4:=h.cell 4
 have b:W.cell? ⟨g,5,none⟩=some x5:=h.cell 5
 have j:W.cell? ⟨g,6,none⟩=some x6:=h.cell 6
 simp[results,e,go_sem,d,c0,a,c,i,f,b,j]
theorem GW {W:World} {g:Nat} {t:TypeId} {m q o l p k n i f b c d a e:Value} (h:Blk W g t #[m,q,o,l,p,k,n]):Blk (((((((W.setCell ⟨g,0,none⟩ i).setCell ⟨g,1,none⟩ f).setCell ⟨g,2,none⟩ b).setCell ⟨g,3,none⟩ c).setCell ⟨g,4,none⟩ d).setCell ⟨g,5,none⟩ a).setCell ⟨g,6,none⟩ e) g t #[i,f,b,c,d,a,e]:=by
 have j:=((((((h.set_ 0 i).set_ 1 f).set_ 2 b).set_ 3 c).set_ 4 d).set_ 5 a).set_ 6 e
 simp only[sI,sZ,sS]at j
 exact j
def GI (zs:List Int):Array Value:=#[.int .i64 (zs.getD 0 0),.int .i64 (zs.getD 1 0),.int .i64 (zs.getD 2 0)]
theorem splice3 (zs:List Int) (h:zs.length≤3):(splice [Value.int .i64 0,.int .i64 0,.int .i64 0] 0 (zs.map (Value.int .i64))).toArray=GI zs:=by
 match zs,h with
 | [],_=>rfl
 | [a],_=>rfl
 | [a,b],_=>rfl
 | [a,b,c],_=>rfl
set_option maxHeartbeats 2000000 in
theorem vB (r:Evt) (A:Option Addr) (n c B:Nat) (zs:List Int) (w:World) (D:Reads w B 1 A n (zs.map (Value.int .i64))) (hB:B≤w.heap.size) (R:n≤3):
 Calls Tryz.prog 263 #[.agg (evA r),.slice A n c] w fun e w'=>e = .returned (.agg (evA (lg r zs)))∧Below w.heap.size w w':=by
 have I:zs.length=n:=by simpa using D.1
 have L:=Lib.hid D
 have t:=Lib.hid I
 have i:=Lib.hid (splice3 zs (by omega))
 have H:Hid (lg r zs={ r with x:=zs.getD 0 0,y:=zs.getD 1 0,z:=zs.getD 2 0 }):=rfl
 clear D I
 obtain⟨q,a,k,u,x,y,z⟩:=r
 rw[H.out]
 clear H
 unfold GI at i
 simp only
 generalize zs.getD 0 0=m at i ⊢
 generalize zs.getD 1 0=l at i ⊢
 generalize zs.getD 2 0=o at i ⊢
 have E:Hid ((((w.alloc (.cells #[.int .i64 q,.int .i64 a,.int .i64 k,.string u,.int .i64 x,.int .i64 y,.int .i64 z] 44)).alloc (.cells #[.int .i64 0,.int .i64 0,.int .i64 0,.string ⟨#[]⟩,.int .i64 0,.int .i64 0,.int .i64 0] 44)).alloc (.cells #[.int .i64 0,.int .i64 0,.int .i64 0] 93)).heap[w.heap.size+1+1]?=some (.cells ([.int .i64 0,.int .i64 0,.int .i64 0]:List Value).toArray 93 (0,0))):=FM w _ _ _ _ _ _
 have N:=Lib.hid (show 0<(zs.map (Value.int .i64)).length→some (⟨w.heap.size+1+1,0,none⟩:Addr)=some ⟨w.heap.size+1+1,0,none⟩ ∧ ∃ ad,A=some ad ∧ ∀ j v,(zs.map (Value.int .i64))[j]?=some v→(((w.alloc (.cells #[.int .i64 q,.int .i64 a,.int .i64 k,.string u,.int .i64 x,.int .i64 y,.int .i64 z] 44)).alloc (.cells #[.int .i64 0,.int .i64 0,.int .i64 0,.string ⟨#[]⟩,.int .i64 0,.int .i64 0,.int .i64 0] 44)).alloc (.cells #[.int .i64 0,.int .i64 0,.int .i64 0] 93)).cell? (ad.add j)=some v from fun F=>by
  obtain⟨ad,Q,h2,O⟩:=L.out.2 (by rw[List.length_map,t.out]at F;exact F)
  exact⟨rfl,ad,Q,fun j v M=>by
   rw[World.cell?_alloc_lt _ _ _ (by rw[aF];simp;omega),World.cell?_alloc_lt _ _ _ (by rw[aF];simp;omega),World.cell?_alloc_lt _ _ _ (by rw[aF];omega)]
   exact O j v M⟩)
 go_enter Tryz.func263,Tryz.ntmps263
 go_wp2_with (refine wpList_copy_splice rfl (.tmp 6) (.tmp 7) 278 278 rfl 2 Tryz.underlying278 (by kernel_rfl) (some ⟨w.heap.size+1+1,0,none⟩) A 3 3 n c rfl rfl (w.heap.size+1+1) 0 [.int .i64 0,.int .i64 0,.int .i64 0] 93 E.out (zs.map (Value.int .i64)) (by rw[List.length_map,t.out];exact(Nat.min_eq_left R).symm) N.out (by simp[t.out];omega) (by simp[Value.oneCell']) (w.heap.size+1+1) _ (Below.refl _ _) (Nat.le_refl _) ?_)
 intro f G s
 have P:=Lib.hid (show Blk f (w.heap.size+1+1) 93 #[.int .i64 m,.int .i64 l,.int .i64 o] from by have:=G.out;rw[i.out]at this;exact this)
 have g:Hid (Blk f w.heap.size 44 #[.int .i64 q,.int .i64 a,.int .i64 k,.string u,.int .i64 x,.int .i64 y,.int .i64 z]):=(Ff w _ _ _ _ _ _).below s (by omega)
 have d:Hid (Blk f (w.heap.size+1) 44 _):=(Fq w _ _ _ _ _ _).below s (by omega)
 have C:Hid (Below w.heap.size w f):=((((Below.refl w.heap.size w).alloc (Nat.le_refl _) _).alloc (by simp) _).alloc (by simp;omega) _).trans (s.mono (by omega))
 clear G s
 clear i t L
 go_wp2_with fail
 refine wp_region_noPanic ?_
 refine wp_region_held_drew (S:=fun W'=>Blk W' (w.heap.size+1+1) 93 #[.int .i64 m,.int .i64 l,.int .i64 o]) (by kernel_rfl) (P.out.drew) (fun b=>?_)
 have f4:f.cell? ⟨w.heap.size,4,none⟩=some (.int .i64 x):=g.out.cell 4
 have V:f.cell? ⟨w.heap.size,5,none⟩=some (.int .i64 y):=g.out.cell 5
 have f6:f.cell? ⟨w.heap.size,6,none⟩=some (.int .i64 z):=g.out.cell 6
 have z4:f.frozen? ⟨w.heap.size,4,none⟩=false:=g.out.frozen 4
 have Y:f.frozen? ⟨w.heap.size,5,none⟩=false:=g.out.frozen 5
 have Z:f.frozen? ⟨w.heap.size,6,none⟩=false:=g.out.frozen 6
 refine tS 0 b ?_
 refine tS 1 b ?_ (hy:=by(intro W h;(try dsimp only at h);have J:W.cell? ⟨w.heap.size+1+1,0,none⟩=some (.int .i64 m):=h.cell 0;go_simp;try with_reducible rfl))
 refine tS 2 b ?_
 refine tS 3 b ?_ (hy:=by(intro W h;(try dsimp only at h);have J:W.cell? ⟨w.heap.size+1+1,1,none⟩=some (.int .i64 l):=h.cell 1;go_simp;try with_reducible rfl))
 refine tS 4 b ?_
 refine tS 5 b ?_ (hy:=by(intro W h;(try dsimp only at h);have J:W.cell? ⟨w.heap.size+1+1,2,none⟩=some (.int .i64 o):=h.cell 2;go_simp;try with_reducible rfl))
 refine tS 6 b ?_
 refine wpAnyH_ready (rs:=[7]) (by kernel_rfl) (by simp) ?_
 refine AllReadyH.cons rfl (fun K hK=>?_) AllReadyH.nil
 go_simp
 refine hK.out _ _ (b.far (p:=⟨w.heap.size,4,none⟩) (by simp;omega) (.int .i64 m)) (fun b=>?_)
 clear hK K
 try simp only[Act.put,sI,sZ,sS]
 refine tS 8 b ?_
 refine wpAnyH_ready (rs:=[9]) (by kernel_rfl) (by simp) ?_
 refine AllReadyH.cons rfl (fun K hK=>?_) AllReadyH.nil
 go_simp
 refine hK.out _ _ (b.far (p:=⟨w.heap.size,5,none⟩) (by simp;omega) (.int .i64 l)) (fun b=>?_)
 clear hK K
 try simp only[Act.put,sI,sZ,sS]
 refine tS 10 b ?_
 refine wpAnyH_ready (rs:=[11]) (by kernel_rfl) (by simp) ?_
 refine AllReadyH.cons rfl (fun K hK=>?_) AllReadyH.nil
 go_simp
 refine hK.out _ _ (b.far (p:=⟨w.heap.size,6,none⟩) (by simp;omega) (.int .i64 o)) (fun b=>?_)
 clear hK K
 try simp only[Act.put,sI,sZ,sS]
 refine wpAnyH_done (by kernel_rfl) ?_ _
 refine NoPanic.normal ?_
 have g0:f.cell? ⟨w.heap.size,0,none⟩=some (.int .i64 q):=g.out.cell 0
 have g1:f.cell? ⟨w.heap.size,1,none⟩=some (.int .i64 a):=g.out.cell 1
 have X:f.cell? ⟨w.heap.size,2,none⟩=some (.int .i64 k):=g.out.cell 2
 have g3:f.cell? ⟨w.heap.size,3,none⟩=some (.string u):=g.out.cell 3
 have r0:f.cell? ⟨w.heap.size+1,0,none⟩=some _:=d.out.cell 0
 have U:f.frozen? ⟨w.heap.size+1,0,none⟩=false:=d.out.frozen 0
 have r1:f.cell? ⟨w.heap.size+1,1,none⟩=some _:=d.out.cell 1
 have t1:f.frozen? ⟨w.heap.size+1,1,none⟩=false:=d.out.frozen 1
 have r2:f.cell? ⟨w.heap.size+1,2,none⟩=some _:=d.out.cell 2
 have t2:f.frozen? ⟨w.heap.size+1,2,none⟩=false:=d.out.frozen 2
 have T:f.cell? ⟨w.heap.size+1,3,none⟩=some _:=d.out.cell 3
 have t3:f.frozen? ⟨w.heap.size+1,3,none⟩=false:=d.out.frozen 3
 have r4:f.cell? ⟨w.heap.size+1,4,none⟩=some _:=d.out.cell 4
 have t4:f.frozen? ⟨w.heap.size+1,4,none⟩=false:=d.out.frozen 4
 have r5:f.cell? ⟨w.heap.size+1,5,none⟩=some _:=d.out.cell 5
 have t5:f.frozen? ⟨w.heap.size+1,5,none⟩=false:=d.out.frozen 5
 have r6:f.cell? ⟨w.heap.size+1,6,none⟩=some _:=d.out.cell 6
 have t6:f.frozen? ⟨w.heap.size+1,6,none⟩=false:=d.out.frozen 6
 go_wp2
 refine bodyPost_ret (Ge _ Tryz.results263 ((GW (((d.out.far (p:=⟨w.heap.size,4,none⟩) (by simp) (.int .i64 m)).far (p:=⟨w.heap.size,5,none⟩) (by simp) (.int .i64 l)).far (p:=⟨w.heap.size,6,none⟩) (by simp) (.int .i64 o))).drew) _ rfl) rfl ⟨rfl,?_⟩
 refine Below.drew ?_
 iterate 10 refine Below.setCell ?_ (by simp) _
 exact C.out
end
section
open Go.RowKit
def gB (x:UInt8):Bool:=decide (x.toNat<128)
theorem yo (x:UInt8) (w:World):Calls Tryz.prog 231 #[.int .u8 (x.toNat:Int)] w fun e w'=>e = .returned (.bool (gB x))∧w=w':=by
 have h:decide ((x.toNat:Int)<128)=gB x:=by unfold gB;rw[decide_eq_decide];omega
 have H:=Lib.hid h;clear h
 go_enter Tryz.func231,Tryz.ntmps231
 go_wp2
 go_ret
 refine⟨?_,rfl⟩
 rw[←H.out];rfl
theorem rO (A:Option Addr) (n c B:Nat) (bs:List UInt8) (w:World) (d:Reads w B 1 A n (byteCells bs)) (u:n≤1000000):
 Calls Tryz.prog 230 #[.slice A n c,.func (.func 231) #[] #[]] w fun e w'=>e = .returned (.int .i64 (firstIdx gB bs))∧w=w':=by
 have g:=d.lenB
 have p:=Lib.hid g;clear g
 go_enter Tryz.func230,Tryz.ntmps230
 go_wp2
 go_loop [8] (fun i => ∃ k:Nat,k≤n∧i = .int .i64 k∧Hid (∀ (j:Nat) y,j<k→bs[j]?=some y→gB y=false)) (fun i=>n-(intOf i).toNat)
 case atStart=>exact⟨0,Nat.zero_le _,rfl,fun j y q=>by omega⟩
 case round=>
  obtain⟨k,s,rfl,b⟩:=hrel
  by_cases f:k<n
  ·obtain⟨ad,x,rfl,r,m,t⟩:=d.byte_at f
   have o:=Lib.hid m
   clear m d
   by_cases l:gB x=false
   ·go_wp2_with (go_at_call 231;refine(yo _ _).mono ?_;rintro e w' ⟨rfl,rfl⟩)
    go_round
    case rel=>
     refine⟨k+1,by omega,by go_num,fun j y q hy=>?_⟩
     rcases Nat.lt_or_ge j k with h | h
     ·exact b.out j y h hy
     ·obtain rfl:j=k:=by omega
      rw[o.out]at hy
      cases hy
      exact l
    case measure=>simp[intOf];omega
   ·have a:gB x=true:=by simpa using l
    go_wp2_with (go_at_call 231;refine(yo _ _).mono ?_;rintro e w' ⟨rfl,rfl⟩)
    go_ret
    exact⟨gu (mu _ _ k _ b.out o.out a).symm,rfl⟩
  ·go_wp2
   go_ret
   refine⟨gu (firstIdx_none _ _ (fun j y hy=>b.out j y ?_ hy)).symm,rfl⟩
   have:j<bs.length:=(List.getElem?_eq_some_iff.1 hy).1
   rw[p.out]at this
   omega
def Cu (w W:World) (cs rs:Array Value):Prop:=Blk W w.heap.size 252 cs∧Blk W (w.heap.size+1) 252 rs∧Below w.heap.size w W
theorem Cu.start (w:World) (cs rs:Array Value):Cu w ((w.alloc (.cells cs 252)).alloc (.cells rs 252)) cs rs:=⟨vp w _ _ cs rs,sA w _ _ cs rs,((Below.refl _ _).alloc (Nat.le_refl _) _).alloc (by simp) _⟩
theorem Cu.next {w W W':World} {cs rs:Array Value} (h:Cu w W cs rs) (a:Below W.heap.size W W'):Cu w W' cs rs:=⟨h.1.below a h.1.lt,h.2.1.below a h.2.1.lt,h.2.2.trans (a.mono h.2.2.size)⟩
theorem Cu.size {w W:World} {cs rs:Array Value} (h:Cu w W cs rs):w.heap.size≤W.heap.size:=h.2.2.size
theorem Cu.cells {w W:World} {a b c x y z:Value} (h:Cu w W #[a,b,c] #[x,y,z]):W.cell? ⟨w.heap.size,0,none⟩=some a∧W.cell? ⟨w.heap.size,1,none⟩=some b∧W.cell? ⟨w.heap.size,2,none⟩=some c∧W.cell? ⟨w.heap.size+1,0,none⟩=some x∧W.cell? ⟨w.heap.size+1,1,none⟩=some y∧W.cell? ⟨w.heap.size+1,2,none⟩=some z ∧
 W.frozen? ⟨w.heap.size,0,none⟩=false∧W.frozen? ⟨w.heap.size,1,none⟩=false∧W.frozen? ⟨w.heap.size,2,none⟩=false∧W.frozen? ⟨w.heap.size+1,0,none⟩=false∧W.frozen? ⟨w.heap.size+1,1,none⟩=false∧W.frozen? ⟨w.heap.size+1,2,none⟩=false:=
 ⟨h.1.cell 0,h.1.cell 1,h.1.cell 2,h.2.1.cell 0,h.2.1.cell 1,h.2.1.cell 2,h.1.frozen 0,h.1.frozen 1,h.1.frozen 2,h.2.1.frozen 0,h.2.1.frozen 1,h.2.1.frozen 2⟩
theorem Cu.reads {w W:World} {cs rs:Array Value} (h:Cu w W cs rs) {A:Option Addr} {n B:Nat} {xs:List Value} (a:Reads w B 1 A n xs) (hB:B≤w.heap.size):Reads W B 1 A n xs:=a.below (h.2.2.mono hB)
theorem zv (A:Option Addr) (n c:Nat) (at_:Int)  (w:World) (h:at_<0∨(n:Int)<at_):Calls Tryz.prog 176 #[.agg #[.slice A n c,.int .i64 at_,.int .i64 0]] w fun e w'=>e = .returned (.tuple #[.agg #[.slice A n c,.int .i64 at_,.int .i64 1],.int .u64 0])∧Below w.heap.size w w':=by
 go_enter Tryz.func176,Tryz.ntmps176
 go_wp2_with fail
 refine(ua A n c at_ 0 _ (by omega)).mono ?_
 rintro e x ⟨rfl,i⟩
 have l:=Lib.hid ((Cu.start w #[.slice A n c,.int .i64 at_,.int .i64 0] #[.slice none 0 0,.int .i64 0,.int .i64 0]).next i)
 clear i
 obtain⟨k0,p,q,d,f,b,j,m,g,s,r,k⟩:=l.out.cells
 go_wp2_with fail
 clear k0 p q d f b j m g s r k
 refine(cL A n c at_ 1 _).mono ?_
 rintro e u ⟨rfl,a⟩
 have o:=Lib.hid (l.out.next a)
 clear a
 obtain⟨k0,p,q,d,f,b,j,m,g,s,r,k⟩:=o.out.cells
 go_wp2
 have t:=o.out.2.2
 exact bodyPost_ret (v := .tuple #[.agg #[.slice A n c,.int .i64 at_,.int .i64 1],.int .u64 0]) (by simp[results,Tryz.results176,go_sem,d,f,b]) rfl ⟨rfl,(by repeat (first | exact((Below.refl _ _).alloc (Nat.le_refl _) _).alloc (by simp) _ | assumption | refine below_drewN ?_ _ | refine Below.setCell ?_ (by simp) _ | refine Below.drew ?_))⟩
theorem Bw (A:Option Addr) (n c:Nat) (at_:Int) (err:Int) (w:World) (h:err≠0):Calls Tryz.prog 176 #[.agg #[.slice A n c,.int .i64 at_,.int .i64 err]] w fun e w'=>e = .returned (.tuple #[.agg #[.slice A n c,.int .i64 at_,.int .i64 err],.int .u64 0])∧Below w.heap.size w w':=by
 go_enter Tryz.func176,Tryz.ntmps176
 go_wp2_with fail
 refine(ua A n c at_ err _ (.inr (.inr h))).mono ?_
 rintro e x ⟨rfl,i⟩
 have l:=Lib.hid ((Cu.start w #[.slice A n c,.int .i64 at_,.int .i64 err] #[.slice none 0 0,.int .i64 0,.int .i64 0]).next i)
 clear i
 obtain⟨k0,p,q,d,f,b,j,m,g,s,r,k⟩:=l.out.cells
 go_wp2_with fail
 clear k0 p q d f b j m g s r k
 refine(Bg A n c at_ err 1 _ h).mono ?_
 rintro e u ⟨rfl,a⟩
 have o:=Lib.hid (l.out.next a)
 clear a
 obtain⟨k0,p,q,d,f,b,j,m,g,s,r,k⟩:=o.out.cells
 go_wp2
 have t:=o.out.2.2
 exact bodyPost_ret (v := .tuple #[.agg #[.slice A n c,.int .i64 at_,.int .i64 err],.int .u64 0]) (by simp[results,Tryz.results176,go_sem,d,f,b]) rfl ⟨rfl,(by repeat (first | exact((Below.refl _ _).alloc (Nat.le_refl _) _).alloc (by simp) _ | assumption | refine below_drewN ?_ _ | refine Below.setCell ?_ (by simp) _ | refine Below.drew ?_))⟩
theorem bQ (A:Option Addr) (n c B:Nat) (bs:List UInt8) (w:World) (l:Int) (a:firstIdx gB bs=l) (b:Reads w B 1 A n (byteCells bs)) (d:n≤1000000):
 Calls Tryz.prog 230 #[.slice A n c,.func (.func 231) #[] #[]] w fun e w'=>e = .returned (.int .i64 l)∧w=w':=by
 subst a
 exact rO A n c B bs w b d
set_option maxHeartbeats 1000000 in
theorem vA (ad:Addr) (a m b:Nat) (bs:List UInt8) (B:Nat) (w:World) (C:Reads w B 1 (some ad) (a+m) (byteCells bs)) (hB:B≤w.heap.size) (J:m≤b) (N:0<m) (M:m≤10000) (K:a+b≤9223372036854775807) (q:Nat) (o:q=if m<10 then m else 10) (n:m<10) (hnone:firstIdx gB ((bs.drop a).take q) = -1):Calls Tryz.prog 176 #[.agg #[.slice (some ad) (a+m) (a+b),.int .i64 (a:Int),.int .i64 0]] w fun e w'=>e = .returned (.tuple #[.agg #[.slice (some ad) (a+m) (a+b),.int .i64 (a:Int),.int .i64 10],.int .u64 0])∧Below w.heap.size w w':=by
 have H:=Lib.hid hnone;clear hnone
 have G:¬ b=0:=by omega
 have F:q≤m:=by rw[o];split<;>omega
 have c:=Lib.hid (show Reads w B 1 (some (ad.add a)) q (byteCells ((bs.drop a).take q)) from by
  have h:=(C.sufB (k:=a) (cap:=a+b) (by omega) (by omega)).preB (k:=q) (by omega)
  rw[if_neg (by omega),Option.map_some]at h
  exact h)
 clear C
 obtain⟨ad',f⟩:∃ ad',ad.add a=ad':=⟨_,rfl⟩
 rw[f]at c
 obtain rfl:m=q:=by rw[o,if_pos n]
 clear o
 go_enter Tryz.func176,Tryz.ntmps176
 go_wp2_with fail
 refine(cy (some ad) _ (a+b) a _ (by omega) (by omega)).mono ?_
 rintro e L ⟨rfl,r⟩
 have i:=Lib.hid ((Cu.start w #[.slice (some ad) _ (a+b),.int .i64 a,.int .i64 0] #[.slice none 0 0,.int .i64 0,.int .i64 0]).next r)
 clear r
 obtain⟨k0,y,z,j,l,g,s,u,p,D,A,t⟩:=i.out.cells
 go_wp2_with fail
 refine(bQ (some ad') _ b B _ _ (-1) H.out (i.out.reads c.out hB) (by omega)).mono ?_
 rintro e E ⟨rfl,rfl⟩
 go_wp2_with fail
 clear k0 y z j l g s u p D A t
 refine(cL (some ad) _ (a+b) a 10 _).mono ?_
 rintro e E ⟨rfl,d⟩
 have x:=Lib.hid (i.out.next d)
 clear d
 obtain⟨k0,y,z,j,l,g,s,u,p,D,A,t⟩:=x.out.cells
 go_wp2
 have I:=x.out.2.2
 exact bodyPost_ret (v := .tuple #[.agg #[.slice (some ad) (a+m) (a+b),.int .i64 (a:Int),.int .i64 10],.int .u64 0]) (by simp[results,Tryz.results176,go_sem,j,l,g]) rfl ⟨rfl,(by repeat (first | exact((Below.refl _ _).alloc (Nat.le_refl _) _).alloc (by simp) _ | assumption | refine below_drewN ?_ _ | refine Below.setCell ?_ (by simp) _ | refine Below.drew ?_))⟩
set_option maxHeartbeats 1000000 in
theorem zk (ad:Addr) (a m b:Nat) (bs:List UInt8) (B:Nat) (w:World) (F:Reads w B 1 (some ad) (a+m) (byteCells bs)) (hB:B≤w.heap.size) (K:m≤b) (O:0<m) (N:m≤10000) (L:a+b≤9223372036854775807) (q:Nat) (z:q=if m<10 then m else 10) (J:10≤m) (hnone:firstIdx gB ((bs.drop a).take q) = -1):Calls Tryz.prog 176 #[.agg #[.slice (some ad) (a+m) (a+b),.int .i64 (a:Int),.int .i64 0]] w fun e w'=>e = .returned (.tuple #[.agg #[.slice (some ad) (a+m) (a+b),.int .i64 (a:Int),.int .i64 11],.int .u64 0])∧Below w.heap.size w w':=by
 have E:=Lib.hid hnone;clear hnone
 have I:¬ b=0:=by omega
 have G:q≤m:=by rw[z];split<;>omega
 have g:=Lib.hid (show Reads w B 1 (some (ad.add a)) q (byteCells ((bs.drop a).take q)) from by
  have h:=(F.sufB (k:=a) (cap:=a+b) (by omega) (by omega)).preB (k:=q) (by omega)
  rw[if_neg (by omega),Option.map_some]at h
  exact h)
 clear F
 obtain⟨ad',C⟩:∃ ad',ad.add a=ad':=⟨_,rfl⟩
 rw[C]at g
 rcases(by omega:m=10∨10<m) with rfl | M
 ·obtain rfl:q=10:=by rw[z];rfl
  clear z
  go_enter Tryz.func176,Tryz.ntmps176
  go_wp2_with fail
  refine(cy (some ad) _ (a+b) a _ (by omega) (by omega)).mono ?_
  rintro e H ⟨rfl,n⟩
  have f:=Lib.hid ((Cu.start w #[.slice (some ad) _ (a+b),.int .i64 a,.int .i64 0] #[.slice none 0 0,.int .i64 0,.int .i64 0]).next n)
  clear n
  obtain⟨k0,t,u,i,j,d,o,r,l,y,x,p⟩:=f.out.cells
  go_wp2_with fail
  refine(bQ (some ad') _ b B _ _ (-1) E.out (f.out.reads g.out hB) (by omega)).mono ?_
  rintro e A ⟨rfl,rfl⟩
  go_wp2_with fail
  clear k0 t u i j d o r l y x p
  refine(cL (some ad) _ (a+b) a 11 _).mono ?_
  rintro e A ⟨rfl,c⟩
  have s:=Lib.hid (f.out.next c)
  clear c
  obtain⟨k0,t,u,i,j,d,o,r,l,y,x,p⟩:=s.out.cells
  go_wp2
  have D:=s.out.2.2
  exact bodyPost_ret (v := .tuple #[.agg #[.slice (some ad) (a+10) (a+b),.int .i64 (a:Int),.int .i64 11],.int .u64 0]) (by simp[results,Tryz.results176,go_sem,i,j,d]) rfl ⟨rfl,(by repeat (first | exact((Below.refl _ _).alloc (Nat.le_refl _) _).alloc (by simp) _ | assumption | refine below_drewN ?_ _ | refine Below.setCell ?_ (by simp) _ | refine Below.drew ?_))⟩
 ·obtain rfl:q=10:=by rw[z,if_neg (by omega)]
  clear z
  go_enter Tryz.func176,Tryz.ntmps176
  go_wp2_with fail
  refine(cy (some ad) _ (a+b) a _ (by omega) (by omega)).mono ?_
  rintro e H ⟨rfl,n⟩
  have f:=Lib.hid ((Cu.start w #[.slice (some ad) _ (a+b),.int .i64 a,.int .i64 0] #[.slice none 0 0,.int .i64 0,.int .i64 0]).next n)
  clear n
  obtain⟨k0,t,u,i,j,d,o,r,l,y,x,p⟩:=f.out.cells
  go_wp2_with fail
  refine(bQ (some ad') _ b B _ _ (-1) E.out (f.out.reads g.out hB) (by omega)).mono ?_
  rintro e A ⟨rfl,rfl⟩
  go_wp2_with fail
  clear k0 t u i j d o r l y x p
  refine(cL (some ad) _ (a+b) a 11 _).mono ?_
  rintro e A ⟨rfl,c⟩
  have s:=Lib.hid (f.out.next c)
  clear c
  obtain⟨k0,t,u,i,j,d,o,r,l,y,x,p⟩:=s.out.cells
  go_wp2
  have D:=s.out.2.2
  exact bodyPost_ret (v := .tuple #[.agg #[.slice (some ad) (a+m) (a+b),.int .i64 (a:Int),.int .i64 11],.int .u64 0]) (by simp[results,Tryz.results176,go_sem,i,j,d]) rfl ⟨rfl,(by repeat (first | exact((Below.refl _ _).alloc (Nat.le_refl _) _).alloc (by simp) _ | assumption | refine below_drewN ?_ _ | refine Below.setCell ?_ (by simp) _ | refine Below.drew ?_))⟩
set_option maxHeartbeats 1000000 in
theorem yT (ad:Addr) (a m c:Nat) (bs:List UInt8) (B:Nat) (w:World) (X:Reads w B 1 (some ad) (a+m) (byteCells bs)) (hB:B≤w.heap.size) (ac:m≤c) (h0:0<m) (hm:m≤10000) (ag:a+c≤9223372036854775807) (q:Nat) (J:q=if m<10 then m else 10) (k:Nat) (x:UInt8) (F:k<q) (Y:bs[a+k]?=some x) (I:firstIdx gB ((bs.drop a).take q)=(k:Int)) (M:(k=9∧1<x.toNat)∨(0<k∧x.toNat=0)):Calls Tryz.prog 176 #[.agg #[.slice (some ad) (a+m) (a+c),.int .i64 (a:Int),.int .i64 0]] w fun e w'=>e = .returned (.tuple #[.agg #[.slice (some ad) (a+m) (a+c),.int .i64 (a:Int),.int .i64 11],.int .u64 0])∧Below w.heap.size w w':=by
 have U:=Lib.hid I;clear I
 have ab:¬ c=0:=by omega
 have Z:q≤m:=by rw[J];split<;>omega
 have A:=Lib.hid (show Reads w B 1 (some (ad.add a)) q (byteCells ((bs.drop a).take q)) from by
  have h:=(X.sufB (k:=a) (cap:=a+c) (by omega) (by omega)).preB (k:=q) (by omega)
  rw[if_neg (by omega),Option.map_some]at h
  exact h)
 clear X
 obtain⟨ad',T⟩:∃ ad',ad.add a=ad':=⟨_,rfl⟩
 rw[T]at A
 have Q:((bs.drop a).take q)[k]?=some x:=by rw[List.getElem?_take,if_pos F,List.getElem?_drop];exact Y
 have V:=Lib.hid Q
 clear Y Q
 have ae:=x.toNat_lt
 have G:((k:Int) == 9)=decide (k=9):=by rw[Bool.eq_iff_iff,beq_iff_eq,decide_eq_true_iff];omega
 have L:decide ((1:Int)<(x.toNat:Int))=decide (1<x.toNat):=by rw[decide_eq_decide];omega
 have K:((x.toNat:Int) == 0)=decide (x.toNat=0):=by rw[Bool.eq_iff_iff,beq_iff_eq,decide_eq_true_iff];omega
 have N:decide ((0:Int)<(k:Int))=decide (0<k):=by rw[decide_eq_decide];omega
 have i1:(0:Int)≤(k:Int):=by omega
 rcases(by omega:m<10∨m=10∨10<m) with S | rfl | S
 ·obtain rfl:m=q:=by rw[J,if_pos S]
  clear J
  go_enter Tryz.func176,Tryz.ntmps176
  go_wp2_with fail
  refine(cy (some ad) _ (a+c) a _ (by omega) (by omega)).mono ?_
  rintro e W ⟨rfl,H⟩
  have p:=Lib.hid ((Cu.start w #[.slice (some ad) _ (a+c),.int .i64 a,.int .i64 0] #[.slice none 0 0,.int .i64 0,.int .i64 0]).next H)
  clear H
  obtain⟨k0,s,t,f,g,d,n,r,l,y,u,o⟩:=p.out.cells
  go_wp2_with fail
  refine(bQ (some ad') _ c B _ _ (k:Int) U.out (p.out.reads A.out hB) (by omega)).mono ?_
  rintro e C ⟨rfl,rfl⟩
  obtain⟨_,_,E,_,hy,R⟩:=(p.out.reads A.out hB).byte_at F
  cases E
  rw[V.out]at hy
  cases hy
  by_cases i:k=9∧1<x.toNat
  ·rw[decide_eq_true i.1]at G
   rw[decide_eq_true i.2]at L
   clear K N M i
   go_wp2_with fail
   clear k0 s t f g d n r l y u o
   refine(cL (some ad) _ (a+c) a 11 _).mono ?_
   rintro e C ⟨rfl,b⟩
   have j:=Lib.hid (p.out.next b)
   clear b
   obtain⟨k0,s,t,f,g,d,n,r,l,y,u,o⟩:=j.out.cells
   go_wp2
   have z:=j.out.2.2
   exact bodyPost_ret (v := .tuple #[.agg #[.slice (some ad) (a+m) (a+c),.int .i64 (a:Int),.int .i64 11],.int .u64 0]) (by simp[results,Tryz.results176,go_sem,f,g,d]) rfl ⟨rfl,(by repeat (first | exact((Below.refl _ _).alloc (Nat.le_refl _) _).alloc (by simp) _ | assumption | refine below_drewN ?_ _ | refine Below.setCell ?_ (by simp) _ | refine Below.drew ?_))⟩
  ·have D:0<k∧x.toNat=0:=by omega
   have O:0<k:=D.1
   rw[decide_eq_true D.2]at K
   have P:decide ((1:Int)<(x.toNat:Int))=false:=by simp;omega
   clear L N M i D
   by_cases i:k=9
   ·rw[decide_eq_true i]at G
    clear i
    go_wp2_with fail
    clear k0 s t f g d n r l y u o
    refine(cL (some ad) _ (a+c) a 11 _).mono ?_
    rintro e C ⟨rfl,b⟩
    have j:=Lib.hid (p.out.next b)
    clear b
    obtain⟨k0,s,t,f,g,d,n,r,l,y,u,o⟩:=j.out.cells
    go_wp2
    have z:=j.out.2.2
    exact bodyPost_ret (v := .tuple #[.agg #[.slice (some ad) (a+m) (a+c),.int .i64 (a:Int),.int .i64 11],.int .u64 0]) (by simp[results,Tryz.results176,go_sem,f,g,d]) rfl ⟨rfl,(by repeat (first | exact((Below.refl _ _).alloc (Nat.le_refl _) _).alloc (by simp) _ | assumption | refine below_drewN ?_ _ | refine Below.setCell ?_ (by simp) _ | refine Below.drew ?_))⟩
   ·rw[decide_eq_false i]at G
    clear i
    go_wp2_with fail
    clear k0 s t f g d n r l y u o
    refine(cL (some ad) _ (a+c) a 11 _).mono ?_
    rintro e C ⟨rfl,b⟩
    have j:=Lib.hid (p.out.next b)
    clear b
    obtain⟨k0,s,t,f,g,d,n,r,l,y,u,o⟩:=j.out.cells
    go_wp2
    have z:=j.out.2.2
    exact bodyPost_ret (v := .tuple #[.agg #[.slice (some ad) (a+m) (a+c),.int .i64 (a:Int),.int .i64 11],.int .u64 0]) (by simp[results,Tryz.results176,go_sem,f,g,d]) rfl ⟨rfl,(by repeat (first | exact((Below.refl _ _).alloc (Nat.le_refl _) _).alloc (by simp) _ | assumption | refine below_drewN ?_ _ | refine Below.setCell ?_ (by simp) _ | refine Below.drew ?_))⟩
 ·obtain rfl:q=10:=by rw[J];rfl
  clear J
  go_enter Tryz.func176,Tryz.ntmps176
  go_wp2_with fail
  refine(cy (some ad) _ (a+c) a _ (by omega) (by omega)).mono ?_
  rintro e W ⟨rfl,H⟩
  have p:=Lib.hid ((Cu.start w #[.slice (some ad) _ (a+c),.int .i64 a,.int .i64 0] #[.slice none 0 0,.int .i64 0,.int .i64 0]).next H)
  clear H
  obtain⟨k0,s,t,f,g,d,n,r,l,y,u,o⟩:=p.out.cells
  go_wp2_with fail
  refine(bQ (some ad') _ c B _ _ (k:Int) U.out (p.out.reads A.out hB) (by omega)).mono ?_
  rintro e C ⟨rfl,rfl⟩
  obtain⟨_,_,E,_,hy,R⟩:=(p.out.reads A.out hB).byte_at F
  cases E
  rw[V.out]at hy
  cases hy
  by_cases i:k=9∧1<x.toNat
  ·rw[decide_eq_true i.1]at G
   rw[decide_eq_true i.2]at L
   clear K N M i
   go_wp2_with fail
   clear k0 s t f g d n r l y u o
   refine(cL (some ad) _ (a+c) a 11 _).mono ?_
   rintro e C ⟨rfl,b⟩
   have j:=Lib.hid (p.out.next b)
   clear b
   obtain⟨k0,s,t,f,g,d,n,r,l,y,u,o⟩:=j.out.cells
   go_wp2
   have z:=j.out.2.2
   exact bodyPost_ret (v := .tuple #[.agg #[.slice (some ad) (a+10) (a+c),.int .i64 (a:Int),.int .i64 11],.int .u64 0]) (by simp[results,Tryz.results176,go_sem,f,g,d]) rfl ⟨rfl,(by repeat (first | exact((Below.refl _ _).alloc (Nat.le_refl _) _).alloc (by simp) _ | assumption | refine below_drewN ?_ _ | refine Below.setCell ?_ (by simp) _ | refine Below.drew ?_))⟩
  ·have D:0<k∧x.toNat=0:=by omega
   have O:0<k:=D.1
   rw[decide_eq_true D.2]at K
   have P:decide ((1:Int)<(x.toNat:Int))=false:=by simp;omega
   clear L N M i D
   by_cases i:k=9
   ·rw[decide_eq_true i]at G
    clear i
    go_wp2_with fail
    clear k0 s t f g d n r l y u o
    refine(cL (some ad) _ (a+c) a 11 _).mono ?_
    rintro e C ⟨rfl,b⟩
    have j:=Lib.hid (p.out.next b)
    clear b
    obtain⟨k0,s,t,f,g,d,n,r,l,y,u,o⟩:=j.out.cells
    go_wp2
    have z:=j.out.2.2
    exact bodyPost_ret (v := .tuple #[.agg #[.slice (some ad) (a+10) (a+c),.int .i64 (a:Int),.int .i64 11],.int .u64 0]) (by simp[results,Tryz.results176,go_sem,f,g,d]) rfl ⟨rfl,(by repeat (first | exact((Below.refl _ _).alloc (Nat.le_refl _) _).alloc (by simp) _ | assumption | refine below_drewN ?_ _ | refine Below.setCell ?_ (by simp) _ | refine Below.drew ?_))⟩
   ·rw[decide_eq_false i]at G
    clear i
    go_wp2_with fail
    clear k0 s t f g d n r l y u o
    refine(cL (some ad) _ (a+c) a 11 _).mono ?_
    rintro e C ⟨rfl,b⟩
    have j:=Lib.hid (p.out.next b)
    clear b
    obtain⟨k0,s,t,f,g,d,n,r,l,y,u,o⟩:=j.out.cells
    go_wp2
    have z:=j.out.2.2
    exact bodyPost_ret (v := .tuple #[.agg #[.slice (some ad) (a+10) (a+c),.int .i64 (a:Int),.int .i64 11],.int .u64 0]) (by simp[results,Tryz.results176,go_sem,f,g,d]) rfl ⟨rfl,(by repeat (first | exact((Below.refl _ _).alloc (Nat.le_refl _) _).alloc (by simp) _ | assumption | refine below_drewN ?_ _ | refine Below.setCell ?_ (by simp) _ | refine Below.drew ?_))⟩
 ·obtain rfl:q=10:=by rw[J,if_neg (by omega)]
  clear J
  go_enter Tryz.func176,Tryz.ntmps176
  go_wp2_with fail
  refine(cy (some ad) _ (a+c) a _ (by omega) (by omega)).mono ?_
  rintro e W ⟨rfl,H⟩
  have p:=Lib.hid ((Cu.start w #[.slice (some ad) _ (a+c),.int .i64 a,.int .i64 0] #[.slice none 0 0,.int .i64 0,.int .i64 0]).next H)
  clear H
  obtain⟨k0,s,t,f,g,d,n,r,l,y,u,o⟩:=p.out.cells
  go_wp2_with fail
  refine(bQ (some ad') _ c B _ _ (k:Int) U.out (p.out.reads A.out hB) (by omega)).mono ?_
  rintro e C ⟨rfl,rfl⟩
  obtain⟨_,_,E,_,hy,R⟩:=(p.out.reads A.out hB).byte_at F
  cases E
  rw[V.out]at hy
  cases hy
  by_cases i:k=9∧1<x.toNat
  ·rw[decide_eq_true i.1]at G
   rw[decide_eq_true i.2]at L
   clear K N M i
   go_wp2_with fail
   clear k0 s t f g d n r l y u o
   refine(cL (some ad) _ (a+c) a 11 _).mono ?_
   rintro e C ⟨rfl,b⟩
   have j:=Lib.hid (p.out.next b)
   clear b
   obtain⟨k0,s,t,f,g,d,n,r,l,y,u,o⟩:=j.out.cells
   go_wp2
   have z:=j.out.2.2
   exact bodyPost_ret (v := .tuple #[.agg #[.slice (some ad) (a+m) (a+c),.int .i64 (a:Int),.int .i64 11],.int .u64 0]) (by simp[results,Tryz.results176,go_sem,f,g,d]) rfl ⟨rfl,(by repeat (first | exact((Below.refl _ _).alloc (Nat.le_refl _) _).alloc (by simp) _ | assumption | refine below_drewN ?_ _ | refine Below.setCell ?_ (by simp) _ | refine Below.drew ?_))⟩
  ·have D:0<k∧x.toNat=0:=by omega
   have O:0<k:=D.1
   rw[decide_eq_true D.2]at K
   have P:decide ((1:Int)<(x.toNat:Int))=false:=by simp;omega
   clear L N M i D
   by_cases i:k=9
   ·rw[decide_eq_true i]at G
    clear i
    go_wp2_with fail
    clear k0 s t f g d n r l y u o
    refine(cL (some ad) _ (a+c) a 11 _).mono ?_
    rintro e C ⟨rfl,b⟩
    have j:=Lib.hid (p.out.next b)
    clear b
    obtain⟨k0,s,t,f,g,d,n,r,l,y,u,o⟩:=j.out.cells
    go_wp2
    have z:=j.out.2.2
    exact bodyPost_ret (v := .tuple #[.agg #[.slice (some ad) (a+m) (a+c),.int .i64 (a:Int),.int .i64 11],.int .u64 0]) (by simp[results,Tryz.results176,go_sem,f,g,d]) rfl ⟨rfl,(by repeat (first | exact((Below.refl _ _).alloc (Nat.le_refl _) _).alloc (by simp) _ | assumption | refine below_drewN ?_ _ | refine Below.setCell ?_ (by simp) _ | refine Below.drew ?_))⟩
   ·rw[decide_eq_false i]at G
    clear i
    go_wp2_with fail
    clear k0 s t f g d n r l y u o
    refine(cL (some ad) _ (a+c) a 11 _).mono ?_
    rintro e C ⟨rfl,b⟩
    have j:=Lib.hid (p.out.next b)
    clear b
    obtain⟨k0,s,t,f,g,d,n,r,l,y,u,o⟩:=j.out.cells
    go_wp2
    have z:=j.out.2.2
    exact bodyPost_ret (v := .tuple #[.agg #[.slice (some ad) (a+m) (a+c),.int .i64 (a:Int),.int .i64 11],.int .u64 0]) (by simp[results,Tryz.results176,go_sem,f,g,d]) rfl ⟨rfl,(by repeat (first | exact((Below.refl _ _).alloc (Nat.le_refl _) _).alloc (by simp) _ | assumption | refine below_drewN ?_ _ | refine Below.setCell ?_ (by simp) _ | refine Below.drew ?_))⟩
end
section
open Go.RowKit Go.Shelf
attribute [local go_sem] Oper.semAt_some
def eO {α:Type} (f:Nat→α) (k:Nat):List α:=(List.range k).map f
theorem fL {α:Type} (f:Nat→α) (k:Nat):eO f (k+1)=eO f k ++ [f k]:=by simp[eO,List.range_succ]
theorem ic {α:Type} (f:Nat→α) (k:Nat):(eO f k).length=k:=by simp[eO]
def gT (bs:List UInt8) (len j:Nat):Nat×UInt8:=(len-1-j,bs[len-1-j]?.getD 0)
def CK (x:Nat×UInt8):Array Value:=#[.int .i64 (x.1:Int),.int .u8 (x.2.toNat:Int)]
def KpB (n₀ Bs:Nat) (W W':World):Prop:=Below n₀ W W'∧W'.cell? ⟨Bs,0,none⟩=W.cell? ⟨Bs,0,none⟩
set_option maxHeartbeats 2000000 in
theorem BR (F:Fence) (n:Nat) (z:F.fn 259) (h:F.round=none) (K:1≤n) (l g n₀:Nat) (A:Option Addr) (len cap:Nat) (bs:List UInt8) (hlen:len≤1000) (J r:List (Nat×UInt8)→World→Prop)
 (hY:∀ pre x W,J pre W→pre.length<len→YieldAt F (n-1) Tryz.prog l (CK x) W fun e W'=>
  (e = .returned (.bool true)∧J (pre ++ [x]) W'∧KpB n₀ g W W')∨(e = .returned (.bool false)∧r (pre ++ [x]) W'))
 (W:World) (m:W.cell? ⟨g,0,none⟩=some (.slice A len cap)) (t:Reads W n₀ 1 A len (byteCells bs)) (C:J [] W):
 CallsIn F n Tryz.prog 259 #[.func (.yield l) #[] #[],.pointer (some ⟨g,0,none⟩)] W fun e W'=>(∃ v,e = .returned v) ∧
  ((∃ ys,ys=eO (gT bs len) len∧J ys W')∨(∃ pre,(∃ k,k≤len∧pre=eO (gT bs len) k)∧r pre W')):=by
 refine callsIn_of_wp Tryz.func259 rfl z ?_ h
 simp only[Tryz.ntmps259,List.size_toArray,List.length_cons,List.length_nil,Nat.reduceAdd,Nat.reduceSub,Array.replicate_succ,Array.replicate_zero,List.push_toArray,List.append_toArray,List.nil_append,List.cons_append]
 gi_wp2
 gi_loopw [3] (fun i wr => ∃ k:Nat,k≤len∧i = .int .i64 ((len:Int)-1-(k:Int))∧Hid (J (eO (gT bs len) k) wr)∧KpB n₀ g W wr)
  (fun i _=>(intOf i+1).toNat)
 case atStart=>exact⟨0,Nat.zero_le _,by simp,C,Below.refl _ _,rfl⟩
 case round=>
  obtain⟨k,G,rfl,b,a⟩:=hrel
  have s:=a.2.trans m
  have B:=Lib.hid (t.below a.1)
  have q:=Lib.hid a
  clear a t
  by_cases p:k<len
  ·obtain⟨j,u⟩:∃ j,len=j+1+k:=⟨len-1-k,by omega⟩
   rw[show(len:Int)-1-(k:Int)=(j:Int) from by omega]
   obtain⟨ad,x,rfl,E,w,H⟩:=B.out.byte_at (k:=j) (by omega)
   have f:=Lib.hid (show gT bs len k=(j,x) from by unfold gT;rw[show len-1-k=j from by omega,w];rfl)
   have D:=Lib.hid u
   obtain⟨fn,tmps,assign,body,hy,hR⟩:=hY _ (j,x) wr b.out (by rw[ic];exact p)
   unfold CK at hy
   dsimp only at hy
   have y:j<len:=by omega
   clear w u
   gi_wp2
   refine hR.mono ?_
   rintro e I (⟨rfl,o,c⟩ | ⟨rfl,d⟩)
   ·gi_wp2
    go_roundw
    case rel=>exact⟨k+1,by omega,by rw[show(len:Int)-1-((k+1:Nat):Int)=(j:Int)-1 from by have:=D.out;omega],(by rw[fL,f.out];exact o),q.out.1.trans c.1,c.2.trans q.out.2⟩
    case measure=>simp[intOf]
   ·gi_wp2
    refine bodyPost_ret (results_none rfl _ _ _) rfl ?_
    exact⟨⟨_,rfl⟩,.inr ⟨_,⟨k+1,by omega,by rw[fL,f.out]⟩,d⟩⟩
  ·obtain rfl:k=len:=by omega
   rw[show(k:Int)-1-(k:Int) = -1 from by omega]
   gi_wp2
   go_end0
   exact⟨⟨_,rfl⟩,.inl ⟨_,rfl,b.out⟩⟩
theorem pP (A:Option Addr) (len cap:Nat) (w:World):
 Calls Tryz.prog 232 #[.slice A len cap] w fun e w'=>e = .returned (.func (.func 259) #[] #[.pointer (some ⟨w.heap.size,0,none⟩)])∧w'=w.alloc (.cells #[.slice A len cap] 50):=by
 go_enter Tryz.func232,Tryz.ntmps232
 go_wp2
 go_ret
 exact⟨rfl,rfl⟩
theorem oF (F:Fence) (n:Nat) (f:F.fn 259) (b:F.round=none) (h:1≤n) (a n₀:Nat) (A:Option Addr) (len cap:Nat) (bs:List UInt8) (hlen:len≤1000) (w:World) (c:a<w.heap.size) (hn₀:n₀≤w.heap.size)
 (d:w.cell? ⟨a,0,none⟩=some (.slice A len cap)) (g:Reads w n₀ 1 A len (byteCells bs)):
 SeqStopsK F n Tryz.prog 259 #[.pointer (some ⟨a,0,none⟩)] CK (KpB n₀ a) (fun ys=>ys=eO (gT bs len) len) (fun pre => ∃ k,k≤len∧pre=eO (gT bs len) k) len w:=fun l J e W hW _ _ hY i=>
 BR F n f b h l a n₀ A len cap bs hlen J e hY W ((hW.cell (p:=⟨a,0,none⟩) c).trans d) (g.below (hW.mono hn₀)) i
theorem yx {n₀ a:Nat} {A B C:World} (h:KpB n₀ a A B) (k:KpB n₀ a B C):KpB n₀ a A C:=⟨h.1.trans k.1,k.2.trans h.2⟩
theorem yd {n₀ a:Nat} {w:World} (hn₀:n₀≤w.heap.size) (b:a<w.heap.size):∀ (W:World) (l:Nat) (o o':Obj),w.heap.size≤l→W.heap[l]?=some o→o.isCells=false→o.isWalk=false→KpB n₀ a W (W.putObj l o'):=fun W l o o' e f d c=>
 ⟨belowK_b hn₀ W l o o' e f d c,(belowK_b (n₀:=a+1) (w:=w) b W l o o' e f d c).cell (p:=⟨a,0,none⟩) (Nat.lt_succ_self _)⟩
end
section
open Go.RowKit Go.Shelf
attribute [local go_sem] Oper.semAt_some
def iX:List (Nat×UInt8)→Nat:=List.foldl (fun s x=>(s*128)%18446744073709551616+x.2.toNat%128) 0
theorem kI (pre:List (Nat×UInt8)) (x:Nat×UInt8):iX (pre ++ [x])=(iX pre*128)%18446744073709551616+x.2.toNat%128:=by simp[iX]
theorem oq (pre:List (Nat×UInt8)):iX pre<18446744073709551616:=by
 rcases List.eq_nil_or_concat pre with rfl | ⟨l,x,rfl⟩
 ·simp[iX]
 ·rw[List.concat_eq_append,kI];omega
theorem xF (s x:Nat) (a:s<18446744073709551616):bits .or .u64 (IntKind.u64.wrap ((s:Int)*128)) ((x:Int)%128)=(((s*128)%18446744073709551616+x%128:Nat):Int):=by
 rw[IntKind.wrap_u64,show((s:Int)*128)%18446744073709551616=((s*128%18446744073709551616:Nat):Int) from by omega,show(x:Int)%128=((x%128:Nat):Int) from by omega,u64_or_nat _ _ (by omega) (by omega)]
 have e:s*128%18446744073709551616=2^7*(s*128%18446744073709551616/128):=by omega
 rw[e,←Nat.two_pow_add_eq_or_of_lt (i:=7) (by omega)]
theorem qV (bs:List UInt8) (L:Nat) (hL:L≤bs.length) (g:gL (bE (bs.take L))<18446744073709551616):iX (eO (gT bs L) L)=gL (bE (bs.take L)):=by
 have hmono:∀ (l:List Nat) (i:Nat),gL (l.drop i)≤gL l:=by
  intro l
  induction l with
  | nil=>intro i;simp
  | cons y l ih=>
    intro i
    cases i with
    | zero=>simp
    | succ i=>simp only[List.drop_succ_cons,gL];have:=ih i;omega
 have f:∀ k,k≤L→iX (eO (gT bs L) k)=gL ((bE (bs.take L)).drop (L-k)):=by
  intro k
  induction k with
  | zero=>intro _;rw[Nat.sub_zero,List.drop_of_length_le (by rw[dj,List.length_take];omega)];rfl
  | succ k ih=>
    intro c
    have a:L-1-k<bs.length:=by omega
    rw[fL,kI,ih (by omega)]
    have e:(bE (bs.take L)).drop (L-(k+1))=(bs[L-1-k]).toNat::(bE (bs.take L)).drop (L-k):=by
     rw[show L-k=L-(k+1)+1 from by omega,List.drop_eq_getElem_cons (by rw[dj,List.length_take];omega)]
     congr 1
     simp only[bE,List.getElem_map,List.getElem_take]
     congr 2
     omega
    have d:(gT bs L k).2=bs[L-1-k]:=by unfold gT;simp[a]
    have b:=hmono (bE (bs.take L)) (L-(k+1))
    rw[e]at b ⊢
    simp only[gL]at b ⊢
    rw[d,Nat.mod_eq_of_lt (by omega)]
    omega
 rw[f L (Nat.le_refl _)]
 simp
theorem Br (bs:List UInt8) (k:Nat) (x:UInt8) (g:k≤9) (c:bs[k]?=some x) (h:¬ ((k=9∧1<x.toNat)∨(0<k∧x.toNat=0))):gL (bE (bs.take (k+1)))<18446744073709551616:=by
 by_cases h9:k=9
 ·subst h9
  have f:=(List.getElem?_eq_some_iff.1 c).1
  have e:bs.take (9+1)=bs.take 9 ++ [x]:=by rw[List.take_add_one,c];rfl
  rw[e,nQ,show bE [x] = [x.toNat] from rfl,zQ]
  have a:=xG (bE (bs.take 9))
  rw[dj,List.length_take,Nat.min_eq_left (by omega)]at a ⊢
  have b:x.toNat%128≤1:=by omega
  have d:128^9*(x.toNat%128)≤128^9*1:=Nat.mul_le_mul_left _ b
  omega
 ·have a:=xG (bE (bs.take (k+1)))
  rw[dj,List.length_take]at a
  have b:(128:Nat)^(min (k+1) bs.length)≤128^9:=Nat.pow_le_pow_right (by omega) (by omega)
  have d:=Nat.lt_of_lt_of_le a b
  omega
set_option maxHeartbeats 4000000 in
theorem DL (ad:Addr) (a m d:Nat) (bs:List UInt8) (B:Nat) (w:World) (L:Reads w B 1 (some ad) (a+m) (byteCells bs)) (hB:B≤w.heap.size) (ah:m≤d) (h0:0<m) (hm:m≤10000) (bb:a+d≤9223372036854775807) (q:Nat) (y:q=if m<10 then m else 10) (r:m<10∨10<m) (k:Nat) (x:UInt8) (f:k=0∨(0<k∧k≠9)∨k=9) (C:k<q) (U:bs[a+k]?=some x) (t:firstIdx gB ((bs.drop a).take q)=(k:Int)) (P:¬ ((k=9∧1<x.toNat)∨(0<k∧x.toNat=0))):Calls Tryz.prog 176 #[.agg #[.slice (some ad) (a+m) (a+d),.int .i64 (a:Int),.int .i64 0]] w fun e w'=>e = .returned (.tuple #[.agg #[.slice (some ad) (a+m) (a+d),.int .i64 ((a:Int)+((k:Int)+1)),.int .i64 0],.int .u64 ((gL (bE ((bs.drop a).take (k+1))):Nat):Int)])∧Below w.heap.size w w':=by
 have HF:=Lib.hid t;clear t
 have ac:q≤10:=by rw[y];split<;>omega
 have bc:¬ d=0:=by omega
 have ap:q≤m:=by rw[y];split<;>omega
 have o:=Lib.hid (show Reads w B 1 (some (ad.add a)) q (byteCells ((bs.drop a).take q)) from by
  have h:=(L.sufB (k:=a) (cap:=a+d) (by omega) (by omega)).preB (k:=q) (by omega)
  rw[if_neg (by omega),Option.map_some]at h
  exact h)
 clear L
 obtain⟨ad',R⟩:∃ ad',ad.add a=ad':=⟨_,rfl⟩
 rw[R]at o
 have I:((bs.drop a).take q)[k]?=some x:=by rw[List.getElem?_take,if_pos C,List.getElem?_drop];exact U
 have HX:=Lib.hid I
 have V:=Lib.hid (show Reads w B 1 (some ad') (k+1) (byteCells ((bs.drop a).take (k+1))) from by
  have h:=o.out.preB (k:=k+1) (by omega)
  rw[List.take_take,Nat.min_eq_left (by omega)]at h
  exact h)
 have O:=Lib.hid (show iX (eO (gT (List.take (k+1) (List.drop a bs)) (k+1)) (k+1))=gL (bE (List.take (k+1) (List.drop a bs))) from by
  have F:(bs.drop a)[k]?=some x:=by rw[List.getElem?_drop];exact U
  have ag:=(List.getElem?_eq_some_iff.1 F).1
  have hv:=Br (bs.drop a) k x (by omega) F P
  have h:=qV ((bs.drop a).take (k+1)) (k+1) (by rw[List.length_take];omega) (by rw[List.take_take,Nat.min_self];exact hv)
  rw[List.take_take,Nat.min_self]at h
  exact h)
 clear U I
 have bd:=x.toNat_lt
 have i1:(0:Int)≤(k:Int):=by omega
 have ae:k≤9:=by omega
 have X:m=q∨q=10:=by
  rcases r with h | h
  ·left;rw[y,if_pos h]
  ·right;rw[y,if_neg (by omega)]
 have u:m=q→m<10:=by
  rintro rfl
  split at y<;>omega
 have i:q=10→10<m:=by
  rintro rfl
  split at y<;>omega
 clear y r
 rcases X with rfl | rfl
 all_goals first
  | have r:=u rfl
  | have r:=i rfl
 all_goals clear u i
 all_goals rcases f with f | ⟨f,ab⟩ | f
 all_goals first
  | (exfalso;omega)
  | (have b9:((k:Int) == 9)=false:=by(rw[beq_eq_false_iff_ne];omega)
     have H:¬ 0<k:=by omega
     clear P f)
  | (have b9:((k:Int) == 9)=false:=by(rw[beq_eq_false_iff_ne];omega)
     have H:0<k:=by omega
     have bz:((x.toNat:Int) == 0)=false:=by(rw[beq_eq_false_iff_ne];omega)
     clear P f ab)
  | (have b9:((k:Int) == 9)=true:=by(rw[beq_iff_eq];omega)
     have H:0<k:=by omega
     have bx:decide ((1:Int)<(x.toNat:Int))=false:=by(simp;omega)
     have bz:((x.toNat:Int) == 0)=false:=by(rw[beq_eq_false_iff_ne];omega)
     clear P f)
 all_goals
  refine(callsIn_wide (n:=5)).1 ?_
  refine callsIn_of_wp_marks Tryz.func176 rfl trivial ?_ rfl
  simp only[Tryz.ntmps176,List.size_toArray,List.length_cons,List.length_nil,Nat.reduceAdd,Nat.reduceSub,Array.replicate_succ,Array.replicate_zero,List.push_toArray,List.append_toArray,List.nil_append,List.cons_append]
  gi_wp2_with fail
  refine⟨trivial,?_⟩
  refine(callsIn_wide.2 (cy (some ad) _ (a+d) a _ (by omega) (by omega))).mono ?_
  rintro e b ⟨rfl,hb⟩
  have j:=Lib.hid ((Cu.start w #[.slice (some ad) _ (a+d),.int .i64 a,.int .i64 0] #[.slice none 0 0,.int .i64 0,.int .i64 0]).next hb)
  clear hb
  obtain⟨k0,k1,k2,r0,r1,r2,f0,f1,f2,g0,g1,g2⟩:=j.out.cells
  gi_wp2_with fail
  refine⟨trivial,?_⟩
  refine(callsIn_wide.2 (bQ (some ad') _ d B _ _ (k:Int) HF.out (j.out.reads o.out hB) (by omega))).mono ?_
  rintro e w2 ⟨rfl,rfl⟩
  obtain⟨_,_,E,_,hy,aw⟩:=(j.out.reads o.out hB).byte_at C
  cases E
  rw[HX.out]at hy
  cases hy
  gi_wp2_with fail
  refine⟨trivial,?_⟩
  refine(callsIn_wide.2 (pP (some ad') (k+1) d _)).mono ?_
  rintro e w3 ⟨rfl,rfl⟩
  gi_wp2_with fail
  have bN:=Boxed.new b 253 (.int .u64 0)
  have bS:=Boxed.new (b.alloc (.cells #[.int .u64 0] 253)) 50 (.slice (some ad') (k+1) d)
  rw[World.size_alloc]at bS
  have G:Below b.heap.size b ((b.alloc (.cells #[.int .u64 0] 253)).alloc (.cells #[.slice (some ad') (k+1) d] 50)):=((Below.refl _ b).alloc (Nat.le_refl _) _).alloc (by simp) _
  have T:B≤b.heap.size:=Nat.le_trans hB j.out.size
  clear k0 k1 k2 r0 r1 r2 f0 f1 f2 g0 g1 g2
  refine wpIn_rangeFunc_ownF rfl (by omega) (gf:=259) (lb:=#[.pointer (some ⟨b.heap.size+1,0,none⟩)]) rfl trivial (enters_of Tryz.func259 (by kernel_rfl) rfl)
   (oF Fence.wide 4 trivial rfl (by omega) (b.heap.size+1) b.heap.size (some ad') (k+1) d ((bs.drop a).take (k+1)) (by omega) _ (by simp) (by simp;omega) bS.cell ((((j.out.reads V.out hB).more T)).below G)) yx (yd (by simp;omega) (by simp)) (Below.refl _ _) (fun _=>rfl)
   (fun pre W=>(W.cell? ⟨b.heap.size,0,none⟩=some (.int .u64 (iX pre:Int))∧W.frozen? ⟨b.heap.size,0,none⟩=false)∧Below b.heap.size b W)
   (fun _ _ _=>False)
   (OwnFrom.and (Own.from (fun s A B row z hg L=>⟨cell_kept z.1 hg L,(frozen_kept z.1 hg L).trans z.2⟩) _) (ownFrom_below (Nat.le_refl _) (by simp;omega)))
   (fun _ _ _ _ _ z _ _=>z)
   ⟨⟨(bN.alloc _).cell,(bN.alloc _).frozen⟩,G⟩
   ?_ ?_ ?_ ?_ ?_
  rotate_left
  ·skip
   intro l x W K hK
   unfold CK
   gi_wp2
   exact hK
  ·skip
   rintro l pre x' W ⟨⟨hc,J⟩,v⟩ ao
   have al:=xF (iX pre) x'.2.toNat (oq pre)
   have ar:=oq pre
   gi_wp2
   have Z:((iX (pre ++ [x']):Nat):Int)=(iX pre:Int)*128%18446744073709551616+(x'.2.toNat:Int)%128:=by rw[kI];omega
   exact⟨KeepsOthers.setCell _ _ _,⟨(Below.refl _ W).setCell (p:=⟨b.heap.size,0,none⟩) (Nat.le_refl _) _,World.cell?_setCell_other W ⟨b.heap.size,0,none⟩ ⟨b.heap.size+1,0,none⟩ _ (by simp)⟩,⟨by rw[Z];exact World.cell?_setCell_same' _ _ _ (by rw[hc];rfl),by rw[World.frozen?_setCell];exact J⟩,v.setCell (p:=⟨b.heap.size,0,none⟩) (Nat.le_refl _) _⟩
  ·skip
   rintro D ys W hD rfl ⟨⟨hc,J⟩,v⟩ hK
   have S:=Lib.hid (j.out.next v)
   obtain⟨k0,k1,k2,r0,r1,r2,f0,f1,f2,g0,g1,g2⟩:=S.out.cells
   have ba:=j.out.1.lt
   have Q:=j.out.2.1.lt
   have am:b.heap.size+2≤D:=by simpa using hD
   gi_wp2
   gi_region
   all_goals
    gi_wp2
    have Y:Blk ((((W.setCell ⟨w.heap.size,1,none⟩ (.int .i64 ((a:Int)+((k:Int)+1)))).setCell ⟨w.heap.size+1,0,none⟩ (.slice (some ad) (a+m) (a+d))).setCell ⟨w.heap.size+1,1,none⟩ (.int .i64 ((a:Int)+((k:Int)+1)))).setCell ⟨w.heap.size+1,2,none⟩ (.int .i64 0)).drew (w.heap.size+1) 252 #[.slice (some ad) (a+m) (a+d),.int .i64 ((a:Int)+((k:Int)+1)),.int .i64 0]:=
     (((((S.out.2.1.far (p:=⟨w.heap.size,1,none⟩) (by simp) _).set_ 0 _).set_ 1 _).set_ 2 _).drew)
    have hBW:Below w.heap.size w ((((W.setCell ⟨w.heap.size,1,none⟩ (.int .i64 ((a:Int)+((k:Int)+1)))).setCell ⟨w.heap.size+1,0,none⟩ (.slice (some ad) (a+m) (a+d))).setCell ⟨w.heap.size+1,1,none⟩ (.int .i64 ((a:Int)+((k:Int)+1)))).setCell ⟨w.heap.size+1,2,none⟩ (.int .i64 0)).drew:=
     ((((S.out.2.2.setCell (by simp) _).setCell (by simp) _).setCell (by simp) _).setCell (by simp) _).drew
    have N:((((W.setCell ⟨w.heap.size,1,none⟩ (.int .i64 ((a:Int)+((k:Int)+1)))).setCell ⟨w.heap.size+1,0,none⟩ (.slice (some ad) (a+m) (a+d))).setCell ⟨w.heap.size+1,1,none⟩ (.int .i64 ((a:Int)+((k:Int)+1)))).setCell ⟨w.heap.size+1,2,none⟩ (.int .i64 0)).drew.heap[D]?=some (.deferred (some [])):=
     (Below.heap_setCell _ _ _ D (by simp;omega)).trans ((Below.heap_setCell _ _ _ D (by simp;omega)).trans ((Below.heap_setCell _ _ _ D (by simp;omega)).trans ((Below.heap_setCell _ _ _ D (by simp;omega)).trans hK)))
    refine⟨by simp,.inl ⟨_,_,rfl,run_takeDeferred N,?_⟩⟩
    generalize ((((W.setCell ⟨w.heap.size,1,none⟩ (.int .i64 ((a:Int)+((k:Int)+1)))).setCell ⟨w.heap.size+1,0,none⟩ (.slice (some ad) (a+m) (a+d))).setCell ⟨w.heap.size+1,1,none⟩ (.int .i64 ((a:Int)+((k:Int)+1)))).setCell ⟨w.heap.size+1,2,none⟩ (.int .i64 0)).drew=W4 at *
    have M:=belowK_b (n₀:=b.heap.size) (w:=b) (Nat.le_refl _) W4 D (.deferred (some [])) (.deferred none) (by omega) N rfl rfl
    have g:=Y.below M Q
    have q0:=g.cell 0
    have q1:=g.cell 1
    have q2:=g.cell 2
    simp only[List.getElem?_toArray,List.getElem?_cons_zero,List.getElem?_cons_succ]at q0 q1 q2
    refine⟨.tuple #[.agg #[.slice (some ad) (a+m) (a+d),.int .i64 ((a:Int)+((k:Int)+1)),.int .i64 0],.int .u64 ((iX (eO (gT (List.take (k+1) (List.drop a bs)) (k+1)) (k+1)):Nat):Int)],?_,?_,hBW.trans (M.mono j.out.size)⟩
    ·simp[results,Tryz.results176,go_sem,q0,q1,q2]
    ·rw[O.out]
  ·skip
   rintro D c pre W _ _ h _
   exact h.elim
set_option maxHeartbeats 4000000 in
theorem Dy (ad:Addr) (a m d:Nat) (bs:List UInt8) (B:Nat) (w:World) (G:Reads w B 1 (some ad) (a+m) (byteCells bs)) (hB:B≤w.heap.size) (ag:m≤d) (h0:0<m) (hm:m≤10000) (ba:a+d≤9223372036854775807) (q:Nat) (L:q=if m<10 then m else 10) (X:m=10) (k:Nat) (x:UInt8) (f:k=0∨(0<k∧k≠9)∨k=9) (u:k<q) (R:bs[a+k]?=some x) (o:firstIdx gB ((bs.drop a).take q)=(k:Int)) (M:¬ ((k=9∧1<x.toNat)∨(0<k∧x.toNat=0))):Calls Tryz.prog 176 #[.agg #[.slice (some ad) (a+m) (a+d),.int .i64 (a:Int),.int .i64 0]] w fun e w'=>e = .returned (.tuple #[.agg #[.slice (some ad) (a+m) (a+d),.int .i64 ((a:Int)+((k:Int)+1)),.int .i64 0],.int .u64 ((gL (bE ((bs.drop a).take (k+1))):Nat):Int)])∧Below w.heap.size w w':=by
 have HF:=Lib.hid o;clear o
 have ab:q≤10:=by rw[L];split<;>omega
 have bb:¬ d=0:=by omega
 have ao:q≤m:=by rw[L];split<;>omega
 have j:=Lib.hid (show Reads w B 1 (some (ad.add a)) q (byteCells ((bs.drop a).take q)) from by
  have h:=(G.sufB (k:=a) (cap:=a+d) (by omega) (by omega)).preB (k:=q) (by omega)
  rw[if_neg (by omega),Option.map_some]at h
  exact h)
 clear G
 obtain⟨ad',O⟩:∃ ad',ad.add a=ad':=⟨_,rfl⟩
 rw[O]at j
 have C:((bs.drop a).take q)[k]?=some x:=by rw[List.getElem?_take,if_pos u,List.getElem?_drop];exact R
 have HX:=Lib.hid C
 have S:=Lib.hid (show Reads w B 1 (some ad') (k+1) (byteCells ((bs.drop a).take (k+1))) from by
  have h:=j.out.preB (k:=k+1) (by omega)
  rw[List.take_take,Nat.min_eq_left (by omega)]at h
  exact h)
 have J:=Lib.hid (show iX (eO (gT (List.take (k+1) (List.drop a bs)) (k+1)) (k+1))=gL (bE (List.take (k+1) (List.drop a bs))) from by
  have v:(bs.drop a)[k]?=some x:=by rw[List.getElem?_drop];exact R
  have ae:=(List.getElem?_eq_some_iff.1 v).1
  have hv:=Br (bs.drop a) k x (by omega) v M
  have h:=qV ((bs.drop a).take (k+1)) (k+1) (by rw[List.length_take];omega) (by rw[List.take_take,Nat.min_self];exact hv)
  rw[List.take_take,Nat.min_self]at h
  exact h)
 clear R C
 have bc:=x.toNat_lt
 have i1:(0:Int)≤(k:Int):=by omega
 have ac:k≤9:=by omega
 subst X
 obtain rfl:q=10:=by rw[L];rfl
 clear L
 all_goals rcases f with f | ⟨f,V⟩ | f
 all_goals first
  | (exfalso;omega)
  | (have b9:((k:Int) == 9)=false:=by(rw[beq_eq_false_iff_ne];omega)
     have z:¬ 0<k:=by omega
     clear M f)
  | (have b9:((k:Int) == 9)=false:=by(rw[beq_eq_false_iff_ne];omega)
     have z:0<k:=by omega
     have bz:((x.toNat:Int) == 0)=false:=by(rw[beq_eq_false_iff_ne];omega)
     clear M f V)
  | (have b9:((k:Int) == 9)=true:=by(rw[beq_iff_eq];omega)
     have z:0<k:=by omega
     have bx:decide ((1:Int)<(x.toNat:Int))=false:=by(simp;omega)
     have bz:((x.toNat:Int) == 0)=false:=by(rw[beq_eq_false_iff_ne];omega)
     clear M f)
 all_goals
  refine(callsIn_wide (n:=5)).1 ?_
  refine callsIn_of_wp_marks Tryz.func176 rfl trivial ?_ rfl
  simp only[Tryz.ntmps176,List.size_toArray,List.length_cons,List.length_nil,Nat.reduceAdd,Nat.reduceSub,Array.replicate_succ,Array.replicate_zero,List.push_toArray,List.append_toArray,List.nil_append,List.cons_append]
  gi_wp2_with fail
  refine⟨trivial,?_⟩
  refine(callsIn_wide.2 (cy (some ad) _ (a+d) a _ (by omega) (by omega))).mono ?_
  rintro e b ⟨rfl,hb⟩
  have i:=Lib.hid ((Cu.start w #[.slice (some ad) _ (a+d),.int .i64 a,.int .i64 0] #[.slice none 0 0,.int .i64 0,.int .i64 0]).next hb)
  clear hb
  obtain⟨k0,k1,k2,Z,r1,r2,f0,f1,f2,g0,g1,g2⟩:=i.out.cells
  gi_wp2_with fail
  refine⟨trivial,?_⟩
  refine(callsIn_wide.2 (bQ (some ad') _ d B _ _ (k:Int) HF.out (i.out.reads j.out hB) (by omega))).mono ?_
  rintro e w2 ⟨rfl,rfl⟩
  obtain⟨_,_,E,_,hy,ar⟩:=(i.out.reads j.out hB).byte_at u
  cases E
  rw[HX.out]at hy
  cases hy
  gi_wp2_with fail
  refine⟨trivial,?_⟩
  refine(callsIn_wide.2 (pP (some ad') (k+1) d _)).mono ?_
  rintro e w3 ⟨rfl,rfl⟩
  gi_wp2_with fail
  have bN:=Boxed.new b 253 (.int .u64 0)
  have bS:=Boxed.new (b.alloc (.cells #[.int .u64 0] 253)) 50 (.slice (some ad') (k+1) d)
  rw[World.size_alloc]at bS
  have y:Below b.heap.size b ((b.alloc (.cells #[.int .u64 0] 253)).alloc (.cells #[.slice (some ad') (k+1) d] 50)):=((Below.refl _ b).alloc (Nat.le_refl _) _).alloc (by simp) _
  have Q:B≤b.heap.size:=Nat.le_trans hB i.out.size
  clear k0 k1 k2 Z r1 r2 f0 f1 f2 g0 g1 g2
  refine wpIn_rangeFunc_ownF rfl (by omega) (gf:=259) (lb:=#[.pointer (some ⟨b.heap.size+1,0,none⟩)]) rfl trivial (enters_of Tryz.func259 (by kernel_rfl) rfl)
   (oF Fence.wide 4 trivial rfl (by omega) (b.heap.size+1) b.heap.size (some ad') (k+1) d ((bs.drop a).take (k+1)) (by omega) _ (by simp) (by simp;omega) bS.cell ((((i.out.reads S.out hB).more Q)).below y)) yx (yd (by simp;omega) (by simp)) (Below.refl _ _) (fun _=>rfl)
   (fun pre W=>(W.cell? ⟨b.heap.size,0,none⟩=some (.int .u64 (iX pre:Int))∧W.frozen? ⟨b.heap.size,0,none⟩=false)∧Below b.heap.size b W)
   (fun _ _ _=>False)
   (OwnFrom.and (Own.from (fun s A B row t hg G=>⟨cell_kept t.1 hg G,(frozen_kept t.1 hg G).trans t.2⟩) _) (ownFrom_below (Nat.le_refl _) (by simp;omega)))
   (fun _ _ _ _ _ t _ _=>t)
   ⟨⟨(bN.alloc _).cell,(bN.alloc _).frozen⟩,y⟩
   ?_ ?_ ?_ ?_ ?_
  rotate_left
  ·skip
   intro l x W K hK
   unfold CK
   gi_wp2
   exact hK
  ·skip
   rintro l pre x' W ⟨⟨hc,F⟩,r⟩ am
   have ah:=xF (iX pre) x'.2.toNat (oq pre)
   have ap:=oq pre
   gi_wp2
   have U:((iX (pre ++ [x']):Nat):Int)=(iX pre:Int)*128%18446744073709551616+(x'.2.toNat:Int)%128:=by rw[kI];omega
   exact⟨KeepsOthers.setCell _ _ _,⟨(Below.refl _ W).setCell (p:=⟨b.heap.size,0,none⟩) (Nat.le_refl _) _,World.cell?_setCell_other W ⟨b.heap.size,0,none⟩ ⟨b.heap.size+1,0,none⟩ _ (by simp)⟩,⟨by rw[U];exact World.cell?_setCell_same' _ _ _ (by rw[hc];rfl),by rw[World.frozen?_setCell];exact F⟩,r.setCell (p:=⟨b.heap.size,0,none⟩) (Nat.le_refl _) _⟩
  ·skip
   rintro D ys W hD rfl ⟨⟨hc,F⟩,r⟩ hK
   have P:=Lib.hid (i.out.next r)
   obtain⟨k0,k1,k2,Z,r1,r2,f0,f1,f2,g0,g1,g2⟩:=P.out.cells
   have aw:=i.out.1.lt
   have N:=i.out.2.1.lt
   have al:b.heap.size+2≤D:=by simpa using hD
   gi_wp2
   gi_region
   all_goals
    gi_wp2
    have T:Blk ((((W.setCell ⟨w.heap.size,1,none⟩ (.int .i64 ((a:Int)+((k:Int)+1)))).setCell ⟨w.heap.size+1,0,none⟩ (.slice (some ad) (a+10) (a+d))).setCell ⟨w.heap.size+1,1,none⟩ (.int .i64 ((a:Int)+((k:Int)+1)))).setCell ⟨w.heap.size+1,2,none⟩ (.int .i64 0)).drew (w.heap.size+1) 252 #[.slice (some ad) (a+10) (a+d),.int .i64 ((a:Int)+((k:Int)+1)),.int .i64 0]:=
     (((((P.out.2.1.far (p:=⟨w.heap.size,1,none⟩) (by simp) _).set_ 0 _).set_ 1 _).set_ 2 _).drew)
    have hBW:Below w.heap.size w ((((W.setCell ⟨w.heap.size,1,none⟩ (.int .i64 ((a:Int)+((k:Int)+1)))).setCell ⟨w.heap.size+1,0,none⟩ (.slice (some ad) (a+10) (a+d))).setCell ⟨w.heap.size+1,1,none⟩ (.int .i64 ((a:Int)+((k:Int)+1)))).setCell ⟨w.heap.size+1,2,none⟩ (.int .i64 0)).drew:=
     ((((P.out.2.2.setCell (by simp) _).setCell (by simp) _).setCell (by simp) _).setCell (by simp) _).drew
    have I:((((W.setCell ⟨w.heap.size,1,none⟩ (.int .i64 ((a:Int)+((k:Int)+1)))).setCell ⟨w.heap.size+1,0,none⟩ (.slice (some ad) (a+10) (a+d))).setCell ⟨w.heap.size+1,1,none⟩ (.int .i64 ((a:Int)+((k:Int)+1)))).setCell ⟨w.heap.size+1,2,none⟩ (.int .i64 0)).drew.heap[D]?=some (.deferred (some [])):=
     (Below.heap_setCell _ _ _ D (by simp;omega)).trans ((Below.heap_setCell _ _ _ D (by simp;omega)).trans ((Below.heap_setCell _ _ _ D (by simp;omega)).trans ((Below.heap_setCell _ _ _ D (by simp;omega)).trans hK)))
    refine⟨by simp,.inl ⟨_,_,rfl,run_takeDeferred I,?_⟩⟩
    generalize ((((W.setCell ⟨w.heap.size,1,none⟩ (.int .i64 ((a:Int)+((k:Int)+1)))).setCell ⟨w.heap.size+1,0,none⟩ (.slice (some ad) (a+10) (a+d))).setCell ⟨w.heap.size+1,1,none⟩ (.int .i64 ((a:Int)+((k:Int)+1)))).setCell ⟨w.heap.size+1,2,none⟩ (.int .i64 0)).drew=W4 at *
    have H:=belowK_b (n₀:=b.heap.size) (w:=b) (Nat.le_refl _) W4 D (.deferred (some [])) (.deferred none) (by omega) I rfl rfl
    have g:=T.below H N
    have q0:=g.cell 0
    have Y:=g.cell 1
    have q2:=g.cell 2
    simp only[List.getElem?_toArray,List.getElem?_cons_zero,List.getElem?_cons_succ]at q0 Y q2
    refine⟨.tuple #[.agg #[.slice (some ad) (a+10) (a+d),.int .i64 ((a:Int)+((k:Int)+1)),.int .i64 0],.int .u64 ((iX (eO (gT (List.take (k+1) (List.drop a bs)) (k+1)) (k+1)):Nat):Int)],?_,?_,hBW.trans (H.mono i.out.size)⟩
    ·simp[results,Tryz.results176,go_sem,q0,Y,q2]
    ·rw[J.out]
  ·skip
   rintro D c pre W _ _ h _
   exact h.elim
end
end Go.Proofs.YtpokkciheejeiaaGreatDoor
