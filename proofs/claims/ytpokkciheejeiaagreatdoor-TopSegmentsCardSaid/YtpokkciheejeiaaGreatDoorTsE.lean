/- Lemmas and contracts that the proof of TopSegments uses, part 5 of 14: each is a theorem for every input that its premises allow. -/
import Derived.StillTailTactics
import Derived.Deep.RegionHeld3
import Derived.Test.YtpokkciheejeiaaGreatDoorTsD
set_option linter.unusedVariables false
set_option linter.unusedSimpArgs false
set_option maxRecDepth 100000
namespace Go.Proofs.YtpokkciheejeiaaGreatDoor
section
open Go.RowKit
theorem vg {room has:Int} (a:eF room has=true):0≤room∧room≤2147483647∧0≤has∧has≤room:=by
 unfold eF at a
 rw[decide_eq_true_eq]at a
 exact a
theorem fH (room has:Int) (a:eF room has=true) (w:World):Calls Tryz.prog 154 #[.agg #[.int .i64 room,.int .i64 has]] w fun e w'=>e = .returned (.bool true)∧Below w.heap.size w w':=by
 obtain⟨f,b,d,c⟩:=vg a
 clear a
 go_enter Tryz.func154,Tryz.ntmps154
 go_wp2
 go_ret
 exact⟨rfl,(Below.refl _ _).alloc (Nat.le_refl _) _⟩
set_option maxHeartbeats 1000000 in
theorem sV (room has n:Int) (a:eF room has=true) (hn:0≤n) (w:World):∃ b,Calls Tryz.prog 89 #[.agg #[.int .i64 room,.int .i64 has],.int .i64 n] w fun e w'=>e = .returned (.tuple #[.agg #[.int .i64 room,.int .i64 (ig has n)],.bool b])∧Below w.heap.size w w':=by
 obtain⟨i,m,g,l⟩:=vg a
 have j:¬ n<0:=by omega
 by_cases h:has<n
 ·have d:ig has n=0:=by unfold ig;omega
  rw[d]
  refine⟨false,?_⟩
  go_enter Tryz.func89,Tryz.ntmps89
  go_upto_region 1 with(fail)
  refine(hstart (W:=w) (X:=[]) (fun _ h=>by cases h)).cw fun W K=>?_
  have c:=K.r 1 rfl
  go_wp2_with fail
  refine(fH room has a _).mono ?_
  rintro e f ⟨rfl,a⟩
  have K:=K.on a
  clear a c
  have c:=K.r 1 rfl
  go_wp2_with (refine K.lw fun W K=>?_;refine K.sr 0 rfl fun W K=>?_)
  exact K.rc2 0 rfl rfl ⟨rfl,K.below⟩
 ·have d:ig has n=has-n:=by unfold ig;omega
  have k:wrap64 (has-n)=has-n:=by unfold wrap64;omega
  rw[d]
  refine⟨true,?_⟩
  go_enter Tryz.func89,Tryz.ntmps89
  go_upto_region 1 with(fail)
  refine(hstart (W:=w) (X:=[]) (fun _ h=>by cases h)).cw fun W K=>?_
  have c:=K.r 1 rfl
  go_wp2_with fail
  refine(fH room has a _).mono ?_
  rintro e f ⟨rfl,a⟩
  have K:=K.on a
  clear a c
  have c:=K.r 1 rfl
  go_wp2_with (refine K.lw fun W K=>?_;refine K.sr 0 rfl fun W K=>?_)
  exact K.rc2 0 rfl rfl ⟨rfl,K.below⟩
set_option maxHeartbeats 1000000 in
theorem DQ (room has n:Int) (a:eF room has=true) (hn:0≤n) (w:World):Calls Tryz.prog 90 #[.agg #[.int .i64 room,.int .i64 has],.int .i64 n] w fun e w'=>e = .returned (.agg #[.int .i64 room,.int .i64 (mC room has n)])∧Below w.heap.size w w':=by
 obtain⟨g,l,f,k⟩:=vg a
 have i:¬ n<0:=by omega
 by_cases h:room<n
 ·have c:mC room has n=room:=by unfold mC;omega
  rw[c]
  go_enter Tryz.func90,Tryz.ntmps90
  go_upto_region 1 with(fail)
  refine(hstart (W:=w) (X:=[]) (fun _ h=>by cases h)).cw fun W K=>?_
  have b:=K.r 1 rfl
  go_wp2_with fail
  refine(fH room has a _).mono ?_
  rintro e d ⟨rfl,a⟩
  have K:=K.on a
  clear a b
  have b:=K.r 1 rfl
  go_wp2_with (refine K.lw fun W K=>?_;refine K.sr 0 rfl fun W K=>?_)
  exact K.rc1 0 rfl rfl ⟨rfl,K.below⟩
 ·have j:wrap64 (has+n)=has+n:=by unfold wrap64;omega
  by_cases hh:room<has+n
  ·have c:mC room has n=room:=by unfold mC;omega
   rw[c]
   go_enter Tryz.func90,Tryz.ntmps90
   go_upto_region 1 with(fail)
   refine(hstart (W:=w) (X:=[]) (fun _ h=>by cases h)).cw fun W K=>?_
   have b:=K.r 1 rfl
   go_wp2_with fail
   refine(fH room has a _).mono ?_
   rintro e d ⟨rfl,a⟩
   have K:=K.on a
   clear a b
   have b:=K.r 1 rfl
   go_wp2_with (refine K.lw fun W K=>?_;refine K.sr 0 rfl fun W K=>?_)
   exact K.rc1 0 rfl rfl ⟨rfl,K.below⟩
  ·have c:mC room has n=has+n:=by unfold mC;omega
   rw[c]
   go_enter Tryz.func90,Tryz.ntmps90
   go_upto_region 1 with(fail)
   refine(hstart (W:=w) (X:=[]) (fun _ h=>by cases h)).cw fun W K=>?_
   have b:=K.r 1 rfl
   go_wp2_with fail
   refine(fH room has a _).mono ?_
   rintro e d ⟨rfl,a⟩
   have K:=K.on a
   clear a b
   have b:=K.r 1 rfl
   go_wp2_with (refine K.lw fun W K=>?_;refine K.sr 0 rfl fun W K=>?_)
   exact K.rc1 0 rfl rfl ⟨rfl,K.below⟩
end
section
open Go.RowKit
theorem gP {n:Int} (h:¬ (0≤n∧n≤2147483647)):oS n=false:=by
 unfold oS
 by_cases a:0≤n
 ·rw[decide_eq_true a,decide_eq_false (by omega)];rfl
 ·rw[decide_eq_false a];rfl
theorem gM {n:Int} (b:0≤n) (a:n≤2147483647):oS n=true:=by unfold oS;rw[decide_eq_true b,decide_eq_true a];rfl
set_option maxHeartbeats 4000000 in
theorem AS (i:Evt) (w:World):Calls Tryz.prog 60 #[.agg (evA i)] w fun e w'=>e = .returned (.bool (cJ i))∧Below w.heap.size w w':=by
 have b:Hid (cJ i=(inB i.x (cR i.k).1&&inB i.y (cR i.k).2.1&&inB i.z (cR i.k).2.2)):=rfl
 generalize cJ i=r at b ⊢
 obtain⟨q,a,k,N,x,y,z⟩:=i
 simp only at b
 have f:=fun W=>Lib.hid (uD x W)
 have m:=fun W=>Lib.hid (uD y W)
 have A:=fun W=>Lib.hid (uD z W)
 by_cases B:k=1
 ·subst B
  by_cases lx:x<1
  ·skip
   go_enter Tryz.func60,Tryz.ntmps60
   go_wp2
   go_ret
   exact⟨bF (by rw[b.out];simp[cR,inB];omega),(Below.refl _ _).alloc (Nat.le_refl _) _⟩
  have mx:1≤x:=by omega
  clear lx
  by_cases h:3<x
  ·skip
   go_enter Tryz.func60,Tryz.ntmps60
   go_wp2
   go_ret
   exact⟨bF (by rw[b.out];simp[cR,inB];omega),(Below.refl _ _).alloc (Nat.le_refl _) _⟩
  have G:x≤3:=by omega
  clear h
  by_cases d:y=0
  rotate_left
  ·have o:(y == 0)=false:=by rw[beq_eq_false_iff_ne];exact d
   have p:=Lib.hid d
   clear d
   go_enter Tryz.func60,Tryz.ntmps60
   go_wp2
   go_ret
   exact⟨bF (by rw[b.out];have:=p.out;simp[cR,inB];omega),(Below.refl _ _).alloc (Nat.le_refl _) _⟩
  subst d
  by_cases c:z=0
  rotate_left
  ·have l:(z == 0)=false:=by rw[beq_eq_false_iff_ne];exact c
   have j:=Lib.hid c
   clear c
   go_enter Tryz.func60,Tryz.ntmps60
   go_wp2
   go_ret
   exact⟨bF (by rw[b.out];have:=j.out;simp[cR,inB];omega),(Below.refl _ _).alloc (Nat.le_refl _) _⟩
  subst c
  go_enter Tryz.func60,Tryz.ntmps60
  go_wp2
  go_ret
  exact⟨bF (by rw[b.out];simp[cR,inB];omega),(Below.refl _ _).alloc (Nat.le_refl _) _⟩
 by_cases v:k=2
 ·subst v
  by_cases g:0≤x∧x≤2147483647
  rotate_left
  ·have tx:=gP g
   rw[tx]at f
   have s:=Lib.hid g
   clear g tx
   go_enter Tryz.func60,Tryz.ntmps60
   go_wp2_with (first | (go_at_call 124;refine((f _).out).mono ?_;rintro e w' ⟨rfl,rfl⟩))
   go_ret
   exact⟨bF (by rw[b.out];have:=s.out;simp[cR,inB];omega),(Below.refl _ _).alloc (Nat.le_refl _) _⟩
  obtain⟨lx,h⟩:=g
  rw[gM lx h]at f
  by_cases n:0≤y∧y≤2147483647
  rotate_left
  ·have ty:=gP n
   rw[ty]at m
   have E:=Lib.hid n
   clear n ty
   go_enter Tryz.func60,Tryz.ntmps60
   go_wp2_with (first | (go_at_call 124;refine((f _).out).mono ?_;rintro e w' ⟨rfl,rfl⟩) | (go_at_call 124;refine((m _).out).mono ?_;rintro e w' ⟨rfl,rfl⟩))
   go_ret
   exact⟨bF (by rw[b.out];have:=E.out;simp[cR,inB];omega),(Below.refl _ _).alloc (Nat.le_refl _) _⟩
  obtain⟨ly,C⟩:=n
  rw[gM ly C]at m
  by_cases sz:0≤z∧z≤2147483647
  rotate_left
  ·have tz:=gP sz
   rw[tz]at A
   have J:=Lib.hid sz
   clear sz tz
   go_enter Tryz.func60,Tryz.ntmps60
   go_wp2_with (first | (go_at_call 124;refine((f _).out).mono ?_;rintro e w' ⟨rfl,rfl⟩) | (go_at_call 124;refine((m _).out).mono ?_;rintro e w' ⟨rfl,rfl⟩) | (go_at_call 124;refine((A _).out).mono ?_;rintro e w' ⟨rfl,rfl⟩))
   go_ret
   exact⟨bF (by rw[b.out];have:=J.out;simp[cR,inB];omega),(Below.refl _ _).alloc (Nat.le_refl _) _⟩
  obtain⟨I,H⟩:=sz
  rw[gM I H]at A
  go_enter Tryz.func60,Tryz.ntmps60
  go_wp2_with (first | (go_at_call 124;refine((f _).out).mono ?_;rintro e w' ⟨rfl,rfl⟩) | (go_at_call 124;refine((m _).out).mono ?_;rintro e w' ⟨rfl,rfl⟩) | (go_at_call 124;refine((A _).out).mono ?_;rintro e w' ⟨rfl,rfl⟩))
  go_ret
  exact⟨bF (by rw[b.out];simp[cR,inB];omega),(Below.refl _ _).alloc (Nat.le_refl _) _⟩
 by_cases u:k=3
 ·subst u
  by_cases lx:x<0
  ·skip
   go_enter Tryz.func60,Tryz.ntmps60
   go_wp2
   go_ret
   exact⟨bF (by rw[b.out];simp[cR,inB];omega),(Below.refl _ _).alloc (Nat.le_refl _) _⟩
  have mx:0≤x:=by omega
  clear lx
  by_cases h:2<x
  ·skip
   go_enter Tryz.func60,Tryz.ntmps60
   go_wp2
   go_ret
   exact⟨bF (by rw[b.out];simp[cR,inB];omega),(Below.refl _ _).alloc (Nat.le_refl _) _⟩
  have G:x≤2:=by omega
  clear h
  by_cases n:0≤y∧y≤2147483647
  rotate_left
  ·have ty:=gP n
   rw[ty]at m
   have E:=Lib.hid n
   clear n ty
   go_enter Tryz.func60,Tryz.ntmps60
   go_wp2_with (first | (go_at_call 124;refine((m _).out).mono ?_;rintro e w' ⟨rfl,rfl⟩))
   go_ret
   exact⟨bF (by rw[b.out];have:=E.out;simp[cR,inB];omega),(Below.refl _ _).alloc (Nat.le_refl _) _⟩
  obtain⟨ly,C⟩:=n
  rw[gM ly C]at m
  by_cases c:z=0
  rotate_left
  ·have l:(z == 0)=false:=by rw[beq_eq_false_iff_ne];exact c
   have j:=Lib.hid c
   clear c
   go_enter Tryz.func60,Tryz.ntmps60
   go_wp2_with (first | (go_at_call 124;refine((m _).out).mono ?_;rintro e w' ⟨rfl,rfl⟩))
   go_ret
   exact⟨bF (by rw[b.out];have:=j.out;simp[cR,inB];omega),(Below.refl _ _).alloc (Nat.le_refl _) _⟩
  subst c
  go_enter Tryz.func60,Tryz.ntmps60
  go_wp2_with (first | (go_at_call 124;refine((m _).out).mono ?_;rintro e w' ⟨rfl,rfl⟩))
  go_ret
  exact⟨bF (by rw[b.out];simp[cR,inB];omega),(Below.refl _ _).alloc (Nat.le_refl _) _⟩
 by_cases t:k=4
 ·subst t
  by_cases lx:x<0
  ·skip
   go_enter Tryz.func60,Tryz.ntmps60
   go_wp2
   go_ret
   exact⟨bF (by rw[b.out];simp[cR,inB];omega),(Below.refl _ _).alloc (Nat.le_refl _) _⟩
  have mx:0≤x:=by omega
  clear lx
  by_cases h:2<x
  ·skip
   go_enter Tryz.func60,Tryz.ntmps60
   go_wp2
   go_ret
   exact⟨bF (by rw[b.out];simp[cR,inB];omega),(Below.refl _ _).alloc (Nat.le_refl _) _⟩
  have G:x≤2:=by omega
  clear h
  by_cases d:y=0
  rotate_left
  ·have o:(y == 0)=false:=by rw[beq_eq_false_iff_ne];exact d
   have p:=Lib.hid d
   clear d
   go_enter Tryz.func60,Tryz.ntmps60
   go_wp2
   go_ret
   exact⟨bF (by rw[b.out];have:=p.out;simp[cR,inB];omega),(Below.refl _ _).alloc (Nat.le_refl _) _⟩
  subst d
  by_cases c:z=0
  rotate_left
  ·have l:(z == 0)=false:=by rw[beq_eq_false_iff_ne];exact c
   have j:=Lib.hid c
   clear c
   go_enter Tryz.func60,Tryz.ntmps60
   go_wp2
   go_ret
   exact⟨bF (by rw[b.out];have:=j.out;simp[cR,inB];omega),(Below.refl _ _).alloc (Nat.le_refl _) _⟩
  subst c
  go_enter Tryz.func60,Tryz.ntmps60
  go_wp2
  go_ret
  exact⟨bF (by rw[b.out];simp[cR,inB];omega),(Below.refl _ _).alloc (Nat.le_refl _) _⟩
 by_cases D:k=8
 ·subst D
  by_cases lx:x<1
  ·skip
   go_enter Tryz.func60,Tryz.ntmps60
   go_wp2
   go_ret
   exact⟨bF (by rw[b.out];simp[cR,inB];omega),(Below.refl _ _).alloc (Nat.le_refl _) _⟩
  have mx:1≤x:=by omega
  clear lx
  by_cases g:0≤x∧x≤2147483647
  rotate_left
  ·have tx:=gP g
   rw[tx]at f
   have s:=Lib.hid g
   clear g tx
   go_enter Tryz.func60,Tryz.ntmps60
   go_wp2_with (first | (go_at_call 124;refine((f _).out).mono ?_;rintro e w' ⟨rfl,rfl⟩))
   go_ret
   exact⟨bF (by rw[b.out];have:=s.out;simp[cR,inB];omega),(Below.refl _ _).alloc (Nat.le_refl _) _⟩
  obtain⟨lx,h⟩:=g
  rw[gM lx h]at f
  by_cases d:y=0
  rotate_left
  ·have o:(y == 0)=false:=by rw[beq_eq_false_iff_ne];exact d
   have p:=Lib.hid d
   clear d
   go_enter Tryz.func60,Tryz.ntmps60
   go_wp2_with (first | (go_at_call 124;refine((f _).out).mono ?_;rintro e w' ⟨rfl,rfl⟩))
   go_ret
   exact⟨bF (by rw[b.out];have:=p.out;simp[cR,inB];omega),(Below.refl _ _).alloc (Nat.le_refl _) _⟩
  subst d
  by_cases c:z=0
  rotate_left
  ·have l:(z == 0)=false:=by rw[beq_eq_false_iff_ne];exact c
   have j:=Lib.hid c
   clear c
   go_enter Tryz.func60,Tryz.ntmps60
   go_wp2_with (first | (go_at_call 124;refine((f _).out).mono ?_;rintro e w' ⟨rfl,rfl⟩))
   go_ret
   exact⟨bF (by rw[b.out];have:=j.out;simp[cR,inB];omega),(Below.refl _ _).alloc (Nat.le_refl _) _⟩
  subst c
  go_enter Tryz.func60,Tryz.ntmps60
  go_wp2_with (first | (go_at_call 124;refine((f _).out).mono ?_;rintro e w' ⟨rfl,rfl⟩))
  go_ret
  exact⟨bF (by rw[b.out];simp[cR,inB];omega),(Below.refl _ _).alloc (Nat.le_refl _) _⟩
 by_cases k10:k=10
 ·subst k10
  by_cases lx:x<1
  ·skip
   go_enter Tryz.func60,Tryz.ntmps60
   go_wp2
   go_ret
   exact⟨bF (by rw[b.out];simp[cR,inB];omega),(Below.refl _ _).alloc (Nat.le_refl _) _⟩
  have mx:1≤x:=by omega
  clear lx
  by_cases g:0≤x∧x≤2147483647
  rotate_left
  ·have tx:=gP g
   rw[tx]at f
   have s:=Lib.hid g
   clear g tx
   go_enter Tryz.func60,Tryz.ntmps60
   go_wp2_with (first | (go_at_call 124;refine((f _).out).mono ?_;rintro e w' ⟨rfl,rfl⟩))
   go_ret
   exact⟨bF (by rw[b.out];have:=s.out;simp[cR,inB];omega),(Below.refl _ _).alloc (Nat.le_refl _) _⟩
  obtain⟨lx,h⟩:=g
  rw[gM lx h]at f
  by_cases d:y=0
  rotate_left
  ·have o:(y == 0)=false:=by rw[beq_eq_false_iff_ne];exact d
   have p:=Lib.hid d
   clear d
   go_enter Tryz.func60,Tryz.ntmps60
   go_wp2_with (first | (go_at_call 124;refine((f _).out).mono ?_;rintro e w' ⟨rfl,rfl⟩))
   go_ret
   exact⟨bF (by rw[b.out];have:=p.out;simp[cR,inB];omega),(Below.refl _ _).alloc (Nat.le_refl _) _⟩
  subst d
  by_cases c:z=0
  rotate_left
  ·have l:(z == 0)=false:=by rw[beq_eq_false_iff_ne];exact c
   have j:=Lib.hid c
   clear c
   go_enter Tryz.func60,Tryz.ntmps60
   go_wp2_with (first | (go_at_call 124;refine((f _).out).mono ?_;rintro e w' ⟨rfl,rfl⟩))
   go_ret
   exact⟨bF (by rw[b.out];have:=j.out;simp[cR,inB];omega),(Below.refl _ _).alloc (Nat.le_refl _) _⟩
  subst c
  go_enter Tryz.func60,Tryz.ntmps60
  go_wp2_with (first | (go_at_call 124;refine((f _).out).mono ?_;rintro e w' ⟨rfl,rfl⟩))
  go_ret
  exact⟨bF (by rw[b.out];simp[cR,inB];omega),(Below.refl _ _).alloc (Nat.le_refl _) _⟩
 have L:(k == 1)=false:=by rw[beq_eq_false_iff_ne];exact B
 have Q:(k == 2)=false:=by rw[beq_eq_false_iff_ne];exact v
 have O:(k == 3)=false:=by rw[beq_eq_false_iff_ne];exact u
 have M:(k == 4)=false:=by rw[beq_eq_false_iff_ne];exact t
 have P:(k == 8)=false:=by rw[beq_eq_false_iff_ne];exact D
 have K:(k == 10)=false:=by rw[beq_eq_false_iff_ne];exact k10
 have F:=Lib.hid (show cR k=((0,2147483647),(0,0),(0,0)) from by unfold cR;rw[if_neg B,if_neg v,if_neg u,if_neg t,if_neg (by omega)])
 rw[F.out]at b
 clear F B v u t D k10
 by_cases g:0≤x∧x≤2147483647
 rotate_left
 ·have tx:=gP g
  rw[tx]at f
  have s:=Lib.hid g
  clear g tx
  go_enter Tryz.func60,Tryz.ntmps60
  go_wp2_with (first | (go_at_call 124;refine((f _).out).mono ?_;rintro e w' ⟨rfl,rfl⟩))
  go_ret
  exact⟨bF (by rw[b.out];have:=s.out;simp[inB];omega),(Below.refl _ _).alloc (Nat.le_refl _) _⟩
 obtain⟨lx,h⟩:=g
 rw[gM lx h]at f
 by_cases d:y=0
 rotate_left
 ·have o:(y == 0)=false:=by rw[beq_eq_false_iff_ne];exact d
  have p:=Lib.hid d
  clear d
  go_enter Tryz.func60,Tryz.ntmps60
  go_wp2_with (first | (go_at_call 124;refine((f _).out).mono ?_;rintro e w' ⟨rfl,rfl⟩))
  go_ret
  exact⟨bF (by rw[b.out];have:=p.out;simp[inB];omega),(Below.refl _ _).alloc (Nat.le_refl _) _⟩
 subst d
 by_cases c:z=0
 rotate_left
 ·have l:(z == 0)=false:=by rw[beq_eq_false_iff_ne];exact c
  have j:=Lib.hid c
  clear c
  go_enter Tryz.func60,Tryz.ntmps60
  go_wp2_with (first | (go_at_call 124;refine((f _).out).mono ?_;rintro e w' ⟨rfl,rfl⟩))
  go_ret
  exact⟨bF (by rw[b.out];have:=j.out;simp[inB];omega),(Below.refl _ _).alloc (Nat.le_refl _) _⟩
 subst c
 go_enter Tryz.func60,Tryz.ntmps60
 go_wp2_with (first | (go_at_call 124;refine((f _).out).mono ?_;rintro e w' ⟨rfl,rfl⟩))
 go_ret
 exact⟨bF (by rw[b.out];simp[inB];omega),(Below.refl _ _).alloc (Nat.le_refl _) _⟩
set_option maxHeartbeats 2000000 in
theorem dA (b:Evt) (o:b.cm.size≤maxLen) (w:World):Calls Tryz.prog 19 #[.agg (evA b)] w fun e w'=>e = .returned (.int .i64 (bX b))∧Below w.heap.size w w':=by
 have c:Hid (bX b=if cu b.k=0 then 2 else if dN b.cm=false then 3 else if cJ b=false then 4 else if b.a<0∨1099511627776<b.a then 5 else if b.q<0∨4294967296<b.q then 1 else 0):=rfl
 have n:=fun W=>Lib.hid (AS b W)
 have s:Hid (cu b.k=0 ↔ b.k<1∨10<b.k):=by
  refine Lib.hid ?_
  unfold cu
  by_cases h:b.k<1∨10<b.k
  ·rw[if_pos h];simp[h]
  ·rw[if_neg h]
   constructor
   ·intro h';split at h'<;>first | omega | (split at h'<;>omega)
   ·intro h';exact absurd h' h
 have p:Hid (dN b.cm=false ↔ b.cm.size=0∨24<b.cm.size):=by
  refine Lib.hid ?_
  unfold dN
  rw[Bool.and_eq_false_iff,decide_eq_false_iff_not,decide_eq_false_iff_not]
  omega
 generalize bX b=r at c ⊢
 generalize cu b.k=m at s c
 generalize dN b.cm=nm at p c
 generalize cJ b=wi at n c
 obtain⟨q,a,k,cm,x,y,z⟩:=b
 simp only at c s p n o
 unfold maxLen at o
 by_cases j:k<1∨10<k
 ·rw[if_pos (s.out.2 j)]at c
  rcases j with j | j
  all_goals
   go_enter Tryz.func19,Tryz.ntmps19
   go_wp2
   go_ret
   exact⟨dV (by rw[c.out]),(Below.refl _ _).alloc (Nat.le_refl _) _⟩
 rw[if_neg (fun h=>j (s.out.1 h))]at c
 have H:1≤k:=by omega
 have E:k≤10:=by omega
 clear j s
 by_cases g:cm.size=0∨24<cm.size
 ·rw[if_pos (p.out.2 g)]at c
  rcases g with g | g
  ·have B:((cm.size:Int) == 0)=true:=by rw[beq_iff_eq];omega
   have A:(cm.size == 0)=true:=by rw[beq_iff_eq];omega
   clear g
   go_enter Tryz.func19,Tryz.ntmps19
   go_wp2
   go_ret
   exact⟨dV (by rw[c.out]),(Below.refl _ _).alloc (Nat.le_refl _) _⟩
  ·have B:((cm.size:Int) == 0)=false:=by rw[beq_eq_false_iff_ne];omega
   have A:(cm.size == 0)=false:=by rw[beq_eq_false_iff_ne];omega
   go_enter Tryz.func19,Tryz.ntmps19
   go_wp2
   go_ret
   exact⟨dV (by rw[c.out]),(Below.refl _ _).alloc (Nat.le_refl _) _⟩
 rw[if_neg (fun h=>g (p.out.1 h))]at c
 have B:((cm.size:Int) == 0)=false:=by rw[beq_eq_false_iff_ne];omega
 have A:(cm.size == 0)=false:=by rw[beq_eq_false_iff_ne];omega
 have C:cm.size≤24:=by omega
 clear g p
 cases wi
 ·skip
  rw[if_pos rfl]at c
  go_enter Tryz.func19,Tryz.ntmps19
  go_wp2_with (go_at_call 60;refine((n _).out).mono ?_;rintro e v ⟨rfl,d⟩;have f:=Lib.hid d;obtain⟨t,u⟩:=cC d;clear d)
  go_ret
  exact⟨dV (by rw[c.out]),((Below.refl _ _).alloc (Nat.le_refl _) _).trans (f.out.mono (by simp))⟩
 rw[if_neg (by simp)]at c
 by_cases l:a<0∨1099511627776<a
 ·rw[if_pos l]at c
  rcases l with l | l
  all_goals
   go_enter Tryz.func19,Tryz.ntmps19
   go_wp2_with (go_at_call 60;refine((n _).out).mono ?_;rintro e v ⟨rfl,d⟩;have f:=Lib.hid d;obtain⟨t,u⟩:=cC d;clear d)
   go_ret
   exact⟨dV (by rw[c.out]),((Below.refl _ _).alloc (Nat.le_refl _) _).trans (f.out.mono (by simp))⟩
 rw[if_neg l]at c
 have G:0≤a:=by omega
 have D:a≤1099511627776:=by omega
 clear l
 by_cases i:q<0∨4294967296<q
 ·rw[if_pos i]at c
  rcases i with i | i
  all_goals
   go_enter Tryz.func19,Tryz.ntmps19
   go_wp2_with (go_at_call 60;refine((n _).out).mono ?_;rintro e v ⟨rfl,d⟩;have f:=Lib.hid d;obtain⟨t,u⟩:=cC d;clear d)
   go_ret
   exact⟨dV (by rw[c.out]),((Below.refl _ _).alloc (Nat.le_refl _) _).trans (f.out.mono (by simp))⟩
 rw[if_neg i]at c
 have F:0≤q:=by omega
 have I:q≤4294967296:=by omega
 clear i
 go_enter Tryz.func19,Tryz.ntmps19
 go_wp2_with (go_at_call 60;refine((n _).out).mono ?_;rintro e v ⟨rfl,d⟩;have f:=Lib.hid d;obtain⟨t,u⟩:=cC d;clear d)
 go_ret
 exact⟨dV (by rw[c.out]),((Below.refl _ _).alloc (Nat.le_refl _) _).trans (f.out.mono (by simp))⟩
end
section
open Go.RowKit Go.ChangeShapes
def pn (evs:List Evt):Bool:=evs.all (fun e=>decide (e.cm.size≤100))
theorem qT {evs:List Evt} {k:Nat} {e:Evt} (h:evs[k]?=some e) (a:100<e.cm.size):pn evs=false:=by
 unfold pn
 rw[List.all_eq_false]
 exact⟨e,List.mem_of_getElem? h,by simp;omega⟩
theorem sE {evs:List Evt} {n:Nat} (c:evs.length=n) (h:∀ (j:Nat) e,j<n→evs[j]?=some e→e.cm.size≤100):pn evs=true:=by
 unfold pn
 rw[List.all_eq_true]
 intro e b
 obtain⟨j,a⟩:=List.mem_iff_getElem?.1 b
 have:=h j e (by have:=(List.getElem?_eq_some_iff.1 a).1;omega) a
 simpa using this
theorem FQ (A:Option Addr) (n c B:Nat) (evs:List Evt) (W:World) (h:Reads W B 7 A n (aG evs)) (hB:B≤W.heap.size) (hn:n≤9223372036854775807):Calls Tryz.prog 7 #[.slice A n c] W fun e w'=>e = .returned (.bool (pn evs))∧Below W.heap.size W w':=by
 have v:=Lib.hid h
 have w:=Lib.hid h.ev_len
 clear h
 go_enter Tryz.func7,Tryz.ntmps7
 go_wp2
 go_loopw [3] (fun i wr => ∃ (k:Nat),k≤n∧i = .int .i64 k∧Hid (∀ (j:Nat) e,j<k→evs[j]?=some e→e.cm.size≤100)∧W=wr) (fun i _=>n-(intOf i).toNat)
 case atStart=>exact⟨0,Nat.zero_le _,rfl,Lib.hid (fun j e q=>absurd q (by omega)),rfl⟩
 case round=>
  obtain⟨k,C,rfl,m,rfl⟩:=hrel
  by_cases g:k<n
  ·obtain⟨ad,e,rfl,D,r,y,z,s,G,u,t,x⟩:=zJ v.out g
   have p:=Lib.hid r
   have E:(0:Int)≤(k:Int):=by omega
   have F:(k:Int)<(n:Int):=by omega
   clear r y z s u t x
   by_cases o:100<e.cm.size
   ·have d:decide ((100:Int)<(e.cm.size:Int))=true:=by simp;omega
    have b:=Lib.hid (qT p.out o)
    go_wp2
    go_ret
    exact⟨bF b.out.symm,Below.refl _ _⟩
   ·have d:decide ((100:Int)<(e.cm.size:Int))=false:=by simp;omega
    have f:=Lib.hid (show ∀ (j:Nat) e,j<k+1→evs[j]?=some e→e.cm.size≤100 from fun j e' q a=>by
     by_cases l:j<k
     ·exact m.out j e' l a
     ·obtain rfl:j=k:=by omega
      rw[p.out]at a;injection a with a;subst a;omega)
    clear o
    go_wp2
    exact⟨⟨k+1,by omega,rfl,f,trivial⟩,by simp[intOf];omega⟩
  ·obtain rfl:n=k:=by omega
   have b:=Lib.hid (sE w.out m.out)
   go_wp2
   go_ret
   exact⟨bF b.out.symm,Below.refl _ _⟩
theorem FA (b c:Evt) (h:b≠c):b.q=c.q→b.a=c.a→b.k=c.k→b.cm.toList=c.cm.toList→b.x=c.x→b.y=c.y → ¬ b.z=c.z:=by
 intro l f j e g m i
 apply h
 rw[ByteArray.toList_eq,ByteArray.toList_eq]at e
 have d:b.cm=c.cm:=by cases hc:b.cm;cases hd:c.cm;rw[hc,hd]at e;congr 1;exact Array.toList_inj.1 e
 cases b;cases c;simp only at l f j d g m i;subst l f j d g m i;rfl
theorem xV (A:Option Addr) (n c B:Nat) (xs:List Evt) (Z:Option Addr) (c2:Nat) (ys:List Evt) (W:World) (R:Reads W B 7 A n (aG xs)) (l:Reads W B 7 Z n (aG ys)) (hB:B≤W.heap.size) (hn:n≤9223372036854775807):Calls Tryz.prog 16 #[.slice A n c,.slice Z n c2] W fun e w' => ∃ r,e = .returned (.bool r)∧(r=true ↔ xs=ys)∧Below W.heap.size W w':=by
 have HR:=Lib.hid R
 have M:=Lib.hid l
 have X:=Lib.hid R.ev_len
 have T:=Lib.hid l.ev_len
 clear R l
 have x0:((n:Int) != (n:Int))=false:=by simp
 have E:=Lib.hid (Kept.start W)
 go_enter Tryz.func16,Tryz.ntmps16
 go_wp2
 clear x0
 go_loopw [5] (fun i wr => ∃ (k:Nat),k≤n∧i = .int .i64 k∧Hid (∀ (j:Nat) e,j<k→xs[j]?=some e→ys[j]?=some e)∧Hid (Kept W wr [])) (fun i _=>n-(intOf i).toNat)
 case atStart=>exact⟨0,Nat.zero_le _,rfl,Lib.hid (fun j e z=>absurd z (by omega)),E⟩
 case round=>
  clear E
  obtain⟨k,hk,rfl,HS,I⟩:=hrel
  by_cases C:k<n
  ·obtain⟨ad,e1,rfl,ac,D,J,U,V,Y,Q,K,P⟩:=zJ HR.out C
   obtain⟨d,e2,rfl,ab,F,g,t,u,w,q,m,o⟩:=zJ M.out C
   have G:=Lib.hid D
   have y:=Lib.hid F
   clear D F
   have i1:(0:Int)≤(k:Int):=by omega
   have i2:(k:Int)<(n:Int):=by omega
   have x:(ad.add (k*7)).block<W.heap.size:=World.block_lt_of_cell? W _ J
   have f:(d.add (k*7)).block<W.heap.size:=World.block_lt_of_cell? W _ g
   go_wp2_with fail
   refine wp_region_noPanic ?_
   refine wp_region_held_drew (S:=fun W'=>Kept W W' []) (by kernel_rfl) I.out.drew (fun a=>?_)
   refine tS 0 a ?_
   refine tS 1 a ?_
   refine tS 2 a ?_
   refine tS 3 a ?_ (hy:=by(intro W b;(try dsimp only at b);have q0:=(b.bel.cell (p:=(ad.add (k*7))) x).trans J;have q1:=(b.bel.cell (p:=⟨(ad.add (k*7)).block,(ad.add (k*7)).off+1,none⟩) x).trans U;have q2:=(b.bel.cell (p:=⟨(ad.add (k*7)).block,(ad.add (k*7)).off+2,none⟩) x).trans V;have q3:=(b.bel.cell (p:=⟨(ad.add (k*7)).block,(ad.add (k*7)).off+3,none⟩) x).trans Y;have q4:=(b.bel.cell (p:=⟨(ad.add (k*7)).block,(ad.add (k*7)).off+4,none⟩) x).trans Q;have q5:=(b.bel.cell (p:=⟨(ad.add (k*7)).block,(ad.add (k*7)).off+5,none⟩) x).trans K;have q6:=(b.bel.cell (p:=⟨(ad.add (k*7)).block,(ad.add (k*7)).off+6,none⟩) x).trans P;go_simp;try with_reducible rfl))
   refine tS 4 a ?_
   refine tS 5 a ?_
   refine tS 6 a ?_
   refine tS 7 a ?_ (hy:=by(intro W b;(try dsimp only at b);have q0:=(b.bel.cell (p:=(d.add (k*7))) f).trans g;have q1:=(b.bel.cell (p:=⟨(d.add (k*7)).block,(d.add (k*7)).off+1,none⟩) f).trans t;have q2:=(b.bel.cell (p:=⟨(d.add (k*7)).block,(d.add (k*7)).off+2,none⟩) f).trans u;have q3:=(b.bel.cell (p:=⟨(d.add (k*7)).block,(d.add (k*7)).off+3,none⟩) f).trans w;have q4:=(b.bel.cell (p:=⟨(d.add (k*7)).block,(d.add (k*7)).off+4,none⟩) f).trans q;have q5:=(b.bel.cell (p:=⟨(d.add (k*7)).block,(d.add (k*7)).off+5,none⟩) f).trans m;have q6:=(b.bel.cell (p:=⟨(d.add (k*7)).block,(d.add (k*7)).off+6,none⟩) f).trans o;go_simp;try with_reducible rfl))
   by_cases s:e1=e2
   ·subst s
    refine tS 8 a ?_
    refine wpAnyH_done (by kernel_rfl) ?_ _
    refine NoPanic.normal ?_
    have L:=Lib.hid (show ∀ (j:Nat) e,j<k+1→xs[j]?=some e→ys[j]?=some e from fun j e z H=>by
     by_cases O:j<k
     ·exact HS.out j e O H
     ·obtain rfl:j=k:=by omega
      rw[G.out]at H;injection H with H;subst H;exact y.out)
    have N:=Lib.hid a
    clear a I J U V Y Q K P g t u w q m o
    go_wp2
    exact⟨⟨k+1,by omega,rfl,L,N⟩,by simp[intOf];omega⟩
   ·refine ak 8 (v := .bool true) rfl (by kernel_rfl) (by kernel_rfl) (by kernel_rfl) rfl (fun _ _ _ h=>h) (Or.inl ⟨by rfl,?y8u15⟩) a ?r8u15
    case y8u15=>(intro W b;(try dsimp only at b);go_simp;exact FA e1 e2 s)
    simp only[Act.put,sI,sZ,sS]
    refine wpAnyH_done (by kernel_rfl) ?_ _
    refine NoPanic.normal ?_
    clear I J U V Y Q K P g t u w q m o
    go_wp2
    go_ret
    exact⟨false,rfl,by constructor;(intro h;cases h);(intro h;subst h;rw[G.out]at y;exact absurd (Option.some.inj y.out) s),a.bel⟩
  ·obtain rfl:n=k:=by omega
   have HE:=Lib.hid (show xs=ys from by
    apply List.ext_getElem?
    intro j
    by_cases z:j<n
    ·rw[HS.out j _ z (List.getElem?_eq_getElem (by rw[X.out];exact z)),List.getElem?_eq_getElem (by rw[X.out];exact z)]
    ·rw[List.getElem?_eq_none (by rw[X.out];omega),List.getElem?_eq_none (by rw[T.out];omega)])
   go_wp2
   go_ret
   exact⟨true,rfl,⟨fun _=>HE.out,fun _=>rfl⟩,I.out.bel⟩
theorem zW (A:Option Addr) (n c B:Nat) (xs:List Evt) (f:Option Addr) (b g:Nat) (ys:List Evt) (W:World) (d:Reads W B 7 A n (aG xs)) (a:Reads W B 7 f b (aG ys)) (hB:B≤W.heap.size) (hn:n≤9223372036854775807) (i:b≤9223372036854775807):Calls Tryz.prog 16 #[.slice A n c,.slice f b g] W fun e w' => ∃ r,e = .returned (.bool r)∧(r=true ↔ xs=ys)∧Below W.heap.size W w':=by
 by_cases h:n=b
 ·subst h
  exact xV A n c B xs f g ys W d a hB hn
 ·have k:((n:Int) != (b:Int))=true:=by rw[bne_iff_ne];omega
  have j:=Lib.hid (show ¬ xs=ys from by intro e;subst e;exact h (d.ev_len.symm.trans a.ev_len))
  clear d a
  go_enter Tryz.func16,Tryz.ntmps16
  go_wp2
  go_ret
  exact⟨false,rfl,⟨fun h=>(by cases h),fun h=>absurd h j.out⟩,Below.refl _ _⟩
end
section
open Go.RowKit Go.Shelf
attribute [local go_sem] Oper.semAt_some
theorem ot {w:World} {b:Nat} {C:Array Value} {t:TypeId} {fr:Nat×Nat} (h:w.heap[b]?=some (.cells C t fr)) (off:Nat):w.cell? ⟨b,off,none⟩=C[off]?:=by simp[World.cell?,h]
set_option maxHeartbeats 2000000 in
theorem El {A:Option Addr} {c:Nat} (F:Fence) (n:Nat) (f:F.fn 144) (a:F.round=none) (l b:Nat) (W:World) (d:W.cell? ⟨b,0,none⟩=some (.slice A 0 c)):
 CallsIn F n Tryz.prog 144 #[.func (.yield l) #[] #[],.pointer (some ⟨b,0,none⟩)] W fun e W'=>(∃ v,e = .returned v)∧W'=W:=by
 refine callsIn_of_wp Tryz.func144 rfl f ?_ a
 simp only[Tryz.ntmps144,List.size_toArray,List.length_cons,List.length_nil,Nat.reduceAdd,Nat.reduceSub,Array.replicate_succ,Array.replicate_zero,List.push_toArray,List.append_toArray,List.nil_append,List.cons_append]
 gi_wp2
 gi_loopw [3] (fun i wr=>i = .int .i64 (-1)∧wr=W) (fun i _=>(intOf i+1).toNat)
 case atStart=>exact⟨rfl,rfl⟩
 case round=>
  obtain⟨rfl,rfl⟩:=hrel
  gi_wp2
  go_end0
  exact⟨⟨_,rfl⟩,rfl⟩
theorem vz (A:Option Addr) (len cap:Nat) (w:World):
 Calls Tryz.prog 78 #[.slice A len cap] w fun e w'=>e = .returned (.func (.func 144) #[] #[.pointer (some ⟨w.heap.size,0,none⟩)])∧w'=w.alloc (.cells #[.slice A len cap] 32):=by
 go_enter Tryz.func78,Tryz.ntmps78
 go_wp2
 go_ret
 exact⟨rfl,rfl⟩
theorem DD {A:Option Addr} {c:Nat} (F:Fence) (n:Nat) (g:F.fn 144) (b:F.round=none) (a:Nat) (w:World) (d:a<w.heap.size) (f:w.cell? ⟨a,0,none⟩=some (.slice A 0 c)) (encs:Empty→Array Value):
 SeqStopsK F n Tryz.prog 144 #[.pointer (some ⟨a,0,none⟩)] encs (fun _ _=>True) (fun ys=>ys = []) (fun _=>False) 0 w:=fun l J j W hW _ _ hY i=>
 (El F n g b l a W ((hW.cell (p:=⟨a,0,none⟩) d).trans f)).mono (by
  rintro e W' ⟨h,rfl⟩
  exact⟨h,.inl ⟨[],rfl,i⟩⟩)
set_option maxHeartbeats 2000000 in
theorem ER {A:Option Addr} {c:Nat} (F:Fence) (n:Nat) (f:F.fn 146) (a:F.round=none) (l b:Nat) (W:World) (d:W.cell? ⟨b,0,none⟩=some (.slice A 0 c)):
 CallsIn F n Tryz.prog 146 #[.func (.yield l) #[] #[],.pointer (some ⟨b,0,none⟩)] W fun e W'=>(∃ v,e = .returned v)∧W'=W:=by
 refine callsIn_of_wp Tryz.func146 rfl f ?_ a
 simp only[Tryz.ntmps146,List.size_toArray,List.length_cons,List.length_nil,Nat.reduceAdd,Nat.reduceSub,Array.replicate_succ,Array.replicate_zero,List.push_toArray,List.append_toArray,List.nil_append,List.cons_append]
 gi_wp2
 gi_loopw [3] (fun i wr=>i = .int .i64 (-1)∧wr=W) (fun i _=>(intOf i+1).toNat)
 case atStart=>exact⟨rfl,rfl⟩
 case round=>
  obtain⟨rfl,rfl⟩:=hrel
  gi_wp2
  go_end0
  exact⟨⟨_,rfl⟩,rfl⟩
theorem uR (A:Option Addr) (len cap:Nat) (w:World):
 Calls Tryz.prog 80 #[.slice A len cap] w fun e w'=>e = .returned (.func (.func 146) #[] #[.pointer (some ⟨w.heap.size,0,none⟩)])∧w'=w.alloc (.cells #[.slice A len cap] 75):=by
 go_enter Tryz.func80,Tryz.ntmps80
 go_wp2
 go_ret
 exact⟨rfl,rfl⟩
theorem Ea {A:Option Addr} {c:Nat} (F:Fence) (n:Nat) (g:F.fn 146) (b:F.round=none) (a:Nat) (w:World) (d:a<w.heap.size) (f:w.cell? ⟨a,0,none⟩=some (.slice A 0 c)) (encs:Empty→Array Value):
 SeqStopsK F n Tryz.prog 146 #[.pointer (some ⟨a,0,none⟩)] encs (fun _ _=>True) (fun ys=>ys = []) (fun _=>False) 0 w:=fun l J j W hW _ _ hY i=>
 (ER F n g b l a W ((hW.cell (p:=⟨a,0,none⟩) d).trans f)).mono (by
  rintro e W' ⟨h,rfl⟩
  exact⟨h,.inl ⟨[],rfl,i⟩⟩)
set_option maxHeartbeats 4000000 in
theorem Fi (B:Option Addr) (bc:Nat) (O:Option Addr) (a:Nat) (rest:List Value) (w:World):Calls Tryz.prog 30 #[.agg ⟨.slice B 0 bc :: .slice O 0 a::rest⟩] w fun e w'=>e = .returned (.slice none 0 0)∧Below w.heap.size w w':=by
 refine(callsIn_wide (n:=5)).1 ?_
 refine callsIn_of_wp_marks Tryz.func30 rfl trivial ?_ rfl
 simp only[Tryz.ntmps30,List.size_toArray,List.length_cons,List.length_nil,Nat.reduceAdd,Nat.reduceSub,Array.replicate_succ,Array.replicate_zero,List.push_toArray,List.append_toArray,List.nil_append,List.cons_append]
 gi_wp2_with fail
 refine⟨trivial,?_⟩
 refine(callsIn_wide.2 (vz O 0 a _)).mono ?_
 rintro e L ⟨rfl,rfl⟩
 have c0:((w.alloc (.cells ⟨.slice B 0 bc :: .slice O 0 a::rest⟩ 77)).alloc (.cells #[.slice none 0 0] 80)).cell? ⟨w.heap.size,0,none⟩=some (.slice B 0 bc):=by
  rw[World.cell?_alloc_lt _ _ _ (by simp)];exact(ot (World.alloc_heap_new w _) 0).trans rfl
 have E:((w.alloc (.cells ⟨.slice B 0 bc :: .slice O 0 a::rest⟩ 77)).alloc (.cells #[.slice none 0 0] 80)).cell? ⟨w.heap.size,1,none⟩=some (.slice O 0 a):=by
  rw[World.cell?_alloc_lt _ _ _ (by simp)];exact(ot (World.alloc_heap_new w _) 1).trans rfl
 have F:((w.alloc (.cells ⟨.slice B 0 bc :: .slice O 0 a::rest⟩ 77)).alloc (.cells #[.slice none 0 0] 80)).cell? ⟨w.heap.size+1,0,none⟩=some (.slice none 0 0):=by
  have h:=ot (World.alloc_heap_new (w.alloc (.cells ⟨.slice B 0 bc :: .slice O 0 a::rest⟩ 77)) (.cells #[.slice none 0 0] 80)) 0
  rw[World.size_alloc]at h
  exact h.trans rfl
 have q:Below w.heap.size w ((w.alloc (.cells ⟨.slice B 0 bc :: .slice O 0 a::rest⟩ 77)).alloc (.cells #[.slice none 0 0] 80)):=((Below.refl _ w).alloc (Nat.le_refl _) _).alloc (by simp) _
 have g:((w.alloc (.cells ⟨.slice B 0 bc :: .slice O 0 a::rest⟩ 77)).alloc (.cells #[.slice none 0 0] 80)).heap.size=w.heap.size+2:=by simp
 generalize (w.alloc (.cells ⟨.slice B 0 bc :: .slice O 0 a::rest⟩ 77)).alloc (.cells #[.slice none 0 0] 80)=r at *
 gi_wp2_with fail
 refine wpIn_rangeFunc_ownF (α:=Empty) rfl (by omega) (gf:=144) (lb:=#[.pointer (some ⟨w.heap.size+2,0,none⟩)]) rfl trivial (enters_of Tryz.func144 (by kernel_rfl) rfl)
  (DD Fence.wide 4 trivial rfl (w.heap.size+2) (r.alloc (.cells #[.slice O 0 a] 32)) (by simp[g]) (by have h:=ot (World.alloc_heap_new r (.cells #[.slice O 0 a] 32)) 0;rw[g]at h;exact h.trans rfl) (fun x=>x.elim)) (fun _ _=>trivial) (fun _ _ _ _ _ _ _ _=>trivial) (Below.refl _ _) (fun x=>x.elim)
  (fun _ W=>(W.cell? ⟨w.heap.size,0,none⟩=some (.slice B 0 bc)∧W.cell? ⟨w.heap.size,1,none⟩=some (.slice O 0 a)∧W.cell? ⟨w.heap.size+1,0,none⟩=some (.slice none 0 0))∧Below w.heap.size w W)
  (fun _ _ _=>False)
  (OwnFrom.and (Own.from (fun s A B row f z y=>⟨cell_kept f.1 z y,cell_kept f.2.1 z y,cell_kept f.2.2 z y⟩) _) (ownFrom_below (Nat.le_refl _) (by simp;omega)))
  (fun _ _ _ _ _ f _ _=>f)
  ⟨⟨(World.cell?_alloc_lt _ _ _ (by simp;omega)).trans c0,(World.cell?_alloc_lt _ _ _ (by simp;omega)).trans E,(World.cell?_alloc_lt _ _ _ (by simp;omega)).trans F⟩,q.alloc (by omega) _⟩
  (fun x=>x.elim) ?assign ?body ?done ?stop
 case assign=>exact fun _ x=>x.elim
 case body=>exact fun _ _ x=>x.elim
 case stop=>rintro D c pre W _ _ h _;exact h.elim
 case done=>
  rintro D ys W hD rfl ⟨⟨i,C,k⟩,d⟩ hK
  have I:w.heap.size+3≤D:=by simpa [g] using hD
  clear c0 E F q
  gi_wp2_with fail
  have o:D<W.heap.size:=by
   have:=(Array.getElem?_eq_some_iff.1 hK).1
   exact this
  refine⟨trivial,?_⟩
  refine(callsIn_wide.2 (uR B 0 bc _)).mono ?_
  rintro e K ⟨rfl,rfl⟩
  gi_wp2_with fail
  refine wpIn_rangeFunc_ownF (α:=Empty) rfl (by omega) (gf:=146) (lb:=#[.pointer (some ⟨W.heap.size,0,none⟩)]) rfl trivial (enters_of Tryz.func146 (by kernel_rfl) rfl)
   (Ea Fence.wide 4 trivial rfl W.heap.size (W.alloc (.cells #[.slice B 0 bc] 75)) (by simp) ((ot (World.alloc_heap_new W _) 0).trans rfl) (fun x=>x.elim)) (fun _ _=>trivial) (fun _ _ _ _ _ _ _ _=>trivial) (Below.refl _ _) (fun x=>x.elim)
   (fun _ W'=>Below (W.alloc (.cells #[.slice B 0 bc] 75)).heap.size (W.alloc (.cells #[.slice B 0 bc] 75)) W')
   (fun _ _ _=>False)
   (ownFrom_below (Nat.le_refl _) (Nat.le_refl _))
   (fun _ _ _ _ _ f _ _=>f)
   (Below.refl _ _)
   (fun x=>x.elim) ?assign ?body ?done ?stop
  case assign=>exact fun _ x=>x.elim
  case body=>exact fun _ _ x=>x.elim
  case stop=>rintro D c pre W _ _ h _;exact h.elim
  case done=>
   rintro D2 ys W2 l rfl b m
   have t:Below w.heap.size w W2:=d.trans (((Below.refl _ W).alloc (Nat.le_refl _) _).mono d.size |>.trans (b.mono (by simp;omega)))
   have M:W2.cell? ⟨w.heap.size,0,none⟩=some (.slice B 0 bc):=(b.cell (p:=⟨w.heap.size,0,none⟩) (by simp;omega)).trans ((World.cell?_alloc_lt _ _ _ (by simp;omega)).trans i)
   have J:W2.cell? ⟨w.heap.size+1,0,none⟩=some (.slice none 0 0):=(b.cell (p:=⟨w.heap.size+1,0,none⟩) (by simp;omega)).trans ((World.cell?_alloc_lt _ _ _ (by simp;omega)).trans k)
   have j:W2.heap[D]?=some (.deferred (some [])):=(b.block D (by simp;omega)).trans ((Below.heap_alloc _ _ _ (by omega)).trans hK)
   have H:D<D2:=by simp at l;omega
   clear i C k hK b d
   gi_wp2_with fail
   have u:W.heap.size≤D2:=by simp at l;omega
   have v:=belowK_b (n₀:=W.heap.size) (w:=W) (Nat.le_refl _) W2 D2 (.deferred (some [])) (.deferred none) u m rfl rfl
   have G:=belowK_b (n₀:=r.heap.size) (w:=r) (Nat.le_refl _) (W2.putObj D2 (.deferred none)) D (.deferred (some [])) (.deferred none) (by omega) ((v.block D o).trans j) rfl rfl
   refine⟨by simp,.inl ⟨_,_,rfl,run_takeDeferred m,?_⟩⟩
   refine⟨by simp,.inl ⟨_,_,rfl,run_takeDeferred ((v.block D o).trans j),?_⟩⟩
   refine⟨.slice none 0 0,?_,rfl,t.trans ((v.mono (by omega)).trans (G.mono (by omega)))⟩
   simp[results,Tryz.results30,go_sem]
end
end Go.Proofs.YtpokkciheejeiaaGreatDoor
