/- Lemmas and contracts that the proof of TopSegments uses, part 3 of 14: each is a theorem for every input that its premises allow. -/
import Derived.LoopN
import Derived.Deep.QuietTactic
import Derived.BigQuiet
import Derived.Laws.IdiomStrings
import Derived.Lib.BufferRead
import Derived.Lib.SlBytesConst
import Derived.WalkLawsBesides
import Derived.WalkSpells
import Derived.Deep.DeepMust
import Derived.Outline
import Derived.Test.YtpokkciheejeiaaGreatDoorRows
import Derived.Lib.AppendStr
import Derived.StillTailTactics
import Derived.Deep.RegionHeld3
import Derived.Test.YtpokkciheejeiaaGreatDoorTsB
set_option linter.unusedVariables false
set_option linter.unusedSimpArgs false
set_option maxRecDepth 100000
namespace Go.Proofs.YtpokkciheejeiaaGreatDoor
section
open Go.RowKit Go.Maps Go.WideMaps
theorem bF {a b:Bool} (h:a=b):Ending.returned (.bool a) = .returned (.bool b):=by rw[h]
theorem dV {k:IntKind} {a b:Int} (h:a=b):Ending.returned (.int k a) = .returned (.int k b):=by rw[h]
theorem gQ (s:ByteArray) (w:World) (b:s.size≤maxLen):Calls Tryz.prog 58 #[.string s] w fun e w'=>e = .returned (.bool (cE s.data.toList))∧w=w':=by
 unfold maxLen at b
 have a:s.data.toList.length=s.size:=rfl
 have c:=Lib.hid a;clear a
 go_enter Tryz.func58,Tryz.ntmps58
 go_wp2
 all_goals
  go_ret
  refine⟨bF ?_,rfl⟩
  unfold cE
  rw[c.out]
  first | (rw[Bool.eq_iff_iff];simp;omega) | (simp;omega)
theorem mI (A:Option Addr) (n c B:Nat) (ss:List ByteArray) (s:ByteArray) (w:World) (o:Reads w B 1 A n (ss.map Value.string)) (hB:B≤w.heap.size) (hn:n≤1000000) (d:∀ s ∈ ss,s.size≤maxLen) (q:s.size≤maxLen):
 Calls Tryz.prog 192 #[.slice A n c,.string s] w fun e w'=>e = .returned (.int .i64 (placeOf (lists ss) s.data.toList))∧Below w.heap.size w w':=by
 have b:Hid (keyOf Tryz.prog 9 (.string s)=some (.string s.data.toList)):=keyOf_string_mk Tryz.underlying9 q
 have h:=fun W=>Lib.hid (sF A n c B ss W)
 go_enter Tryz.func192,Tryz.ntmps192
 go_wp2_with fail
 refine((h _).out o hB hn d).mono ?_
 rintro e t ⟨rfl,l,k⟩
 obtain⟨D,g,m,f,_⟩:=l
 have p:=Lib.hid (f s.data.toList)
 have j:=Lib.hid g
 clear g m f
 go_wp2_with (at_lookup;go_must (refine wpList_lookup_own_int _ rfl _ _ 313 rfl 9 3 .i64 pL Tryz.underlying313 Tryz.underlying3 (qJ _) w.heap.size _ D rfl j.out _ _ rfl b.out ?_);intro u a r;have i:=Lib.hid a;clear a)
 go_ret
 refine⟨dV ?_,k⟩
 have:=p.out.symm.trans i.out
 injection this with this
 injection this with _ this
 exact this.symm
end
section
open Go.RowKit
theorem zR (A:Option Addr) (a:Nat) (w:World):Calls Tryz.prog 246 #[.agg #[.int .i64 0,.int .i64 0,.slice A 0 a]] w fun e w'=>e = .returned (.bool true)∧Below w.heap.size w w':=by
 go_enter Tryz.func246,Tryz.ntmps246
 go_wp2
 go_ret
 exact⟨rfl,(Below.refl _ _).alloc (Nat.le_refl _) _⟩
theorem FR (f:Nat→Int) (k:Nat) (a:k<3) (w:World):(Instr.index 93 (.agg #[.int .i64 (f 0),.int .i64 (f 1),.int .i64 (f 2)]) (.int .i64 (k:Int))).run Tryz.prog w = .ok (.int .i64 (f k)) w:=by
 rcases(by omega:k=0∨k=1∨k=2) with rfl | rfl | rfl
 all_goals kernel_rfl
theorem Df {f:Nat→Int} (b:aY (f 0)=true) (d:aY (f 1)=true) (a:aY (f 2)=true) (k:Nat) (c:k<3):(f k != hold (f k))=false:=by
 rw[bne_eq_false_iff_eq,←beq_iff_eq,rS]
 rcases(by omega:k=0∨k=1∨k=2) with rfl | rfl | rfl<;>assumption
theorem ug {nm:ByteArray} (b:1≤nm.size) (a:nm.size≤24):cE nm.data.toList=true:=by
 unfold cE
 rw[decide_eq_true_eq,Array.length_toList]
 exact⟨b,a⟩
theorem oR:(Tryz.prog.info? 2).map (fun i=>(i.zero,i.size,i.bytes))=some (some (.int .i64 0),1,8):=by kernel_rfl
theorem og (d:Nat) (f:Nat→Int) (w:World):(Op.equalIn (d+2) 88 (.agg #[.int .i64 (f 0),.int .i64 (f 1),.int .i64 (f 2),.int .i64 (f 3),.int .i64 (f 4),.int .i64 (f 5),.int .i64 (f 6),.int .i64 (f 7),.int .i64 (f 8)]) (.agg #[.int .i64 (f 0),.int .i64 (f 1),.int .i64 (f 2),.int .i64 (f 3),.int .i64 (f 4),.int .i64 (f 5),.int .i64 (f 6),.int .i64 (f 7),.int .i64 (f 8)])).run Tryz.prog w = .ok true w:=by
 obtain⟨b,a,_⟩:=info_parts oR
 have hC:Tryz.prog.cellsOf 2=1:=by kernel_rfl
 rw[run_equalIn_array w (d+1) _ _ Tryz.underlying88 a]
 simp[Op.eqItems,List.range,List.range.loop,go_sem,hC,run_equalIn_int _ d 2 .i64 .i64 _ _ Tryz.underlying2]
theorem wS (d:Nat) (f:Nat→Int) (w:World):(Op.equalIn (d+2) 93 (.agg #[.int .i64 (f 0),.int .i64 (f 1),.int .i64 (f 2)]) (.agg #[.int .i64 (f 0),.int .i64 (f 1),.int .i64 (f 2)])).run Tryz.prog w = .ok true w:=by
 obtain⟨b,a,_⟩:=info_parts oR
 have hC:Tryz.prog.cellsOf 2=1:=by kernel_rfl
 rw[run_equalIn_array w (d+1) _ _ Tryz.underlying93 a]
 simp[Op.eqItems,List.range,List.range.loop,go_sem,hC,run_equalIn_int _ d 2 .i64 .i64 _ _ Tryz.underlying2]
set_option maxHeartbeats 1000000 in
theorem fX (c:Cmp) (A:Option Addr) (n E:Nat) (X:List Nat) (w:World) (hX:XOk X w) (g:aa w X A n c.cells) (l:dr c):
 Calls Tryz.prog 196 #[.agg (aL c A n E).toArray] w fun e w'=>e = .returned (.bool true)∧Below w.heap.size w w':=by
 obtain⟨nm,role,mode,wd,sl,cells,h,F,room,has,G⟩:=c
 obtain⟨⟨z,H⟩,⟨j,t,u⟩,x⟩:=l
 simp only at z H j t u x g
 simp only[aL]
 have p:=ug z H
 have q:nm.size≤maxLen:=by unfold maxLen;omega
 have L:=Lib.hid x
 have o:=Lib.hid g.1
 go_enter Tryz.func196,Tryz.ntmps196
 go_wp2_with fail
 refine(hstart hX).cl fun W K=>?_
 have K:=K.k0 (f:=aa.fact A n cells) g
 clear g x
 refine(gQ nm _ q).mono ?_
 rw[p]
 rintro e O ⟨rfl,rfl⟩
 have c0:=K.r 0 rfl
 go_wp2
 clear c0
 have HI:=fun k B W=>Lib.hid (FR G k B W)
 have I:=Lib.hid (Df j t u)
 clear j t u
 go_loop [11] (fun i => ∃ k:Nat,k≤3∧i = .int .i64 k) (fun i=>3-(intOf i).toNat)
 case atStart=>exact⟨0,Nat.zero_le _,rfl⟩
 case round=>
  obtain⟨k,B,rfl⟩:=hrel
  by_cases d:k<3
  ·have hidx:=fun W=>(HI k d W).out
   have y:=I.out k d
   generalize G k=v at hidx y
   go_wp2_with (go_at_call 244;refine(nu _ _).mono ?_;rintro e w' ⟨rfl,rfl⟩)
   go_round
   case rel=>exact⟨k+1,by omega,by go_num⟩
   case measure=>simp[intOf];omega
  ·obtain rfl:k=3:=by omega
   have c0:=K.r 0 rfl
   rcases L.out with⟨rfl,J,N,s,hh,rfl,rfl⟩ | ⟨rfl,rfl,rfl,rfl,rfl,D,rfl,a⟩ | ⟨rfl,J,N,rfl,rfl,rfl,hh,a⟩
   ·have C:n≤16:=by have:=aZ s;have:=o.out;omega
    have M:=Lib.hid s;have HH:=Lib.hid hh
    clear s hh
    go_wp2_with fail
    refine K.cl fun W K=>?_
    clear c0
    refine(tP wd sl A n E W.heap.size cells W (K.fa 0 rfl).rd (Nat.le_refl _) (by omega)).mono ?_
    rw[M.out]
    rintro e b ⟨rfl,a⟩
    have K:=K.on a
    clear a
    have c0:=K.r 0 rfl
    go_wp2_with fail
    refine K.cl fun W K=>?_
    clear c0
    refine(eK h F _).mono ?_
    rw[HH.out]
    rintro e b ⟨rfl,a⟩
    have K:=K.on a
    clear a
    have c0:=K.r 0 rfl
    go_wp2
    go_ret
    exact⟨rfl,K.below⟩
   ·obtain rfl:h=fun _=>0:=funext D
    have m:=Lib.hid a
    obtain rfl:n=0:=o.out
    have hA:=fun W=>og 9997 (fun _=>0) W
    simp only[Nat.reduceAdd]at hA
    clear a D
    go_wp2_with fail
    refine K.cl fun W K=>?_
    clear c0
    refine(zR _ _ _).mono ?_
    rintro e b ⟨rfl,a⟩
    have K:=K.on a
    clear a
    have c0:=K.r 0 rfl
    go_wp2_with fail
    refine K.cl fun W K=>?_
    clear c0
    refine(jU _ _ _).mono ?_
    rw[m.out]
    rintro e b ⟨rfl,a⟩
    have K:=K.on a
    go_wp2
    go_ret
    exact⟨rfl,K.below⟩
   ·have m:=Lib.hid a;have HH:=Lib.hid hh
    obtain rfl:n=0:=o.out
    clear a hh
    go_wp2_with fail
    refine K.cl fun W K=>?_
    clear c0
    refine(zR _ _ _).mono ?_
    rintro e b ⟨rfl,a⟩
    have K:=K.on a
    clear a
    have c0:=K.r 0 rfl
    go_wp2_with fail
    refine K.cl fun W K=>?_
    clear c0
    refine(eK h F _).mono ?_
    rw[HH.out]
    rintro e b ⟨rfl,a⟩
    have K:=K.on a
    clear a
    have c0:=K.r 0 rfl
    go_wp2_with fail
    refine K.cl fun W K=>?_
    clear c0
    refine(jU _ _ _).mono ?_
    rw[m.out]
    rintro e b ⟨rfl,a⟩
    have K:=K.on a
    go_wp2
    go_ret
    exact⟨rfl,K.below⟩
end
section
open Go.RowKit
theorem vC (k:Int) (w:World):Calls Tryz.prog 57 #[.int .i64 k] w fun e w'=>e = .returned (.int .i64 (cu k))∧w=w':=by
 by_cases f:k<1
 ·go_enter Tryz.func57,Tryz.ntmps57
  go_wp2
  go_ret
  exact⟨dV (by unfold cu;rw[if_pos (.inl f)];rfl),rfl⟩
 by_cases d:10<k
 ·go_enter Tryz.func57,Tryz.ntmps57
  go_wp2
  go_ret
  exact⟨dV (by unfold cu;rw[if_pos (.inr d)];rfl),rfl⟩
 by_cases b:k=2
 ·subst b
  go_enter Tryz.func57,Tryz.ntmps57
  go_wp2
  go_ret
  exact⟨rfl,rfl⟩
 by_cases a:k=3
 ·subst a
  go_enter Tryz.func57,Tryz.ntmps57
  go_wp2
  go_ret
  exact⟨rfl,rfl⟩
 have h:(k == 2)=false:=by rw[beq_eq_false_iff_ne];exact b
 have g:(k == 3)=false:=by rw[beq_eq_false_iff_ne];exact a
 have c:=Lib.hid (show cu k=1 from by unfold cu;rw[if_neg (by omega),if_neg b,if_neg a])
 clear b a
 go_enter Tryz.func57,Tryz.ntmps57
 go_wp2
 go_ret
 exact⟨dV (by rw[c.out];rfl),rfl⟩
def oS (n:Int):Bool:=decide (0≤n)&&decide (n≤2147483647)
theorem uD (n:Int) (w:World):Calls Tryz.prog 124 #[.int .i64 n] w fun e w'=>e = .returned (.bool (oS n))∧w=w':=by
 by_cases a:0≤n
 ·go_enter Tryz.func124,Tryz.ntmps124
  go_wp2
  go_ret
  exact⟨bF (by unfold oS;rw[decide_eq_true a];simp),rfl⟩
 ·have b:n<0:=by omega
  go_enter Tryz.func124,Tryz.ntmps124
  go_wp2
  go_ret
  exact⟨bF (by unfold oS;rw[decide_eq_false (by omega)];rfl),rfl⟩
theorem mY (k:Int) (w:World):Calls Tryz.prog 214 #[.int .i64 k] w fun e w'=>e = .returned (.int .i64 (bD k))∧w=w':=by
 by_cases a:k=1∨k=2∨k=3∨k=4∨k=5∨k=6∨k=7∨k=8∨k=9∨k=10
 ·rcases a with rfl | rfl | rfl | rfl | rfl | rfl | rfl | rfl | rfl | rfl <;>
  (go_enter Tryz.func214,Tryz.ntmps214
   go_wp2
   go_ret
   exact⟨rfl,rfl⟩)
 ·have g:(k == 1)=false:=by rw[beq_eq_false_iff_ne];omega
  have d:(k == 2)=false:=by rw[beq_eq_false_iff_ne];omega
  have l:(k == 3)=false:=by rw[beq_eq_false_iff_ne];omega
  have j:(k == 4)=false:=by rw[beq_eq_false_iff_ne];omega
  have h:(k == 5)=false:=by rw[beq_eq_false_iff_ne];omega
  have i:(k == 6)=false:=by rw[beq_eq_false_iff_ne];omega
  have n:(k == 7)=false:=by rw[beq_eq_false_iff_ne];omega
  have f:(k == 8)=false:=by rw[beq_eq_false_iff_ne];omega
  have m:(k == 9)=false:=by rw[beq_eq_false_iff_ne];omega
  have c:(k == 10)=false:=by rw[beq_eq_false_iff_ne];omega
  have b:=Lib.hid (show bD k = -1 from by unfold bD;rw[if_neg (by omega),if_neg (by omega),if_neg (by omega),if_neg (by omega)])
  clear a
  go_enter Tryz.func214,Tryz.ntmps214
  go_wp2
  go_ret
  exact⟨dV (by rw[b.out]),rfl⟩
theorem rJ (k:Int) (w:World):Calls Tryz.prog 150 #[.int .i64 k] w fun e w'=>e = .returned (.int .i64 (bD k))∧w=w':=by
 by_cases a:k=1∨k=2∨k=3∨k=4∨k=5∨k=6∨k=7∨k=8∨k=9∨k=10
 ·rcases a with rfl | rfl | rfl | rfl | rfl | rfl | rfl | rfl | rfl | rfl <;>
  (go_enter Tryz.func150,Tryz.ntmps150
   go_wp2
   go_ret
   exact⟨rfl,rfl⟩)
 ·have g:(k == 1)=false:=by rw[beq_eq_false_iff_ne];omega
  have d:(k == 2)=false:=by rw[beq_eq_false_iff_ne];omega
  have l:(k == 3)=false:=by rw[beq_eq_false_iff_ne];omega
  have j:(k == 4)=false:=by rw[beq_eq_false_iff_ne];omega
  have h:(k == 5)=false:=by rw[beq_eq_false_iff_ne];omega
  have i:(k == 6)=false:=by rw[beq_eq_false_iff_ne];omega
  have n:(k == 7)=false:=by rw[beq_eq_false_iff_ne];omega
  have f:(k == 8)=false:=by rw[beq_eq_false_iff_ne];omega
  have m:(k == 9)=false:=by rw[beq_eq_false_iff_ne];omega
  have c:(k == 10)=false:=by rw[beq_eq_false_iff_ne];omega
  have b:=Lib.hid (show bD k = -1 from by unfold bD;rw[if_neg (by omega),if_neg (by omega),if_neg (by omega),if_neg (by omega)])
  clear a
  go_enter Tryz.func150,Tryz.ntmps150
  go_wp2
  go_ret
  exact⟨dV (by rw[b.out]),rfl⟩
end
section
open Go.RowKit
abbrev Fq (b:(Int×Int)×(Int×Int)×(Int×Int)):Array Value:=#[.int .i64 b.1.1,.int .i64 b.1.2,.int .i64 b.2.1.1,.int .i64 b.2.1.2,.int .i64 b.2.2.1,.int .i64 b.2.2.2]
theorem Ct (k:Int) (w:World):Calls Tryz.prog 123 #[.int .i64 k] w fun e w'=>e = .returned (.agg (Fq (cR k)))∧Below w.heap.size w w':=by
 by_cases a:k=1∨k=2∨k=3∨k=4∨k=8∨k=10
 ·rcases a with rfl | rfl | rfl | rfl | rfl | rfl <;>
  (go_enter Tryz.func123,Tryz.ntmps123
   go_wp2
   refine bodyPost_ret (v := .agg #[_,_,_,_,_,_]) (by simp[results,Tryz.results123,go_sem];exact⟨rfl,rfl,rfl,rfl,rfl,rfl⟩) rfl ⟨rfl,?_⟩
   (repeat (first | exact Below.refl _ _ | refine Below.setCell ?_ (by simp) _ | refine Below.alloc ?_ (by simp) _)))
 ·have g:(k == 1)=false:=by rw[beq_eq_false_iff_ne];omega
  have d:(k == 2)=false:=by rw[beq_eq_false_iff_ne];omega
  have i:(k == 3)=false:=by rw[beq_eq_false_iff_ne];omega
  have h:(k == 4)=false:=by rw[beq_eq_false_iff_ne];omega
  have f:(k == 8)=false:=by rw[beq_eq_false_iff_ne];omega
  have c:(k == 10)=false:=by rw[beq_eq_false_iff_ne];omega
  have b:=Lib.hid (show cR k=((0,2147483647),(0,0),(0,0)) from by unfold cR;rw[if_neg (by omega),if_neg (by omega),if_neg (by omega),if_neg (by omega),if_neg (by omega)])
  clear a
  go_enter Tryz.func123,Tryz.ntmps123
  go_wp2
  rw[b.out]
  refine bodyPost_ret (v := .agg #[_,_,_,_,_,_]) (by simp[results,Tryz.results123,go_sem]) rfl ⟨rfl,?_⟩
  (repeat (first | exact Below.refl _ _ | refine Below.setCell ?_ (by simp) _ | refine Below.alloc ?_ (by simp) _))
theorem ES (d c a e b b6:Int) (w:World):
 (Instr.index 207 (.agg #[.int .i64 d,.int .i64 c,.int .i64 a,.int .i64 e,.int .i64 b,.int .i64 b6]) (.int .i64 0)).run Tryz.prog w = .ok (.agg #[.int .i64 d,.int .i64 c]) w ∧
 (Instr.index 207 (.agg #[.int .i64 d,.int .i64 c,.int .i64 a,.int .i64 e,.int .i64 b,.int .i64 b6]) (.int .i64 1)).run Tryz.prog w = .ok (.agg #[.int .i64 a,.int .i64 e]) w ∧
 (Instr.index 207 (.agg #[.int .i64 d,.int .i64 c,.int .i64 a,.int .i64 e,.int .i64 b,.int .i64 b6]) (.int .i64 2)).run Tryz.prog w = .ok (.agg #[.int .i64 b,.int .i64 b6]) w:=⟨by kernel_rfl,by kernel_rfl,by kernel_rfl⟩
set_option maxHeartbeats 4000000 in
theorem Ah (c:Evt) (w:World):Calls Tryz.prog 59 #[.agg (evA c)] w fun e w'=>e = .returned (.bool (cJ c))∧Below w.heap.size w w':=by
 have d:Hid (cJ c=((decide ((cR c.k).1.1≤c.x)&&decide (c.x≤(cR c.k).1.2))&&(decide ((cR c.k).2.1.1≤c.y)&&decide (c.y≤(cR c.k).2.1.2))&&(decide ((cR c.k).2.2.1≤c.z)&&decide (c.z≤(cR c.k).2.2.2)))):=rfl
 have o:=fun W=>Lib.hid (Ct c.k W)
 obtain⟨q,a,k,s,x,y,z⟩:=c
 simp only at d o
 generalize cJ _=r at d
 generalize cR k=b at d o
 obtain⟨⟨l,n⟩,⟨j,i⟩,⟨m,b6⟩⟩:=b
 simp only at d o
 go_enter Tryz.func59,Tryz.ntmps59
 go_wp2_with fail
 refine((o _).out).mono ?_
 rintro e h ⟨rfl,g⟩
 have f:=Lib.hid g
 dsimp only[Fq]
 have B:=fun W=>(ES l n j i m b6 W).1
 have p:=fun W=>(ES l n j i m b6 W).2.1
 have C:=fun W=>(ES l n j i m b6 W).2.2
 have c0:h.cell? ⟨w.heap.size+1,0,none⟩=some (.int .i64 x):=by rw[g.cell (by simp)];simp[go_sem]
 have I:h.cell? ⟨w.heap.size+1,1,none⟩=some (.int .i64 y):=by rw[g.cell (by simp)];simp[go_sem]
 have K:h.cell? ⟨w.heap.size+1,2,none⟩=some (.int .i64 z):=by rw[g.cell (by simp)];simp[go_sem]
 have u:=g.size
 simp at u
 have H:w.heap.size+1<h.heap.size:=by omega
 have t:w.heap.size<h.heap.size:=by omega
 have v:w.heap.size<h.heap.size+1:=by omega
 have A:w.heap.size+1<h.heap.size+2:=by omega
 have f:=Lib.hid (((Below.refl w.heap.size w).alloc (Nat.le_refl _) (.cells #[.int .i64 q,.int .i64 a,.int .i64 k,.string s,.int .i64 x,.int .i64 y,.int .i64 z] 44)).alloc (by simp) (.cells #[.int .i64 x,.int .i64 y,.int .i64 z] 93) |>.trans (g.mono (by simp;omega)))
 clear g
 go_wp2_with fail
 refine wp_loop_rounds 4 ?_
 by_cases L:x<l
 ·skip
  rw[rounds_succ]
  go_wp2
  go_quiet (fail)
  go_wp2
  go_ret
  refine⟨bF ?_,?_⟩
  ·rw[d.out];rw[show decide (l≤x)=false from decide_eq_false (by omega)];simp
  ·(repeat (first | refine below_drewN ?_ _ | refine Below.setCell ?_ (by first | omega | (simp;omega)) _ | refine Below.alloc ?_ (by first | omega | (simp;omega)) _ | exact f.out))
 by_cases F:n<x
 ·skip
  rw[rounds_succ]
  go_wp2
  go_quiet (fail)
  go_wp2
  go_ret
  refine⟨bF ?_,?_⟩
  ·rw[d.out];rw[show decide (x≤n)=false from decide_eq_false (by omega)];simp
  ·(repeat (first | refine below_drewN ?_ _ | refine Below.setCell ?_ (by first | omega | (simp;omega)) _ | refine Below.alloc ?_ (by first | omega | (simp;omega)) _ | exact f.out))
 rw[rounds_succ]
 go_wp2
 go_quiet (fail)
 go_wp2
 by_cases J:y<j
 ·skip
  rw[rounds_succ]
  go_wp2
  go_quiet (fail)
  go_wp2
  go_ret
  refine⟨bF ?_,?_⟩
  ·rw[d.out];rw[show decide (j≤y)=false from decide_eq_false (by omega)];simp
  ·(repeat (first | refine below_drewN ?_ _ | refine Below.setCell ?_ (by first | omega | (simp;omega)) _ | refine Below.alloc ?_ (by first | omega | (simp;omega)) _ | exact f.out))
 by_cases E:i<y
 ·skip
  rw[rounds_succ]
  go_wp2
  go_quiet (fail)
  go_wp2
  go_ret
  refine⟨bF ?_,?_⟩
  ·rw[d.out];rw[show decide (y≤i)=false from decide_eq_false (by omega)];simp
  ·(repeat (first | refine below_drewN ?_ _ | refine Below.setCell ?_ (by first | omega | (simp;omega)) _ | refine Below.alloc ?_ (by first | omega | (simp;omega)) _ | exact f.out))
 rw[rounds_succ]
 go_wp2
 go_quiet (fail)
 go_wp2
 by_cases G:z<m
 ·skip
  rw[rounds_succ]
  go_wp2
  go_quiet (fail)
  go_wp2
  go_ret
  refine⟨bF ?_,?_⟩
  ·rw[d.out];rw[show decide (m≤z)=false from decide_eq_false (by omega)];simp
  ·(repeat (first | refine below_drewN ?_ _ | refine Below.setCell ?_ (by first | omega | (simp;omega)) _ | refine Below.alloc ?_ (by first | omega | (simp;omega)) _ | exact f.out))
 by_cases D:b6<z
 ·skip
  rw[rounds_succ]
  go_wp2
  go_quiet (fail)
  go_wp2
  go_ret
  refine⟨bF ?_,?_⟩
  ·rw[d.out];rw[show decide (z≤b6)=false from decide_eq_false (by omega)];simp
  ·(repeat (first | refine below_drewN ?_ _ | refine Below.setCell ?_ (by first | omega | (simp;omega)) _ | refine Below.alloc ?_ (by first | omega | (simp;omega)) _ | exact f.out))
 rw[rounds_succ]
 go_wp2
 go_quiet (fail)
 go_wp2
 rw[rounds_succ]
 go_wp2
 go_ret
 refine⟨bF ?_,?_⟩
 ·rw[d.out];simp;omega
 ·(repeat (first | refine below_drewN ?_ _ | refine Below.setCell ?_ (by first | omega | (simp;omega)) _ | refine Below.alloc ?_ (by first | omega | (simp;omega)) _ | exact f.out))
end
section
open Go.RowKit
def byteCells (bs:List UInt8):List Value:=bs.map (fun x=>Value.int .u8 (x.toNat:Int))
def bQ (bs:List UInt8):List Nat:=bs.map UInt8.toNat
theorem kL (bs:List UInt8):∀ x ∈ bQ bs,x<256:=by
 intro x a
 obtain⟨b,_,rfl⟩:=List.mem_map.1 a
 exact b.toNat_lt
theorem nG (a b:List UInt8):bQ (a++b)=bQ a++bQ b:=by simp[bQ]
theorem qo (a:List UInt8) (k:Nat):bQ (a.take k)=(bQ a).take k:=by simp[bQ]
theorem dz (a:List UInt8):(bQ a).length=a.length:=by simp[bQ]
theorem AI {a b:List UInt8} (h:bQ a=bQ b):a=b:=by
 induction a generalizing b with
 | nil=>cases b with
   | nil=>rfl
   | cons y b=>simp[bQ]at h
 | cons x a ih=>cases b with
   | nil=>simp[bQ]at h
   | cons y b=>
     simp only[bQ,List.map_cons,List.cons.injEq]at h
     rw[UInt8.toNat_inj.1 h.1,ih h.2]
theorem byteCells_append (a b:List UInt8):byteCells (a++b)=byteCells a++byteCells b:=by simp[byteCells]
theorem byteCells_one (bs:List UInt8):∀ u ∈ byteCells bs,u.oneCell'=true:=by
 intro u a
 obtain⟨s,_,rfl⟩:=List.mem_map.1 a
 rfl
theorem pO (bs:List UInt8) (k:Nat):byteCells (bs.take k)=(byteCells bs).take k:=by simp[byteCells]
theorem oL (bs:List UInt8) (k:Nat):byteCells (bs.drop k)=(byteCells bs).drop k:=by simp[byteCells]
theorem Reads.byte_at {w:World} {B n k:Nat} {A:Option Addr} {bs:List UInt8} (h:Reads w B 1 A n (byteCells bs)) (c:k<n):∃ ad x,A=some ad∧ad.block<B∧bs[k]?=some x∧w.cell? (ad.add k)=some (.int .u8 (x.toNat:Int)):=by
 obtain⟨ad,u,rfl,e,b,a⟩:=h.at_ c
 obtain⟨s,d,rfl⟩:∃ s,bs[k]?=some s∧Value.int .u8 (s.toNat:Int)=u:=by simpa [byteCells] using b
 exact⟨ad,s,rfl,e,d,a⟩
theorem Reads.preB {w:World} {B n k:Nat} {A:Option Addr} {bs:List UInt8} (h:Reads w B 1 A n (byteCells bs)) (e:k≤n):Reads w B 1 A k (byteCells (bs.take k)):=by
 have f:bs.length=n:=by simpa [byteCells] using h.1
 refine⟨by simp[byteCells];omega,fun d=>?_⟩
 obtain⟨ad,rfl,c,b⟩:=h.2 (by omega)
 refine⟨ad,rfl,c,fun j u a=>b j u ?_⟩
 rw[pO,List.getElem?_take]at a
 split at a
 ·exact a
 ·cases a
theorem Reads.sufB {w:World} {B n k cap:Nat} {A:Option Addr} {bs:List UInt8} (h:Reads w B 1 A n (byteCells bs)) (b:k≤n) (a:n≤cap):Reads w B 1 (if cap=k then A else A.map (·.add k)) (n-k) (byteCells (bs.drop k)):=by
 have:=h.cut (k:=k) (cap:=cap) b a
 rw[oL]
 simpa using this
theorem Reads.lenB {w:World} {B n:Nat} {A:Option Addr} {bs:List UInt8} (h:Reads w B 1 A n (byteCells bs)):bs.length=n:=by simpa [byteCells] using h.1
theorem lU {w:World} {B n:Nat} {A:Option Addr} {bs:List UInt8} (h:Reads w B 1 A n (byteCells bs)) (c:Nat):(convert 50 9 (.slice A n c)).run Tryz.prog w = .ok (.string ⟨bs.toArray⟩) w:=by
 have b:=h.lenB
 rcases A with _ | ad
 ·have hn:n=0:=by
   rcases Nat.eq_zero_or_pos n with a | a
   ·exact a
   ·obtain⟨_,e,_⟩:=h.2 a;cases e
  subst hn
  have:bs = []:=List.eq_nil_of_length_eq_zero b
  subst this
  exact Lib.run_convert_nil_bytes w _ _ _ c Tryz.underlying50 Tryz.underlying5 Tryz.underlying9
 ·subst b
  refine run_convert_bytes_back w _ _ _ ad c bs Tryz.underlying50 Tryz.underlying5 Tryz.underlying9 (fun j f=>?_)
  obtain⟨g,e,_,d⟩:=h.2 (by omega)
  cases e
  exact d j _ (by simp[byteCells,List.getElem?_eq_getElem f])
theorem Tryz.infoU8:(Tryz.prog.info? 5).map (fun i=>(i.zero,i.size,i.bytes))=some (some (.int .u8 0),1,1):=by kernel_rfl
theorem sO (A:Option Addr) (n c B:Nat) (bs:List UInt8) (w:World) (d:Reads w B 1 A n (byteCells bs)) (hB:B≤w.heap.size) (hn:n≤1000000):
 Calls Tryz.prog 226 #[.slice A n c] w fun e w' => ∃ v,e = .returned v∧w'.ownsRow w.heap.size 5 1 v n (byteCells bs)∧Below w.heap.size w w':=by
 have q:∀ (w:World) (a:Option Addr) (n c n' c':Nat),(binOp .eql 50 (.slice a n c) (.slice none n' c')).run Tryz.prog w = .ok (.bool a.isNone) w:=fun w a n c n' c'=>Lib.run_eql_slice_nil w _ _ a n c n' c' Tryz.underlying50
 obtain⟨p,j,i,f,g⟩:=info_parts Tryz.infoU8
 rcases A with _ | ad
 ·have l:n=0:=by
   rcases Nat.eq_zero_or_pos n with h | h
   ·exact h
   ·obtain⟨_,h,_⟩:=d.2 h;cases h
  subst l
  have m:byteCells bs = []:=List.eq_nil_of_length_eq_zero (by simpa using d.1)
  have r:=Lib.hid m;clear m d
  go_enter Tryz.func226,Tryz.ntmps226
  go_wp2
  go_ret
  exact⟨_,rfl,⟨by rw[r.out];rfl,.inl ⟨rfl,rfl⟩⟩,Below.refl _ _⟩
 ·have s:=Lib.hid d;clear d
  go_enter Tryz.func226,Tryz.ntmps226
  go_wp2_with (at_builtin;go_must (refine aP _ rfl _ _ 50 rfl w.heap.size 5 p _ 1 1 Tryz.underlying50 j i f g rfl (by omega) _ 0 [] rfl (dj w 5 w.heap.size (Nat.le_refl _) 1) B (some ad) n c _ rfl (s.out.alloc hB _) (byteCells_one bs) (by unfold maxLen;omega) (by omega) (by simp) ?_);intro t u b k o)
  go_ret
  exact⟨t,rfl,by simpa using b,cT ((Below.refl _ _).alloc (Nat.le_refl _) _) k (dj w 5 w.heap.size (Nat.le_refl _) 1) (Nat.le_refl _) (by simp)⟩
end
section
def kR (n:Nat):List Nat:=if n<128 then [n] else(n%128+128)::kR (n/128)
termination_by n
decreasing_by omega
def cL (i:Nat):List Nat→Nat×Nat×Nat
 | []=>if 10≤i then(11,0,0) else(10,0,0)
 | x::l=>if 10≤i then(11,0,0) else
   if 128≤x then(if(cL (i+1) l).1=0 then(0,x-128+128*(cL (i+1) l).2.1,(cL (i+1) l).2.2+1) else cL (i+1) l)
   else if(i=9∧1<x)∨(0<i∧x=0) then(11,0,0) else(0,x,1)
theorem fD {n:Nat} (h:n<128):kR n = [n]:=by rw[kR,if_pos h]
theorem jR {n:Nat} (h:128≤n):kR n=(n%128+128)::kR (n/128):=by rw[kR,if_neg (by omega)]
theorem CO (n:Nat):∀ x ∈ kR n,x<256:=by
 induction n using Nat.strongRecOn with
 | ind n ih=>
   intro x a
   by_cases h:n<128
   ·rw[fD h]at a;simp at a;omega
   ·rw[jR (by omega)]at a
    rcases List.mem_cons.1 a with rfl | a
    ·omega
    ·exact ih _ (by omega) x a
theorem Cw (k:Nat):∀ n,n<128^(k+1)→(kR n).length≤k+1:=by
 induction k with
 | zero=>intro n h;rw[fD (by simpa using h)];simp
 | succ k ih=>
   intro n h
   by_cases a:n<128
   ·rw[fD a];simp
   ·rw[jR (by omega)]
    have:=ih (n/128) (by rw[Nat.div_lt_iff_lt_mul (by omega)];rw[Nat.pow_succ]at h;exact h)
    simp;exact this
theorem uW (n:Nat) (h:n<18446744073709551616):(kR n).length≤10:=Cw 9 n (Nat.lt_of_lt_of_le h (by decide))
theorem uL (rest:List Nat):∀ (n i:Nat),i≤9→n*128^i<18446744073709551616→(0<i→0<n)→cL i (kR n++rest)=(0,n,(kR n).length):=by
 intro n
 induction n using Nat.strongRecOn with
 | ind n ih=>
   intro i f hn b
   by_cases h:n<128
   ·rw[fD h]
    simp only[List.singleton_append,cL,List.length_singleton]
    rw[if_neg (by omega),if_neg (by omega),if_neg]
    rintro(⟨rfl,a⟩ | ⟨a,d⟩)
    ·have:(2:Nat)*128^9≤n*128^9:=Nat.mul_le_mul_right _ (by omega)
     omega
    ·have:=b a;omega
   ·have c:i≠9:=by
     rintro rfl
     have:(128:Nat)*128^9≤n*128^9:=Nat.mul_le_mul_right _ (by omega)
     omega
    have e:=ih (n/128) (by omega) (i+1) (by omega) (by
     rw[Nat.pow_succ]
     have a:n/128*(128^i*128)=(n/128*128)*128^i:=by ac_rfl
     rw[a]
     exact Nat.lt_of_le_of_lt (Nat.mul_le_mul_right _ (by omega)) hn) (by omega)
    rw[jR (by omega)]
    simp only[List.cons_append,cL]
    rw[if_neg (by omega),if_pos (by omega),e]
    simp
    omega
theorem lD (l:List Nat) (e:∀ x ∈ l,x<256):∀ (i n s:Nat),i≤10→cL i l=(0,n,s)→s≤l.length∧kR n=l.take s∧n*128^i<18446744073709551616∧(0<i→0<n)∧0<s:=by
 induction l with
 | nil=>intro i n s t h;unfold cL at h;split at h<;>simp at h
 | cons x l ih=>
   intro i n s t h
   unfold cL at h
   split at h
   ·simp at h
   ·rename_i f
    split at h
    ·rename_i j
     split at h
     ·rename_i b
      simp only[Prod.mk.injEq,true_and]at h
      obtain⟨rfl,rfl⟩:=h
      obtain⟨B,o,a,v,C⟩:=ih (fun y hy=>e y (List.mem_cons_of_mem _ hy)) (i+1) (cL (i+1) l).2.1 (cL (i+1) l).2.2 (by omega) (by rw[←b])
      generalize (cL (i+1) l).2.1=m at *
      generalize (cL (i+1) l).2.2=k at *
      have c:=e x (List.mem_cons_self ..)
      have A:=v (by omega)
      refine⟨by simp;omega,?_,?_,fun _=>by omega,by omega⟩
      ·rw[jR (by omega),show(x-128+128*m)/128=m from by omega,show(x-128+128*m)%128+128=x from by omega,o];rfl
      ·rw[Nat.pow_succ]at a
       have d:m*(128^i*128)=(m*128)*128^i:=by ac_rfl
       rw[d]at a
       have r:∃ q,18446744073709551616=q*128^i∧q%128=0∨i=9:=by
        rcases(by omega:i=0∨i=1∨i=2∨i=3∨i=4∨i=5∨i=6∨i=7∨i=8∨i=9) with rfl | rfl | rfl | rfl | rfl | rfl | rfl | rfl | rfl | rfl
        ·exact⟨2^64,.inl (by decide)⟩
        ·exact⟨2^57,.inl (by decide)⟩
        ·exact⟨2^50,.inl (by decide)⟩
        ·exact⟨2^43,.inl (by decide)⟩
        ·exact⟨2^36,.inl (by decide)⟩
        ·exact⟨2^29,.inl (by decide)⟩
        ·exact⟨2^22,.inl (by decide)⟩
        ·exact⟨2^15,.inl (by decide)⟩
        ·exact⟨2^8,.inl (by decide)⟩
        ·exact⟨0,.inr rfl⟩
       obtain⟨q,⟨w,p⟩ | h9⟩:=r
       ·have hpos:0<128^i:=Nat.pow_pos (by omega)
        rw[w]at a ⊢
        have:=Nat.lt_of_mul_lt_mul_right a
        exact Nat.mul_lt_mul_of_pos_right (by omega) hpos
       ·subst h9
        exfalso
        have g:(128:Nat)*128^9≤m*128*128^9:=Nat.mul_le_mul_right _ (by omega)
        have u:=Nat.lt_of_le_of_lt g a
        exact absurd u (by decide)
     ·rename_i b
      rw[h]at b
      exact absurd rfl b
    ·split at h
     ·simp at h
     ·rename_i d
      simp only[Prod.mk.injEq,true_and]at h
      obtain⟨rfl,rfl⟩:=h
      refine⟨by simp,by rw[fD (by omega)];simp,?_,fun z=>by omega,by omega⟩
      have j:x<128:=by omega
      rcases(by omega:i=0∨i=1∨i=2∨i=3∨i=4∨i=5∨i=6∨i=7∨i=8∨i=9) with rfl | rfl | rfl | rfl | rfl | rfl | rfl | rfl | rfl | rfl<;>omega
def gK:List Nat→Nat
 | []=>0
 | x::l=>x%128+128*gK l
theorem yg (l:List Nat) (x:Nat):gK (l ++ [x])=gK l+128^l.length*(x%128):=by
 induction l with
 | nil=>simp[gK]
 | cons y l ih=>
   simp only[List.cons_append,gK,ih,List.length_cons,Nat.pow_succ]
   rw[Nat.mul_add]
   have:128^l.length*128*(x%128)=128*(128^l.length*(x%128)):=by ac_rfl
   omega
theorem vW (l:List Nat):gK l<128^l.length:=by
 induction l with
 | nil=>simp[gK]
 | cons x l ih=>simp only[gK,List.length_cons,Nat.pow_succ];omega
theorem xB (l:List Nat) (f:∀ x ∈ l,x<256):∀ (i k x:Nat),i+k≤9→(∀ (j:Nat) y,j<k→l[j]?=some y→128≤y)→l[k]?=some x→x<128 →
 cL i l=if(i+k=9∧1<x)∨(0<i+k∧x=0) then(11,0,0) else(0,gK (l.take (k+1)),k+1):=by
 induction l with
 | nil=>intro i k x _ _ h;simp at h
 | cons y l ih=>
   intro i k x g hall a d
   cases k with
   | zero=>
     simp at a
     subst a
     unfold cL
     rw[if_neg (by omega),if_neg (by omega)]
     simp[gK,Nat.mod_eq_of_lt d]
   | succ k=>
     have hy:=hall 0 y (by omega) rfl
     have m:=f y (List.mem_cons_self ..)
     have e:=ih (fun z b=>f z (List.mem_cons_of_mem _ b)) (i+1) k x (by omega) (fun j z n b=>hall (j+1) z (by omega) (by simpa using b)) (by simpa using a) d
     unfold cL
     rw[if_neg (by omega),if_pos hy,e]
     by_cases c:(i+1+k=9∧1<x)∨(0<i+1+k∧x=0)
     ·rw[if_pos c,if_neg (by simp),if_pos (by omega)]
     ·rw[if_neg c,if_pos rfl,if_neg (by omega)]
      simp only[List.take_succ_cons,gK,Prod.mk.injEq,true_and,and_true]
      omega
theorem sQ (l:List Nat):∀ i:Nat,(∀ x ∈ l,128≤x)→i+l.length≤9→cL i l=(10,0,0):=by
 induction l with
 | nil=>intro i _ h;unfold cL;rw[if_neg (by simp at h;omega)]
 | cons x l ih=>
   intro i hall h
   simp at h
   unfold cL
   rw[if_neg (by omega),if_pos (hall x (List.mem_cons_self ..)),ih (i+1) (fun y hy=>hall y (List.mem_cons_of_mem _ hy)) (by omega)]
   simp
theorem uM (l:List Nat):∀ i:Nat,i≤10→(∀ (j:Nat) x,i+j<10→l[j]?=some x→128≤x)→10≤i+l.length→cL i l=(11,0,0):=by
 induction l with
 | nil=>intro i _ _ h;unfold cL;rw[if_pos (by simpa using h)]
 | cons x l ih=>
   intro i c hall h
   simp at h
   unfold cL
   by_cases a:10≤i
   ·rw[if_pos a]
   ·rw[if_neg a,if_pos (hall 0 x (by omega) rfl),ih (i+1) (by omega) (fun j y b hy=>hall (j+1) y (by omega) (by simpa using hy)) (by omega)]
    simp
end
section
open Go.RowKit
theorem byteOf (m:Nat) (h:m<256):((UInt8.ofNat m).toNat:Int)=(m:Int):=by simp;omega
def ay (n:Nat):List UInt8:=(kR n).map UInt8.ofNat
theorem Aa (l:List Nat) (h:∀ x ∈ l,x<256):bQ (l.map UInt8.ofNat)=l:=by
 unfold bQ
 rw[List.map_map]
 conv=>rhs;rw[←List.map_id l]
 refine List.map_congr_left (fun x a=>?_)
 have:=h x a
 simp[Function.comp]
 omega
theorem pE (n:Nat):bQ (ay n)=kR n:=Aa _ (CO n)
theorem jf (n:Nat):(ay n).length=(kR n).length:=by simp[ay]
theorem bB (n:Nat) (h:n<18446744073709551616):(ay n).length≤10:=by rw[jf];exact uW n h
theorem tT {n:Nat} (h:n<128):ay n = [UInt8.ofNat n]:=by unfold ay;rw[fD h];rfl
theorem qm {n:Nat} (h:128≤n):ay n=UInt8.ofNat (n%128+128)::ay (n/128):=by unfold ay;rw[jR h];rfl
theorem FG:∀ x:Nat,x<256→x ||| 128=x%128+128:=by decide +kernel
theorem Cy (m:Nat):bits .or .u8 ((m:Int)%256) 128=((m%128+128:Nat):Int):=by
 rw[show(m:Int)%256=((m%256:Nat):Int) from by omega,show(128:Int)=((128:Nat):Int) from rfl,u8_or_nat _ _ (by omega) (by omega),FG _ (by omega)]
 congr 1
 omega
theorem qF (A:Option Addr) (n c B:Nat) (bs:List UInt8) (k:Nat) (u:k<18446744073709551616) (w:World) (x:Reads w B 1 A n (byteCells bs)) (hB:B≤w.heap.size) (hn:n≤900000):
 Calls Tryz.prog 180 #[.slice A n c,.int .u64 k] w fun e w' => ∃ v,e = .returned v∧w'.ownsRow w.heap.size 5 1 v (n+(ay k).length) (byteCells (bs++ay k))∧Below w.heap.size w w':=by
 have z:=Lib.hid x;clear x
 have q:=Lib.hid (bB k u)
 obtain⟨t,l,j,f,g⟩:=info_parts Tryz.infoU8
 go_enter Tryz.func180,Tryz.ntmps180
 go_wp2_with fail
 refine(sO A n c B bs _ z.out hB (by omega)).mono ?_
 rintro e I ⟨v,rfl,hown,s⟩
 go_wp2_with fail
 go_loopw [5,1] (fun v nn wr => ∃ (m i:Nat) (pre:List UInt8),nn = .int .u64 m∧Hid (pre.length=i)∧i≤10∧Hid (pre++ay m=ay k)∧m<18446744073709551616∧wr.ownsRow w.heap.size 5 1 v (n+i) (byteCells (bs++pre))∧Below w.heap.size w wr) (fun _ nn _=>(intOf nn).toNat)
 case atStart=>exact⟨k,0,[],rfl,rfl,by omega,rfl,u,by simpa using hown,s⟩
 case round=>
  obtain⟨m,i,pre,rfl,HI,K,p,H,hown,b⟩:=hrel
  by_cases h:m<128
  ·have D:decide ((128:Int)≤(m:Int))=false:=by simp;omega
   have hmod:(m:Int)%256=(m:Int):=by omega
   go_wp2_with (at_builtin;go_must (refine dW wr rfl _ _ 50 rfl w.heap.size 5 t _ 1 Tryz.underlying50 l j f g rfl _ _ _ hown rfl _ rfl rfl (by unfold maxLen;omega) (by omega) b.size ?_);intro v' C a d)
   go_ret
   refine⟨v',rfl,?_,cT b d hown (Nat.le_refl _) b.size⟩
   rw[←p.out,tT h,List.length_append,HI.out,←List.append_assoc,byteCells_append]
   rw[show byteCells [UInt8.ofNat m] = [.int .u8 (m:Int)] from by simp only[byteCells,List.map_cons,List.map_nil];rw[byteOf _ (by omega)]]
   exact a
  ·have D:decide ((128:Int)≤(m:Int))=true:=by simp;omega
   have F:=Cy m
   have E:=Lib.hid (show byteCells (bs++(pre ++ [UInt8.ofNat (m%128+128)]))=byteCells (bs++pre) ++ [.int .u8 ((m%128+128:Nat):Int)] from by
    rw[←List.append_assoc,byteCells_append]
    congr 1
    simp only[byteCells,List.map_cons,List.map_nil]
    rw[byteOf _ (by omega)])
   have r:=Lib.hid (show(pre ++ [UInt8.ofNat (m%128+128)])++ay (m/128)=ay k from by rw[←p.out,qm (n:=m) (by omega)];simp)
   have o:i+1≤10:=by
    have y:=congrArg List.length p.out
    have J:=q.out
    have G:=HI.out
    rw[qm (by omega),List.length_append,List.length_cons]at y
    omega
   go_wp2_with (at_builtin;go_must (refine dW wr rfl _ _ 50 rfl w.heap.size 5 t _ 1 Tryz.underlying50 l j f g rfl _ _ _ hown rfl _ rfl rfl (by unfold maxLen;omega) (by omega) b.size ?_);intro v' C a d)
   go_roundw
   case rel=>exact⟨m/128,i+1,_,by go_num,(show(pre ++ [UInt8.ofNat (m%128+128)]).length=i+1 from by rw[List.length_append,HI.out];rfl),o,r,by omega,by rw[E.out];exact a,cT b d hown (Nat.le_refl _) b.size⟩
   case measure=>simp[intOf];omega
end
section
open Go.RowKit
def cx (l:List UInt8):List UInt8:=ay l.length++l
theorem ou (l:List UInt8):Lib.strCells ⟨l.toArray⟩=byteCells l:=by simp[Lib.strCells,byteCells]
theorem xS (A:Option Addr) (n c B:Nat) (bs l:List UInt8) (w:World) (m:Reads w B 1 A n (byteCells bs)) (hB:B≤w.heap.size) (hn:n≤400000) (t:l.length≤400000):
 Calls Tryz.prog 194 #[.slice A n c,.string ⟨l.toArray⟩] w fun e w' => ∃ v,e = .returned v∧w'.ownsRow w.heap.size 5 1 v (n+(cx l).length) (byteCells (bs++cx l))∧Below w.heap.size w w':=by
 have q:=Lib.hid m;clear m
 have f:=Lib.hid (bB l.length (by omega))
 obtain⟨p,j,i,d,h⟩:=info_parts Tryz.infoU8
 go_enter Tryz.func194,Tryz.ntmps194
 go_wp2_with fail
 refine(qF A n c B bs l.length (by omega) _ q.out hB (by omega)).mono ?_
 rintro e r ⟨v,rfl,hown,k⟩
 have o:=f.out
 have b:=k.size
 go_wp2_with (at_builtin;go_must (refine Lib.wpList_append_own_string _ rfl _ _ 50 9 rfl w.heap.size 5 p Tryz.underlying50 Tryz.underlying9 j i d h _ _ _ rfl hown ⟨l.toArray⟩ rfl (by have:(ByteArray.mk l.toArray).size=l.length:=rfl;unfold maxLen;omega) (by have:(ByteArray.mk l.toArray).size=l.length:=rfl;omega) b ?_);intro v' s a g _)
 go_ret
 refine⟨v',rfl,?_,cT k g hown (Nat.le_refl _) b⟩
 unfold cx
 rw[ou,←byteCells_append,List.append_assoc,show(ByteArray.mk l.toArray).size=l.length from rfl,Nat.add_assoc]at a
 rw[List.length_append]
 exact a
theorem cP (A:Option Addr) (n c:Nat) (at_:Int) (w:World) (a:0≤at_) (b:at_≤(n:Int)):Calls Tryz.prog 228 #[.agg #[.slice A n c,.int .i64 at_,.int .i64 0]] w fun e w'=>e = .returned (.bool true)∧Below w.heap.size w w':=by
 have d:decide ((0:Int)≤at_)=true:=by simpa using a
 have f:decide (at_≤(n:Int))=true:=by simpa using b
 go_enter Tryz.func228,Tryz.ntmps228
 go_wp2
 go_ret
 exact⟨rfl,((Below.refl _ _).alloc (Nat.le_refl _) _)⟩
theorem td (A:Option Addr) (n c:Nat) (at_ err:Int) (w:World) (h:at_<0∨(n:Int)<at_∨err≠0):Calls Tryz.prog 228 #[.agg #[.slice A n c,.int .i64 at_,.int .i64 err]] w fun e w'=>e = .returned (.bool false)∧Below w.heap.size w w':=by
 by_cases a:err=0
 ·subst a
  by_cases d:at_<0
  ·have b:decide ((0:Int)≤at_)=false:=by simpa using d
   clear h
   go_enter Tryz.func228,Tryz.ntmps228
   go_wp2
   go_ret
   exact⟨rfl,((Below.refl _ _).alloc (Nat.le_refl _) _)⟩
  ·have b:decide ((0:Int)≤at_)=true:=by simp;omega
   have f:decide (at_≤(n:Int))=false:=by simp;omega
   clear h
   go_enter Tryz.func228,Tryz.ntmps228
   go_wp2
   go_ret
   exact⟨rfl,((Below.refl _ _).alloc (Nat.le_refl _) _)⟩
 ·have g:(err == 0)=false:=by rw[beq_eq_false_iff_ne];exact a
  clear h
  cases b:decide ((0:Int)≤at_)
  all_goals cases f:decide (at_≤(n:Int))
  all_goals
   go_enter Tryz.func228,Tryz.ntmps228
   go_wp2
   go_ret
   exact⟨rfl,((Below.refl _ _).alloc (Nat.le_refl _) _)⟩
theorem cY (A:Option Addr) (n c:Nat) (at_ a:Int) (w:World):Calls Tryz.prog 229 #[.agg #[.slice A n c,.int .i64 at_,.int .i64 0],.int .i64 a] w fun e w'=>e = .returned (.agg #[.slice A n c,.int .i64 at_,.int .i64 a])∧Below w.heap.size w w':=by
 go_enter Tryz.func229,Tryz.ntmps229
 go_wp2
 exact bodyPost_ret (v := .agg #[.slice A n c,.int .i64 at_,.int .i64 a]) (by simp[results,Tryz.results229,go_sem]) rfl ⟨rfl,((Below.refl _ _).alloc (Nat.le_refl _) _).alloc (by simp) _⟩
theorem Bl (A:Option Addr) (n c:Nat) (at_ err b:Int) (w:World) (a:err≠0):Calls Tryz.prog 229 #[.agg #[.slice A n c,.int .i64 at_,.int .i64 err],.int .i64 b] w fun e w'=>e = .returned (.agg #[.slice A n c,.int .i64 at_,.int .i64 err])∧Below w.heap.size w w':=by
 have d:(err == 0)=false:=by rw[beq_eq_false_iff_ne];exact a
 go_enter Tryz.func229,Tryz.ntmps229
 go_wp2
 exact bodyPost_ret (v := .agg #[.slice A n c,.int .i64 at_,.int .i64 err]) (by simp[results,Tryz.results229,go_sem]) rfl ⟨rfl,((Below.refl _ _).alloc (Nat.le_refl _) _).alloc (by simp) _⟩
theorem wW (A:Option Addr) (n c:Nat) (w:World) (a:n≤c):Calls Tryz.prog 177 #[.slice A n c] w fun e w'=>e = .returned (.agg #[.slice A n n,.int .i64 0,.int .i64 0])∧Below w.heap.size w w':=by
 go_enter Tryz.func177,Tryz.ntmps177
 go_wp2
 exact bodyPost_ret (v := .agg #[.slice A n n,.int .i64 0,.int .i64 0]) (by simp[results,Tryz.results177,go_sem]) rfl ⟨rfl,((Below.refl _ _).alloc (Nat.le_refl _) _)⟩
theorem iQ (A:Option Addr) (n c:Nat) (at_:Int) (w:World) (j:0≤at_) (g:at_≤(n:Int)) (hn:n≤9223372036854775807):Calls Tryz.prog 178 #[.agg #[.slice A n c,.int .i64 at_,.int .i64 0]] w fun e w'=>e = .returned (.int .i64 ((n:Int)-at_))∧Below w.heap.size w w':=by
 go_enter Tryz.func178,Tryz.ntmps178
 go_wp2_with fail
 refine(cP A n c at_ _ j g).mono ?_
 rintro e d ⟨rfl,b⟩
 obtain⟨a,i⟩:=cC b
 have k0:d.cell? ⟨w.heap.size,0,none⟩=some (.slice A n c):=by have h:=a w.heap.size 0 (by simp);simpa using h
 have k:d.cell? ⟨w.heap.size,1,none⟩=some (.int .i64 at_):=by have h:=a w.heap.size 1 (by simp);simpa using h
 have f:=Lib.hid (((Below.refl _ _).alloc (Nat.le_refl _) _).trans (b.mono (by simp)))
 clear a i b
 go_wp2
 go_ret
 exact⟨rfl,f.out⟩
end
section
structure Cx where
 q:Int
 a:Int
 ns:List (List UInt8)
def aJ (c:Cx):Bool:=decide (0≤c.q)&&decide (c.q≤4294967296)&&decide (0≤c.a)&&decide (c.a≤1099511627776)&&dn c.ns
def ei (c:Cx) (e:Evt):Int:=
 if aJ c=false then 1 else if bX e≠0 then bX e else if e.q≤c.q then 1 else if e.a<c.a then 5
 else if placeOf c.ns e.cm.data.toList=0∧c.ns.length=32 then 9 else 0
def aN (c:Cx) (e:Evt):List UInt8:=
 ay e.k.toNat++ay (e.q-c.q).toNat++ay (e.a-c.a).toNat++ay (placeOf c.ns e.cm.data.toList)
  ++ (if placeOf c.ns e.cm.data.toList=0 then cx e.cm.data.toList else [])++(jX e).flatMap (fun n=>ay n.toNat)
def bR (c:Cx) (e:Evt):Cx:=⟨e.q,e.a,if placeOf c.ns e.cm.data.toList=0 then c.ns ++ [e.cm.data.toList] else c.ns⟩
theorem kO {c:Cx} {e:Evt} (h:ei c e=0):aJ c=true∧bX e=0∧c.q<e.q∧c.a≤e.a ∧ ¬ (placeOf c.ns e.cm.data.toList=0∧c.ns.length=32):=by
 unfold ei at h
 by_cases d:aJ c=false
 ·rw[if_pos d]at h;omega
 rw[if_neg d]at h
 by_cases b:bX e≠0
 ·rw[if_pos b]at h;exact absurd h b
 rw[if_neg b]at h
 by_cases i:e.q≤c.q
 ·rw[if_pos i]at h;omega
 rw[if_neg i]at h
 by_cases g:e.a<c.a
 ·rw[if_pos g]at h;omega
 rw[if_neg g]at h
 by_cases f:placeOf c.ns e.cm.data.toList=0∧c.ns.length=32
 ·rw[if_pos f]at h;omega
 exact⟨by simpa using d,by simpa using b,by omega,by omega,f⟩
theorem lR (s:ByteArray):dN s=cE s.data.toList:=by
 unfold dN cE
 rw[show s.size=s.data.toList.length from(Array.length_toList ..).symm,←Bool.decide_and]
theorem jz {c:Cx} {e:Evt} (h:ei c e=0):aJ (bR c e)=true:=by
 obtain⟨f,p,v,t,n⟩:=kO h
 obtain⟨_,_,hn,_,k,r,i,j⟩:=cK p
 unfold aJ at f ⊢
 simp only[Bool.and_eq_true,decide_eq_true_iff]at f
 obtain⟨_,b⟩:=f
 have g:dn (bR c e).ns=true:=by
  unfold bR
  simp only
  by_cases d:placeOf c.ns e.cm.data.toList=0
  ·rw[if_pos d]
   unfold dn at b ⊢
   rw[decide_eq_true_iff]at b ⊢
   obtain⟨u,m,l⟩:=b
   refine⟨?_,(lA _ _).2 ⟨m,(dG _ _).1 d⟩,fun s o=>?_⟩
   ·rw[List.length_append,List.length_singleton]
    have:¬ c.ns.length=32:=fun h=>n ⟨d,h⟩
    omega
   ·rcases List.mem_append.1 o with h | h
    ·exact l s h
    ·rw[List.mem_singleton]at h
     subst h
     rw[←lR]
     exact hn
  ·rw[if_neg d]
   exact b
 rw[g]
 rw[decide_eq_true (show 0≤(bR c e).q from i),decide_eq_true (show(bR c e).q≤4294967296 from j),decide_eq_true (show 0≤(bR c e).a from k),decide_eq_true (show(bR c e).a≤1099511627776 from r)]
 rfl
end
section
open Go.RowKit
set_option maxHeartbeats 2000000 in
theorem dJ (b:Evt) (p:b.cm.size≤maxLen) (w:World):Calls Tryz.prog 18 #[.agg (evA b)] w fun e w'=>e = .returned (.int .i64 (bX b))∧Below w.heap.size w w':=by
 have f:Hid (bX b=if cu b.k=0 then 2 else if dN b.cm=false then 3 else if cJ b=false then 4 else if b.a<0∨1099511627776<b.a then 5 else if b.q<0∨4294967296<b.q then 1 else 0):=rfl
 have h:=fun W=>Lib.hid (vC b.k W)
 have i:=fun W=>Lib.hid (show Calls Tryz.prog 58 #[.string b.cm] W fun e w'=>e = .returned (.bool (dN b.cm))∧W=w' from by rw[lR];exact gQ b.cm W p)
 have n:=fun W=>Lib.hid (Ah b W)
 generalize bX b=r at f ⊢
 generalize cu b.k=m at h f
 generalize dN b.cm=nm at i f
 generalize cJ b=wi at n f
 obtain⟨q,a,k,cm,x,y,z⟩:=b
 simp only at f h i n p
 by_cases t:m=0
 ·subst t
  go_enter Tryz.func18,Tryz.ntmps18
  go_wp2_with (go_at_call 57;refine((h _).out).mono ?_;rintro e w' ⟨rfl,rfl⟩)
  go_ret
  exact⟨dV (by rw[f.out];rfl),(Below.refl _ _).alloc (Nat.le_refl _) _⟩
 have D:((m:Int) == 0)=false:=by rw[beq_eq_false_iff_ne];omega
 have B:(m == 0)=false:=by rw[beq_eq_false_iff_ne];omega
 have s:=Lib.hid t
 clear t
 cases nm with
 | false=>
   go_enter Tryz.func18,Tryz.ntmps18
   go_wp2_with (first | (go_at_call 57;refine((h _).out).mono ?_;rintro e w' ⟨rfl,rfl⟩) | (go_at_call 58;refine((i _).out).mono ?_;rintro e w' ⟨rfl,rfl⟩))
   go_ret
   exact⟨dV (by rw[f.out,if_neg s.out];rfl),(Below.refl _ _).alloc (Nat.le_refl _) _⟩
 | true=>
   cases wi with
   | false=>
     go_enter Tryz.func18,Tryz.ntmps18
     go_wp2_with (first | (go_at_call 57;refine((h _).out).mono ?_;rintro e w' ⟨rfl,rfl⟩) | (go_at_call 58;refine((i _).out).mono ?_;rintro e w' ⟨rfl,rfl⟩) | (go_at_call 59;refine((n _).out).mono ?_;rintro e u ⟨rfl,d⟩))
     go_ret
     exact⟨dV (by rw[f.out,if_neg s.out];rfl),((Below.refl _ _).alloc (Nat.le_refl _) _).trans (d.mono (by simp))⟩
   | true=>
     by_cases l:a<0∨1099511627776<a
     ·have c:=Lib.hid (show r=5 from by rw[f.out,if_neg s.out,if_neg (by simp),if_neg (by simp),if_pos l])
      clear f
      rcases l with l | l
      all_goals
       go_enter Tryz.func18,Tryz.ntmps18
       go_wp2_with (first | (go_at_call 57;refine((h _).out).mono ?_;rintro e w' ⟨rfl,rfl⟩) | (go_at_call 58;refine((i _).out).mono ?_;rintro e w' ⟨rfl,rfl⟩) | (go_at_call 59;refine((n _).out).mono ?_;rintro e u ⟨rfl,d⟩;have o:=Lib.hid d;obtain⟨v,A⟩:=cC d;clear d))
       go_ret
       exact⟨dV (by rw[c.out]),((Below.refl _ _).alloc (Nat.le_refl _) _).trans (o.out.mono (by simp))⟩
     ·have c:=Lib.hid (show r=if q<0∨4294967296<q then 1 else 0 from by rw[f.out,if_neg s.out,if_neg (by simp),if_neg (by simp),if_neg l])
      clear f
      have F:0≤a:=by omega
      have C:a≤1099511627776:=by omega
      clear l
      by_cases j:q<0∨4294967296<q
      ·have g:=Lib.hid (show r=1 from by rw[c.out,if_pos j])
       clear c
       rcases j with j | j
       all_goals
        go_enter Tryz.func18,Tryz.ntmps18
        go_wp2_with (first | (go_at_call 57;refine((h _).out).mono ?_;rintro e w' ⟨rfl,rfl⟩) | (go_at_call 58;refine((i _).out).mono ?_;rintro e w' ⟨rfl,rfl⟩) | (go_at_call 59;refine((n _).out).mono ?_;rintro e u ⟨rfl,d⟩;have o:=Lib.hid d;obtain⟨v,A⟩:=cC d;clear d))
        go_ret
        exact⟨dV (by rw[g.out]),((Below.refl _ _).alloc (Nat.le_refl _) _).trans (o.out.mono (by simp))⟩
      ·have g:=Lib.hid (show r=0 from by rw[c.out,if_neg j])
       clear c
       have E:0≤q:=by omega
       have G:q≤4294967296:=by omega
       clear j
       go_enter Tryz.func18,Tryz.ntmps18
       go_wp2_with (first | (go_at_call 57;refine((h _).out).mono ?_;rintro e w' ⟨rfl,rfl⟩) | (go_at_call 58;refine((i _).out).mono ?_;rintro e w' ⟨rfl,rfl⟩) | (go_at_call 59;refine((n _).out).mono ?_;rintro e u ⟨rfl,d⟩;have o:=Lib.hid d;obtain⟨v,A⟩:=cC d;clear d))
       go_ret
       exact⟨dV (by rw[g.out]),((Below.refl _ _).alloc (Nat.le_refl _) _).trans (o.out.mono (by simp))⟩
end
section
open Go.RowKit
theorem mz (role:Int) (a:Evt) (b:role=1∨role=2∨role=3) (w:World):Calls Tryz.prog 215 #[.int .i64 role,.agg (evA a)] w fun e w'=>e = .returned (.bool (gH role a))∧Below w.heap.size w w':=by
 rcases b with rfl | rfl | rfl
 all_goals
  go_enter Tryz.func215,Tryz.ntmps215
  go_wp2
  all_goals
   go_ret
   refine⟨bf ?_,(Below.refl _ _).alloc (Nat.le_refl _) _⟩
   rw[Bool.eq_iff_iff]
   simp[gH]
   try omega
theorem bO {c:Cmp} (h:dr c):c.role=1∨c.role=2∨c.role=3:=by
 rcases h.2.2 with h | h | h
 ·exact .inl h.1
 ·exact .inr (.inl h.1)
 ·exact .inr (.inr h.1)
def jE (c:Cmp) (e0:Evt) (m:Int):Prop := ∀ (A:Option Addr) (n cp:Nat) (X:List Nat) (w:World),XOk X w→aa w X A n c.cells→dr c→e0.cm.size≤maxLen →
 Calls Tryz.prog 156 #[.agg (aL c A n cp).toArray,.agg (evA e0)] w fun e w'=>e = .returned (.int .i64 m)∧Below w.heap.size w w'
theorem zH {c:Cmp} {d:Evt} (s:¬ bX d=0):jE c d (bX d):=by
 intro A n l X w hX i a g
 obtain⟨nm,role,mode,wd,sl,cells,h,o,room,has,p⟩:=c
 obtain⟨eq,ea,y,k,ex,q,t⟩:=d
 simp only at *
 simp only[aL,evA]
 have m:¬ role=0:=by have:=bO a;simp only at this;omega
 have x:=Lib.hid (bO a)
 go_enter Tryz.func156,Tryz.ntmps156
 go_upto_region 1 with(fail)
 refine(hstart hX).cw fun W K=>?_
 refine wp_region_lit (K.ld 1 rfl ?_)
 go_wp2_with fail
 have K:=K.k0 (f:=aa.fact A n cells) i
 clear i
 refine(fX ⟨nm,role,mode,wd,sl,cells,h,o,room,has,p⟩ A n l _ W K.xok (K.fa 0 rfl) a).mono ?_
 rintro e v ⟨rfl,b⟩
 have K:=K.on b
 clear b a
 have j:=K.r 1 rfl
 have c0:=K.r 0 rfl
 go_wp2_with fail
 refine(dJ ⟨_,_,_,_,_,_,_⟩ g _).mono ?_
 rintro e u ⟨rfl,b⟩
 have K:=K.on b
 clear b c0 j
 have c0:=K.r 0 rfl
 have j:=K.r 1 rfl
 go_wp2
 go_ret
 exact⟨rfl,K.below⟩
theorem Dh {c:Cmp} {d:Evt} (s:bX d=0) (y:(d.cm.toList == c.nm.toList)=false):jE c d (6):=by
 intro A n l X w hX i a g
 obtain⟨nm,role,mode,wd,sl,cells,h,o,room,has,p⟩:=c
 obtain⟨eq,ea,z,k,ex,q,t⟩:=d
 simp only at *
 simp only[aL,evA]
 have m:¬ role=0:=by have:=bO a;simp only at this;omega
 have x:=Lib.hid (bO a)
 go_enter Tryz.func156,Tryz.ntmps156
 go_upto_region 1 with(fail)
 refine(hstart hX).cw fun W K=>?_
 refine wp_region_lit (K.ld 1 rfl ?_)
 go_wp2_with fail
 have K:=K.k0 (f:=aa.fact A n cells) i
 clear i
 refine(fX ⟨nm,role,mode,wd,sl,cells,h,o,room,has,p⟩ A n l _ W K.xok (K.fa 0 rfl) a).mono ?_
 rintro e v ⟨rfl,b⟩
 have K:=K.on b
 clear b a
 have j:=K.r 1 rfl
 have c0:=K.r 0 rfl
 go_wp2_with fail
 refine(dJ ⟨_,_,_,_,_,_,_⟩ g _).mono ?_
 rintro e u ⟨rfl,b⟩
 have K:=K.on b
 clear b c0 j
 have c0:=K.r 0 rfl
 have j:=K.r 1 rfl
 go_wp2_with (go_at_call 214;refine(mY _ _).mono ?_;rintro e w' ⟨rfl,rfl⟩)
 go_ret
 exact⟨rfl,K.below⟩
theorem BK {c:Cmp} {b:Evt} (u:bX b=0) (B:(b.cm.toList == c.nm.toList)=true) (l:b.k=1):jE c b (7):=by
 intro A n o X w hX i a g
 obtain⟨nm,role,mode,wd,sl,cells,h,q,room,has,s⟩:=c
 obtain⟨eq,ea,C,m,ex,t,v⟩:=b
 simp only at *
 simp only[aL,evA]
 have p:¬ role=0:=by have:=bO a;simp only at this;omega
 have z:=Lib.hid (bO a)
 subst l
 go_enter Tryz.func156,Tryz.ntmps156
 go_upto_region 1 with(fail)
 refine(hstart hX).cw fun W K=>?_
 refine wp_region_lit (K.ld 1 rfl ?_)
 go_wp2_with fail
 have K:=K.k0 (f:=aa.fact A n cells) i
 clear i
 refine(fX ⟨nm,role,mode,wd,sl,cells,h,q,room,has,s⟩ A n o _ W K.xok (K.fa 0 rfl) a).mono ?_
 rintro e y ⟨rfl,d⟩
 have K:=K.on d
 clear d a
 have j:=K.r 1 rfl
 have c0:=K.r 0 rfl
 go_wp2_with fail
 refine(dJ ⟨_,_,_,_,_,_,_⟩ g _).mono ?_
 rintro e x ⟨rfl,d⟩
 have K:=K.on d
 clear d c0 j
 have c0:=K.r 0 rfl
 have j:=K.r 1 rfl
 go_wp2_with (go_at_call 214;refine(mY _ _).mono ?_;rintro e w' ⟨rfl,rfl⟩)
 go_ret
 exact⟨rfl,K.below⟩
theorem ze {c:Cmp} {b:Evt} (B:bX b=0) (G:(b.cm.toList == c.nm.toList)=true) (y:¬ b.k=1) (p:¬ bD b.k=0) (m:¬ bD b.k=c.role):jE c b (8):=by
 intro A n s X w hX i a g
 obtain⟨nm,role,mode,wd,sl,cells,h,u,room,has,v⟩:=c
 obtain⟨eq,ea,l,o,ex,z,C⟩:=b
 simp only at *
 simp only[aL,evA]
 have t:¬ role=0:=by have:=bO a;simp only at this;omega
 have E:=Lib.hid (bO a)
 have q:(bD l != 0)=true:=by simpa using p
 have x:(bD l != role)=true:=by simpa using m
 go_enter Tryz.func156,Tryz.ntmps156
 go_upto_region 1 with(fail)
 refine(hstart hX).cw fun W K=>?_
 refine wp_region_lit (K.ld 1 rfl ?_)
 go_wp2_with fail
 have K:=K.k0 (f:=aa.fact A n cells) i
 clear i
 refine(fX ⟨nm,role,mode,wd,sl,cells,h,u,room,has,v⟩ A n s _ W K.xok (K.fa 0 rfl) a).mono ?_
 rintro e D ⟨rfl,d⟩
 have K:=K.on d
 clear d a
 have j:=K.r 1 rfl
 have c0:=K.r 0 rfl
 go_wp2_with fail
 refine(dJ ⟨_,_,_,_,_,_,_⟩ g _).mono ?_
 rintro e F ⟨rfl,d⟩
 have K:=K.on d
 clear d c0 j
 have c0:=K.r 0 rfl
 have j:=K.r 1 rfl
 go_wp2_with (go_at_call 214;refine(mY _ _).mono ?_;rintro e w' ⟨rfl,rfl⟩)
 go_ret
 exact⟨rfl,K.below⟩
theorem xQ {c:Cmp} {d:Evt} (z:bX d=0) (E:(d.cm.toList == c.nm.toList)=true) (m:d.k=2) (l:gH c.role d=false):jE c d (4):=by
 intro A n t X w hX i a g
 obtain⟨nm,role,mode,wd,sl,cells,h,v,room,has,x⟩:=c
 obtain⟨eq,ea,F,o,ex,y,B⟩:=d
 simp only at *
 simp only[aL,evA]
 have u:¬ role=0:=by have:=bO a;simp only at this;omega
 have s:=Lib.hid (bO a)
 subst m
 have p:=Lib.hid l
 clear l
 have q:bD 2=0:=rfl
 go_enter Tryz.func156,Tryz.ntmps156
 go_upto_region 1 with(fail)
 refine(hstart hX).cw fun W K=>?_
 refine wp_region_lit (K.ld 1 rfl ?_)
 go_wp2_with fail
 have K:=K.k0 (f:=aa.fact A n cells) i
 clear i
 refine(fX ⟨nm,role,mode,wd,sl,cells,h,v,room,has,x⟩ A n t _ W K.xok (K.fa 0 rfl) a).mono ?_
 rintro e D ⟨rfl,b⟩
 have K:=K.on b
 clear b a
 have j:=K.r 1 rfl
 have c0:=K.r 0 rfl
 go_wp2_with fail
 refine(dJ ⟨_,_,_,_,_,_,_⟩ g _).mono ?_
 rintro e C ⟨rfl,b⟩
 have K:=K.on b
 clear b c0 j
 have c0:=K.r 0 rfl
 have j:=K.r 1 rfl
 go_wp2_with (first | (go_at_call 214;refine(mY _ _).mono ?_;rw[q];rintro e w' ⟨rfl,rfl⟩) | (go_at_call 215;refine(mz _ ⟨_,_,_,_,_,_,_⟩ s.out _).mono ?_;rw[p.out];rintro e w' ⟨rfl,b⟩;have K:=K.on b;clear b))
 go_ret
 exact⟨rfl,K.below⟩
theorem BE {c:Cmp} {d:Evt} (z:bX d=0) (E:(d.cm.toList == c.nm.toList)=true) (m:d.k=2) (l:gH c.role d=true):jE c d (0):=by
 intro A n t X w hX i a g
 obtain⟨nm,role,mode,wd,sl,cells,h,v,room,has,x⟩:=c
 obtain⟨eq,ea,F,o,ex,y,B⟩:=d
 simp only at *
 simp only[aL,evA]
 have u:¬ role=0:=by have:=bO a;simp only at this;omega
 have s:=Lib.hid (bO a)
 subst m
 have p:=Lib.hid l
 clear l
 have q:bD 2=0:=rfl
 go_enter Tryz.func156,Tryz.ntmps156
 go_upto_region 1 with(fail)
 refine(hstart hX).cw fun W K=>?_
 refine wp_region_lit (K.ld 1 rfl ?_)
 go_wp2_with fail
 have K:=K.k0 (f:=aa.fact A n cells) i
 clear i
 refine(fX ⟨nm,role,mode,wd,sl,cells,h,v,room,has,x⟩ A n t _ W K.xok (K.fa 0 rfl) a).mono ?_
 rintro e D ⟨rfl,b⟩
 have K:=K.on b
 clear b a
 have j:=K.r 1 rfl
 have c0:=K.r 0 rfl
 go_wp2_with fail
 refine(dJ ⟨_,_,_,_,_,_,_⟩ g _).mono ?_
 rintro e C ⟨rfl,b⟩
 have K:=K.on b
 clear b c0 j
 have c0:=K.r 0 rfl
 have j:=K.r 1 rfl
 go_wp2_with (first | (go_at_call 214;refine(mY _ _).mono ?_;rw[q];rintro e w' ⟨rfl,rfl⟩) | (go_at_call 215;refine(mz _ ⟨_,_,_,_,_,_,_⟩ s.out _).mono ?_;rw[p.out];rintro e w' ⟨rfl,b⟩;have K:=K.on b;clear b))
 go_ret
 exact⟨rfl,K.below⟩
theorem Bg {c:Cmp} {b:Evt} (x:bX b=0) (D:(b.cm.toList == c.nm.toList)=true) (u:¬ b.k=1) (t:¬ b.k=2) (m:bD b.k=c.role):jE c b (0):=by
 intro A n o X w hX i a g
 obtain⟨nm,role,mode,wd,sl,cells,h,q,room,has,s⟩:=c
 obtain⟨eq,ea,E,l,ex,v,y⟩:=b
 simp only at *
 simp only[aL,evA]
 have p:¬ role=0:=by have:=bO a;simp only at this;omega
 have C:=Lib.hid (bO a)
 go_enter Tryz.func156,Tryz.ntmps156
 go_upto_region 1 with(fail)
 refine(hstart hX).cw fun W K=>?_
 refine wp_region_lit (K.ld 1 rfl ?_)
 go_wp2_with fail
 have K:=K.k0 (f:=aa.fact A n cells) i
 clear i
 refine(fX ⟨nm,role,mode,wd,sl,cells,h,q,room,has,s⟩ A n o _ W K.xok (K.fa 0 rfl) a).mono ?_
 rintro e B ⟨rfl,d⟩
 have K:=K.on d
 clear d a
 have j:=K.r 1 rfl
 have c0:=K.r 0 rfl
 go_wp2_with fail
 refine(dJ ⟨_,_,_,_,_,_,_⟩ g _).mono ?_
 rintro e z ⟨rfl,d⟩
 have K:=K.on d
 clear d c0 j
 have c0:=K.r 0 rfl
 have j:=K.r 1 rfl
 go_wp2_with (go_at_call 214;refine(mY _ _).mono ?_;rw[m];rintro e w' ⟨rfl,rfl⟩)
 go_ret
 exact⟨rfl,K.below⟩
theorem gR (c:Cmp) (A:Option Addr) (n o:Nat) (a:Evt) (X:List Nat) (w:World) (hX:XOk X w) (p:aa w X A n c.cells) (l:dr c) (m:a.cm.size≤maxLen):
 Calls Tryz.prog 156 #[.agg (aL c A n o).toArray,.agg (evA a)] w fun e w'=>e = .returned (.int .i64 (iw c a))∧Below w.heap.size w w':=by
 suffices h:jE c a (iw c a) from h A n o X w hX p l m
 unfold iw
 by_cases d:bX a=0
 ·rw[if_neg (by simpa using d)]
  by_cases j:a.cm=c.nm
  ·have b:(a.cm.toList == c.nm.toList)=true:=by rw[j];simp
   rw[if_neg (by simpa using j)]
   by_cases g:a.k=1
   ·rw[if_pos g];exact BK d b g
   ·rw[if_neg g]
    by_cases i:bD a.k≠0∧bD a.k≠c.role
    ·rw[if_pos i];exact ze d b g i.1 i.2
    ·rw[if_neg i]
     by_cases f:a.k=2
     ·cases h6:gH c.role a with
      | false=>rw[if_pos ⟨f,rfl⟩];exact xQ d b f h6
      | true=>rw[if_neg (by simp)];exact BE d b f h6
     ·rw[if_neg (fun h=>f h.1)]
      refine Bg d b g f ?_
      obtain⟨s,q,_⟩:=cK d
      have r:bD a.k≠0:=by
       unfold bD
       rw[if_neg (by omega)]
       repeat (first | (split;(try omega)) | omega)
      omega
  ·rw[if_pos (by simpa using j)]
   exact Dh d (by rw[beq_eq_false_iff_ne];exact fun h=>j (fL h))
 ·rw[if_pos (by simpa using d)];exact zH d
end
section
theorem rM (a b:Int):aY (up a b)=true:=by unfold aY;rw[decide_eq_true_eq];exact⟨Fl _ _,FJ _ _⟩
theorem wm {f:Nat→Int} {s n:Int} (h:bw f s=true):bw (bU f s n) (cW f s n)=true:=by
 unfold bU cW
 split
 ·rw[jo]at h ⊢
  refine⟨fun i a=>?_,(qp _).symm⟩
  unfold dL
  split
  ·exact(qp _).symm
  ·exact h.1 i a
 ·exact h
theorem DO (ok:Bool) (e:Int×Int) (h:bM e=false):bM (bump ok e)=false:=by
 unfold bump bM kY at *
 split<;>simp only[Bool.or_eq_false_iff,Bool.not_eq_false']at * <;> first | exact⟨by simpa using rM _ _,h.2⟩ | exact⟨h.1,by simpa using rM _ _⟩
theorem vN {wd sl a:Int} {cs:List (Int×Int)} (ok:Bool) (j:cj wd sl cs=true) (k:aY a=true):cj (eD wd sl cs a ok).wd (eD wd sl cs a ok).sl (eD wd sl cs a ok).cs=true:=by
 obtain⟨c,cs',d,m,_,_,i,_⟩:=lT j k
 by_cases h:a/wd≤c-cs'.length
 ·rw[mT d h];exact i
 ·rw[rj d h]
  simp only
  obtain⟨g,f⟩:=dH.1 i
  refine dH.2 ⟨by rw[List.length_set];exact g,fun e l=>?_⟩
  rcases List.mem_or_eq_of_mem_set l with b | b
  ·exact f e b
  ·subst b
   refine DO ok _ ?_
   rw[List.getD_eq_getElem?_getD]
   cases hc:cs'[(a/wd%cs'.length).toNat]? with
   | none=>rfl
   | some x=>exact f x (List.mem_of_getElem? hc)
theorem lC {wd a:Int} {k:Int} (b:oE wd k a=true):cj (newR wd k a).wd (newR wd k a).sl (newR wd k a).cs=true:=by
 have h:=b
 unfold oE at h
 rw[decide_eq_true_eq]at h
 unfold newR
 rw[if_pos b]
 simp only
 have f:0≤a/wd:=Int.ediv_nonneg (by omega) (by omega)
 have d:a/wd≤1099511627776:=Int.le_trans (Int.ediv_le_self wd (by omega)) (by omega)
 refine dH.2 ⟨by rw[List.length_replicate];omega,fun e c=>?_⟩
 rw[List.eq_of_mem_replicate c]
 rfl
theorem DK {nm:ByteArray} {role a:Int} (c:1≤nm.size) (b:nm.size≤24) (f:1≤role) (e:role≤3) (d:0≤a) (g:a≤1099511627776):dr (jm nm role a):=by
 unfold jm
 split
 ·refine⟨⟨c,b⟩,⟨rfl,rfl,rfl⟩,.inl ⟨rfl,by simp,by simp,?_,rfl,rfl,rfl⟩⟩
  have:=lC (wd:=10) (a:=a) (k:=4) (by unfold oE;rw[decide_eq_true_eq];omega)
  unfold newR at this
  rw[if_pos (by unfold oE;rw[decide_eq_true_eq];omega)]at this
  exact this
 ·refine⟨⟨c,b⟩,⟨rfl,rfl,rfl⟩,?_⟩
  rcases(by omega:role=2∨role=3) with rfl | rfl
  ·exact .inr (.inl ⟨rfl,rfl,rfl,rfl,rfl,fun _=>rfl,rfl,rfl⟩)
  ·exact .inr (.inr ⟨rfl,by simp,by simp,rfl,rfl,rfl,rfl,rfl⟩)
theorem iZ {c:Cmp} (h:dr c) (i:Nat):dr (pW c i):=by
 obtain⟨b,⟨e,f,d⟩,a⟩:=h
 refine⟨b,⟨?_,?_,?_⟩,a⟩<;>(simp only[pW,dL];split<;>first | exact rM _ _ | assumption)
theorem sP {room has n:Int} (h:eF room has=true) (hn:0≤n):eF room (ig has n)=true:=by
 unfold eF ig at *
 rw[decide_eq_true_eq]at *
 omega
theorem DA {room has n:Int} (h:eF room has=true) (hn:0≤n):eF room (mC room has n)=true:=by
 unfold eF mC at *
 rw[decide_eq_true_eq]at *
 omega
theorem cD {c:Cmp} {e:Evt} (h:iw c e=0):bX e=0∧e.cm=c.nm∧e.k≠1∧(bD e.k=0∨bD e.k=c.role)∧(e.k=2→gH c.role e=true):=by
 unfold iw at h
 by_cases a:bX e=0
 ·rw[if_neg (by simpa using a)]at h
  by_cases b:e.cm=c.nm
  ·rw[if_neg (by simpa using b)]at h
   by_cases d:e.k=1
   ·rw[if_pos d]at h;omega
   ·rw[if_neg d]at h
    by_cases g:bD e.k≠0∧bD e.k≠c.role
    ·rw[if_pos g]at h;omega
    ·rw[if_neg g]at h
     by_cases f:e.k=2∧gH c.role e=false
     ·rw[if_pos f]at h;omega
     ·refine⟨a,b,d,by omega,fun i=>?_⟩
      cases hc:gH c.role e with
      | true=>rfl
      | false=>exact absurd ⟨i,hc⟩ f
  ·rw[if_pos (by simpa using b)]at h;omega
 ·rw[if_pos (by simpa using a)]at h
  exact absurd h a
theorem Cj {c:Cmp} {e:Evt} (z:dr c) (C:iw c e=0):dr (cH c e):=by
 obtain⟨F,E,L,s,v⟩:=cD C
 obtain⟨G,D,_,kw,ka,kb,_,_⟩:=cK F
 obtain⟨⟨q,A⟩,⟨N,J⟩,⟨I,M⟩,_,_⟩:=dB ⟨G,D⟩ kw
 have o:=kw
 unfold cJ inB cR at o
 obtain⟨nm,role,mode,wd,sl,cells,K,O,room,has,ct⟩:=c
 obtain⟨⟨t,w⟩,y,n⟩:=z
 simp only at t w y n E s v
 have r:aY e.a=true:=by unfold aY;rw[decide_eq_true_eq];exact⟨ka,kb⟩
 have mk:∀ c':Cmp,c'.nm=nm→c'.ct=ct→_→dr c':=fun c' B H h=>⟨by rw[B];exact⟨t,w⟩,by rw[H];exact y,h⟩
 rcases(by omega:e.k=2∨e.k=3∨e.k=4∨e.k=5∨e.k=6∨e.k=7∨e.k=8∨e.k=9∨e.k=10) with h | h | h | h | h | h | h | h | h<;>rw[h]at s o<;>simp[bD]at s<;>unfold cH<;>simp only[h,if_true,if_false,Int.reduceEq]
 ·have p:=v h
  unfold gH at p
  rcases n with⟨rfl,l,j,i,b,d,f⟩ | ⟨rfl,l,j,i,b,d,f,m⟩ | ⟨rfl,l,j,i,b,d,f,m⟩
  ·rw[if_pos rfl,decide_eq_true_eq]at p
   simp only[if_true]
   refine mk _ rfl rfl (.inl ⟨rfl,l,j,?_,b,d,f⟩)
   exact lC (by unfold oE;rw[decide_eq_true_eq];omega)
  ·rw[if_neg (by omega),if_pos rfl,decide_eq_true_eq]at p
   simp only[if_true,if_false,Int.reduceEq]
   exact mk _ rfl rfl (.inr (.inl ⟨rfl,l,j,i,b,d,f,by unfold eF;rw[decide_eq_true_eq];simp only;omega⟩))
  ·simp only[if_false,Int.reduceEq]
   exact mk _ rfl rfl (.inr (.inr ⟨rfl,l,j,i,b,d,f,by unfold eF;rw[decide_eq_true_eq];simp only;omega⟩))
 ·refine iZ ?_ _
  rcases n with⟨rfl,l,j,i,b,d,f⟩ | ⟨rfl,_⟩ | ⟨rfl,_⟩
  ·exact mk _ rfl rfl (.inl ⟨rfl,l,j,vN _ i r,wm b,d,f⟩)
  ·omega
  ·omega
 ·rcases n with⟨rfl,l,j,i,b,d,f⟩ | ⟨rfl,_⟩ | ⟨rfl,_⟩
  ·have u:0≤e.x∧e.x≤2:=by simp at o;omega
   split
   ·refine mk _ rfl rfl (.inl ⟨rfl,by simp only[yV];omega,by simp only[yV];omega,?_,b,d,f⟩)
    obtain⟨g,_⟩:=dH.1 i
    exact lC (by unfold oE;rw[decide_eq_true_eq];omega)
   ·exact mk _ rfl rfl (.inl ⟨rfl,u.1,u.2,i,b,d,f⟩)
  ·omega
  ·omega
 ·refine iZ ?_ _
  rcases n with⟨rfl,_⟩ | ⟨rfl,l,j,i,b,d,f,m⟩ | ⟨rfl,_⟩
  ·omega
  ·exact mk _ rfl rfl (.inr (.inl ⟨rfl,l,j,i,b,d,f,sP m q⟩))
  ·omega
 ·exact iZ (mk _ rfl rfl n) _
 ·refine iZ ?_ _
  rcases n with⟨rfl,_⟩ | ⟨rfl,l,j,i,b,d,f,m⟩ | ⟨rfl,_⟩
  ·omega
  ·exact mk _ rfl rfl (.inr (.inl ⟨rfl,l,j,i,b,d,f,DA m q⟩))
  ·omega
 ·refine iZ ?_ _
  rcases n with⟨rfl,_⟩ | ⟨rfl,_⟩ | ⟨rfl,l,j,i,b,d,f,m⟩
  ·omega
  ·omega
  ·exact mk _ rfl rfl (.inr (.inr ⟨rfl,q,A,i,b,d,f,sP m (by omega)⟩))
 ·refine iZ ?_ _
  rcases n with⟨rfl,_⟩ | ⟨rfl,_⟩ | ⟨rfl,l,j,i,b,d,f,m⟩
  ·omega
  ·omega
  ·exact mk _ rfl rfl (.inr (.inr ⟨rfl,l,j,i,b,d,wm f,m⟩))
 ·refine iZ ?_ _
  rcases n with⟨rfl,_⟩ | ⟨rfl,_⟩ | ⟨rfl,l,j,i,b,d,f,m⟩
  ·omega
  ·omega
  ·exact mk _ rfl rfl (.inr (.inr ⟨rfl,by simp,by simp,i,b,d,f,m⟩))
theorem mK (c:Cmp) (e:Evt):(cH c e).nm=c.nm:=by
 unfold cH
 repeat (first | rfl | split)
end
section
open Go.RowKit
def kF (c:Cmp) (X:List Nat) (w:World) (e:Ending) (w':World):Prop := ∃ A n cp,e = .returned (.tuple #[.agg (aL c A n cp).toArray,.int .i64 0])∧Below w.heap.size w w'∧aa w' X A n c.cells
theorem ej (c:Cmp) (A:Option Addr) (n a i:Nat) (d:i<3) (X:List Nat) (w:World) (hX:XOk X w):
 Calls Tryz.prog 167 #[.agg (aL c A n a).toArray,.int .i64 (i:Int)] w fun e w'=>e = .returned (.agg (aL (pW c i) A n a).toArray)∧Below w.heap.size w w':=by
 obtain⟨nm,role,mode,wd,sl,cells,h,b,room,has,f⟩:=c
 simp only[aL]
 rcases(by omega:i=0∨i=1∨i=2) with rfl | rfl | rfl
 all_goals
  go_enter Tryz.func167,Tryz.ntmps167
  go_upto_region 2 with(go_at_call 221;refine(nR _ _ _).mono ?_;rintro e w' ⟨rfl,rfl⟩)
  refine(hstart hX).cw fun W K=>?_
  refine wp_region_lit (K.ld 1 rfl ?_)
  refine K.sr 0 rfl fun W K=>?_
  go_wp2
  exact K.rc1 0 rfl rfl ⟨rfl,K.below⟩
theorem EV (nm:ByteArray) (role a:Int) (l:1≤nm.size) (q:nm.size≤24) (k:1≤role) (m:role≤3) (s:0≤a) (u:a≤1099511627776) (X:List Nat) (w:World) (hX:XOk X w):
 Calls Tryz.prog 94 #[.string nm,.int .i64 role,.int .i64 a] w (kF (jm nm role a) X w):=by
 have g:=ug l q
 have h:nm.size≤maxLen:=by unfold maxLen;omega
 have r:role=1∨role=2∨role=3:=by omega
 clear k m
 rcases r with rfl | rfl | rfl
 all_goals
  go_enter Tryz.func94,Tryz.ntmps94
  go_upto_region 8 with(first
   | (go_at_call 58;refine(gQ nm _ h).mono ?_;rw[g];rintro e t ⟨rfl,rfl⟩)
   | (refine(hstart hX).lw fun W K=>?_;refine K.sr 0 rfl fun W K=>?_))
 ·go_wp2_with fail
  refine(zE 10 4 a W).mono ?_
  intro e o j
  obtain⟨A,n,p,rfl,d,i⟩:=aa.of_win (X:=Exs _++X) j K.xok (aa.zero _ _) (.inr rfl)
  have K:=(K.on d).kn (f:=aa.fact A n _) i
  have b:newR 10 4 a=⟨10,a/10,List.replicate 4 (0,0),0⟩:=by unfold newR oE;rw[if_pos (by rw[decide_eq_true_eq];omega)];rfl
  rw[b]at K ⊢
  have c0:=K.c 0 rfl
  go_upto_region 11 with(fail)
  clear c0
  refine K.cw fun W K=>?_
  refine wp_region_lit (K.ld 0 rfl ?_)
  refine K.sr 1 rfl fun W K=>?_
  go_wp2
  exact K.rc2 1 rfl rfl ⟨A,n,p,rfl,K.below,K.back (K.fa 0 rfl)⟩
 all_goals
  go_wp2_with fail
  refine(uC 10 10 rfl W _ K.xok).mono ?_
  rintro e o ⟨rfl,d⟩
  have K:=K.on d
  have c0:=K.c 0 rfl
  go_upto_region 11 with(fail)
  clear c0
  refine K.cw fun W K=>?_
  refine wp_region_lit (K.ld 0 rfl ?_)
  refine K.sr 1 rfl fun W K=>?_
  go_wp2
  exact K.rc2 1 rfl rfl ⟨none,0,0,rfl,K.below,aa.zero _ _⟩
end
section
open Go.RowKit
def Ei (c:Cmp) (e:Evt):Cmp:=if c.role=1 then yV c (newR e.x e.y e.a) else if c.role=2 then { c with room:=e.x,has:=e.y } else { c with room:=e.x,has:=e.x }
theorem so (c:Cmp) (A:Option Addr) (n j:Nat) (g:Evt) (X:List Nat) (w:World) (hX:XOk X w) (k:aa w X A n c.cells) (u:c.role=1∨c.role=2∨c.role=3) (d:c.role=2→eF g.x g.y=true) (a:c.role=3→eF g.x g.x=true):
 Calls Tryz.prog 164 #[.agg (aL c A n j).toArray,.agg (evA g)] w fun e w' => ∃ A n j,e = .returned (.agg (aL (Ei c g) A n j).toArray)∧Below w.heap.size w w'∧aa w' X A n (Ei c g).cells:=by
 obtain⟨nm,role,mode,wd,sl,cells,h,z,room,has,B⟩:=c
 obtain⟨eq,ea,C,s,ex,t,v⟩:=g
 simp only at *
 simp only[aL,evA]
 rcases u with rfl | rfl | rfl
 all_goals
  go_enter Tryz.func164,Tryz.ntmps164
  go_upto_region 1 with(fail)
  refine(hstart hX).cw fun W K=>?_
  have K:=K.k0 (f:=aa.fact A n cells) k
  have o:=K.r 1 rfl
  have b:=K.r 2 rfl
 ·clear d a
  go_wp2_with fail
  refine(zE ex t ea W).mono ?_
  intro e p q
  obtain⟨A',n',m,rfl,i,l⟩:=aa.of_win (X:=Exs _++X) q K.xok (aa.zero _ _) (.inr rfl)
  have K:=(K.on i).kn (f:=aa.fact A' n' _) l
  clear o b k
  have b:=K.c 2 rfl
  go_upto_region 8 with(fail)
  clear b
  refine K.cw fun W K=>?_
  refine wp_region_lit (K.ld 2 rfl ?_)
  refine K.sr 0 rfl fun W K=>?_
  go_wp2
  exact K.rc1 0 rfl rfl ⟨A',n',m,rfl,K.below,K.back (K.fa 0 rfl)⟩
 ·have hB:=d rfl
  clear d a k
  go_wp2_with fail
  refine(uC _ _ hB W _ K.xok).mono ?_
  rintro e p ⟨rfl,i⟩
  have K:=K.on i
  clear o b
  have b:=K.c 2 rfl
  go_upto_region 8 with(fail)
  clear b
  refine K.cw fun W K=>?_
  refine wp_region_lit (K.ld 2 rfl ?_)
  refine K.sr 0 rfl fun W K=>?_
  go_wp2
  exact K.rc1 0 rfl rfl ⟨A,n,j,rfl,K.below,K.back (K.fa 0 rfl)⟩
 ·have hB:=a rfl
  clear d a k
  go_wp2_with fail
  refine(uC _ _ hB W _ K.xok).mono ?_
  rintro e p ⟨rfl,i⟩
  have K:=K.on i
  clear o b
  have b:=K.c 2 rfl
  go_upto_region 8 with(fail)
  clear b
  refine K.cw fun W K=>?_
  refine wp_region_lit (K.ld 2 rfl ?_)
  refine K.sr 0 rfl fun W K=>?_
  go_wp2
  exact K.rc1 0 rfl rfl ⟨A,n,j,rfl,K.below,K.back (K.fa 0 rfl)⟩
end
section
open Go.RowKit
theorem mV {c:Cmp} (h:dr c) (a:c.role≠1):eF c.room c.has=true:=by
 rcases h.2.2 with h | h | h
 ·exact absurd h.1 a
 ·exact h.2.2.2.2.2.2.2
 ·exact h.2.2.2.2.2.2.2
theorem yd {c:Cmp} {e:Evt} (h:iw c e=0):0≤e.x∧0≤e.y∧0≤e.a∧e.a≤1099511627776:=by
 obtain⟨f,d,_,kw,ka,kb,_,_⟩:=cK (cD h).1
 obtain⟨⟨g,i⟩,⟨b,j⟩,_⟩:=dB ⟨f,d⟩ kw
 exact⟨g,b,ka,kb⟩
def lf (c:Cmp) (e0:Evt) (c':Cmp):Prop := ∀ (A:Option Addr) (n cp:Nat) (X:List Nat) (w:World),XOk X w→aa w X A n c.cells→dr c→e0.cm.size≤maxLen→iw c e0=0→(e0.x=0∨e0.x=1∨e0.x=2∨e0.k≠3) →
 Calls Tryz.prog 100 #[.agg (aL c A n cp).toArray,.agg (evA e0)] w (kF c' X w)
theorem CX {c:Cmp} {b:Evt} (o:b.k=6):lf c b (cH c b):=by
 intro A n m X w hX j g i l v
 obtain⟨nm,role,mode,wd,sl,cells,h,s,room,has,t⟩:=c
 obtain⟨eq,ea,B,p,ex,u,x⟩:=b
 simp only at *
 subst o
 simp only[aL,evA]
 go_enter Tryz.func100,Tryz.ntmps100
 go_upto_region 1 with(fail)
 refine(hstart hX).cw fun W K=>?_
 have K:=K.k0 (f:=aa.fact A n cells) j
 refine wp_region_lit (K.ld 2 rfl ?_)
 have a:=K.r 1 rfl
 go_wp2_with fail
 clear a
 refine(gR ⟨nm,_,mode,wd,sl,cells,h,s,room,has,t⟩ A n m ⟨_,_,_,_,_,_,_⟩ _ W K.xok (K.fa 0 rfl) g i).mono ?_
 rw[l]
 rintro e z ⟨rfl,d⟩
 have K:=K.on d
 clear d j l
 have a:=K.r 1 rfl
 have q:=K.c 2 rfl
 go_upto_region 19 with(fail)
 clear a q
 refine K.cw fun W K=>?_
 refine wp_region_lit (K.ld 2 rfl ?_)
 have a:=K.r 1 rfl
 go_wp2_with fail
 refine(ej ⟨_,_,_,_,_,cells,_,_,_,_,_⟩ _ _ _ 1 (by omega) _ W K.xok).mono ?_
 rintro e y ⟨rfl,d⟩
 have K:=K.on d
 clear a
 go_wp2_with (refine K.sr 0 rfl fun W K=>?_)
 exact K.rc2 0 rfl rfl ⟨A,n,m,rfl,K.below,K.back (K.fa 0 rfl)⟩
theorem AD {c:Cmp} {b:Evt} (o:b.k=10):lf c b (cH c b):=by
 intro A n m X w hX j g i l v
 obtain⟨nm,role,mode,wd,sl,cells,h,s,room,has,t⟩:=c
 obtain⟨eq,ea,B,p,ex,u,x⟩:=b
 simp only at *
 subst o
 simp only[aL,evA]
 go_enter Tryz.func100,Tryz.ntmps100
 go_upto_region 1 with(fail)
 refine(hstart hX).cw fun W K=>?_
 have K:=K.k0 (f:=aa.fact A n cells) j
 refine wp_region_lit (K.ld 2 rfl ?_)
 have a:=K.r 1 rfl
 go_wp2_with fail
 clear a
 refine(gR ⟨nm,_,mode,wd,sl,cells,h,s,room,has,t⟩ A n m ⟨_,_,_,_,_,_,_⟩ _ W K.xok (K.fa 0 rfl) g i).mono ?_
 rw[l]
 rintro e z ⟨rfl,d⟩
 have K:=K.on d
 clear d j l
 have a:=K.r 1 rfl
 have q:=K.c 2 rfl
 go_upto_region 32 with(fail)
 clear a q
 refine K.cw fun W K=>?_
 refine wp_region_lit (K.ld 2 rfl ?_)
 have a:=K.r 1 rfl
 go_wp2_with fail
 refine(ej ⟨_,_,_,_,_,cells,_,_,_,_,_⟩ _ _ _ 2 (by omega) _ W K.xok).mono ?_
 rintro e y ⟨rfl,d⟩
 have K:=K.on d
 clear a
 go_wp2_with (refine K.sr 0 rfl fun W K=>?_)
 exact K.rc2 0 rfl rfl ⟨A,n,m,rfl,K.below,K.back (K.fa 0 rfl)⟩
theorem DY {c:Cmp} {j:Evt} (s:j.k=5):lf c j (cH c j):=by
 intro A n q X w hX p d m l B
 obtain⟨nm,role,mode,wd,sl,cells,h,x,room,has,y⟩:=c
 obtain⟨eq,ea,E,t,ex,z,C⟩:=j
 simp only at *
 subst s
 obtain rfl:role=2:=by
  have v:=(cD l).2.2.2.1
  simp[bD]at v
  omega
 have i:=mV d (by simp)
 have g:=yd l
 simp only at i g
 simp only[aL,evA]
 go_enter Tryz.func100,Tryz.ntmps100
 go_upto_region 1 with(fail)
 refine(hstart hX).cw fun W K=>?_
 have K:=K.k0 (f:=aa.fact A n cells) p
 refine wp_region_lit (K.ld 2 rfl ?_)
 have b:=K.r 1 rfl
 go_wp2_with fail
 clear b
 refine(gR ⟨nm,_,mode,wd,sl,cells,h,x,room,has,y⟩ A n q ⟨_,_,_,_,_,_,_⟩ _ W K.xok (K.fa 0 rfl) d m).mono ?_
 rw[l]
 rintro e D ⟨rfl,a⟩
 have K:=K.on a
 clear a p l
 have b:=K.r 1 rfl
 have o:=K.c 2 rfl
 go_upto_region 16 with(fail)
 go_wp2_with fail
 refine K.cl fun W K=>?_
 refine(wJ _ _ _ i g.1 W _ K.xok).mono ?_
 rintro e u ⟨rfl,a⟩
 have K:=K.on a
 clear a b o
 have b:=K.r 1 rfl
 have o:=K.c 2 rfl
 go_upto_region 17 with(fail)
 clear b o
 refine K.cw fun W K=>?_
 refine wp_region_lit (K.ld 2 rfl ?_)
 have b:=K.r 1 rfl
 go_wp2_with fail
 refine(ej ⟨_,_,_,_,_,cells,_,_,_,_,_⟩ _ _ _ 0 (by omega) _ W K.xok).mono ?_
 rintro e u ⟨rfl,a⟩
 have K:=K.on a
 clear b
 go_wp2_with (refine K.sr 0 rfl fun W K=>?_)
 exact K.rc2 0 rfl rfl ⟨A,n,q,rfl,K.below,K.back (K.fa 0 rfl)⟩
theorem Dc {c:Cmp} {j:Evt} (s:j.k=7):lf c j (cH c j):=by
 intro A n q X w hX p d m l B
 obtain⟨nm,role,mode,wd,sl,cells,h,x,room,has,y⟩:=c
 obtain⟨eq,ea,E,t,ex,z,C⟩:=j
 simp only at *
 subst s
 obtain rfl:role=2:=by
  have v:=(cD l).2.2.2.1
  simp[bD]at v
  omega
 have i:=mV d (by simp)
 have g:=yd l
 simp only at i g
 simp only[aL,evA]
 go_enter Tryz.func100,Tryz.ntmps100
 go_upto_region 1 with(fail)
 refine(hstart hX).cw fun W K=>?_
 have K:=K.k0 (f:=aa.fact A n cells) p
 refine wp_region_lit (K.ld 2 rfl ?_)
 have b:=K.r 1 rfl
 go_wp2_with fail
 clear b
 refine(gR ⟨nm,_,mode,wd,sl,cells,h,x,room,has,y⟩ A n q ⟨_,_,_,_,_,_,_⟩ _ W K.xok (K.fa 0 rfl) d m).mono ?_
 rw[l]
 rintro e D ⟨rfl,a⟩
 have K:=K.on a
 clear a p l
 have b:=K.r 1 rfl
 have o:=K.c 2 rfl
 go_upto_region 21 with(fail)
 go_wp2_with fail
 refine K.cl fun W K=>?_
 refine(Fb _ _ _ i g.1 W _ K.xok).mono ?_
 rintro e u ⟨rfl,a⟩
 have K:=K.on a
 clear a b o
 have b:=K.r 1 rfl
 have o:=K.c 2 rfl
 go_upto_region 22 with(fail)
 clear b o
 refine K.cw fun W K=>?_
 refine wp_region_lit (K.ld 2 rfl ?_)
 have b:=K.r 1 rfl
 go_wp2_with fail
 refine(ej ⟨_,_,_,_,_,cells,_,_,_,_,_⟩ _ _ _ 2 (by omega) _ W K.xok).mono ?_
 rintro e u ⟨rfl,a⟩
 have K:=K.on a
 clear b
 go_wp2_with (refine K.sr 0 rfl fun W K=>?_)
 exact K.rc2 0 rfl rfl ⟨A,n,q,rfl,K.below,K.back (K.fa 0 rfl)⟩
theorem CR {c:Cmp} {i:Evt} (s:i.k=8):lf c i (cH c i):=by
 intro A n q X w hX p d l j B
 obtain⟨nm,role,mode,wd,sl,cells,h,x,room,has,y⟩:=c
 obtain⟨eq,ea,E,t,ex,z,C⟩:=i
 simp only at *
 subst s
 obtain rfl:role=3:=by
  have v:=(cD j).2.2.2.1
  simp[bD]at v
  omega
 have g:=mV d (by simp)
 have o:=yd j
 simp only at g o
 simp only[aL,evA]
 go_enter Tryz.func100,Tryz.ntmps100
 go_upto_region 1 with(fail)
 refine(hstart hX).cw fun W K=>?_
 have K:=K.k0 (f:=aa.fact A n cells) p
 refine wp_region_lit (K.ld 2 rfl ?_)
 have b:=K.r 1 rfl
 go_wp2_with fail
 clear b
 refine(gR ⟨nm,_,mode,wd,sl,cells,h,x,room,has,y⟩ A n q ⟨_,_,_,_,_,_,_⟩ _ W K.xok (K.fa 0 rfl) d l).mono ?_
 rw[j]
 rintro e D ⟨rfl,a⟩
 have K:=K.on a
 clear a p j
 have b:=K.r 1 rfl
 have m:=K.c 2 rfl
 go_upto_region 24 with(fail)
 go_wp2_with fail
 refine K.cl fun W K=>?_
 refine(wJ _ _ _ g (by omega) W _ K.xok).mono ?_
 rintro e u ⟨rfl,a⟩
 have K:=K.on a
 clear a b m
 have b:=K.r 1 rfl
 have m:=K.c 2 rfl
 go_upto_region 26 with(fail)
 clear b m
 refine K.cw fun W K=>?_
 refine wp_region_lit (K.ld 2 rfl ?_)
 have b:=K.r 1 rfl
 go_wp2_with fail
 refine(ej ⟨_,_,_,_,_,cells,_,_,_,_,_⟩ _ _ _ 0 (by omega) _ W K.xok).mono ?_
 rintro e u ⟨rfl,a⟩
 have K:=K.on a
 clear b
 go_wp2_with (refine K.sr 0 rfl fun W K=>?_)
 exact K.rc2 0 rfl rfl ⟨A,n,q,rfl,K.below,K.back (K.fa 0 rfl)⟩
end
section
open Go.RowKit
set_option maxHeartbeats 4000000 in
theorem ED (f:Nat→Int) (s n:Int) (w:World) (h:¬ (bw f s=true∧0≤n)):Calls Tryz.prog 166 #[.agg #[.int .i64 (f 0),.int .i64 (f 1),.int .i64 (f 2),.int .i64 (f 3),.int .i64 (f 4),.int .i64 (f 5),.int .i64 (f 6),.int .i64 (f 7),.int .i64 (f 8),.int .i64 s],.int .i64 n] w fun e w'=>e = .returned (.agg #[.int .i64 (f 0),.int .i64 (f 1),.int .i64 (f 2),.int .i64 (f 3),.int .i64 (f 4),.int .i64 (f 5),.int .i64 (f 6),.int .i64 (f 7),.int .i64 (f 8),.int .i64 s])∧Below w.heap.size w w':=by
 have g:=fun W=>Lib.hid (eK f s W)
 by_cases hR:bw f s=true
 ·have hn:n<0:=by
   rcases Int.lt_or_le n 0 with h' | h'
   ·exact h'
   ·exact absurd ⟨hR,h'⟩ h
  clear h
  go_enter Tryz.func166,Tryz.ntmps166
  go_wp2_with (go_at_call 222;refine((g _).out).mono ?_;rintro e w1 ⟨rfl,a⟩;obtain⟨b,d⟩:=cC a;have c:w.heap.size+1<w1.heap.size:=(by have:=a.size;simp at this;omega))
  have hbase:Below w.heap.size w w1:=(((Below.refl _ _).alloc (Nat.le_refl _) _).alloc (by simp) _).trans (a.mono (by simp;omega))
  refine bodyPost_ret (v := .agg #[.int .i64 (f 0),.int .i64 (f 1),.int .i64 (f 2),.int .i64 (f 3),.int .i64 (f 4),.int .i64 (f 5),.int .i64 (f 6),.int .i64 (f 7),.int .i64 (f 8),.int .i64 s]) (by simp[results,Tryz.results166,go_sem,b]) rfl ⟨rfl,?_⟩
  repeat (refine Below.setCell ?_ (by simp) _)
  exact hbase
 ·have i:bw f s=false:=by simpa using hR
  clear h hR
  go_enter Tryz.func166,Tryz.ntmps166
  go_wp2_with (go_at_call 222;refine((g _).out).mono ?_;rintro e w1 ⟨rfl,a⟩;obtain⟨b,d⟩:=cC a;have c:w.heap.size+1<w1.heap.size:=(by have:=a.size;simp at this;omega))
  have hbase:Below w.heap.size w w1:=(((Below.refl _ _).alloc (Nat.le_refl _) _).alloc (by simp) _).trans (a.mono (by simp;omega))
  refine bodyPost_ret (v := .agg #[.int .i64 (f 0),.int .i64 (f 1),.int .i64 (f 2),.int .i64 (f 3),.int .i64 (f 4),.int .i64 (f 5),.int .i64 (f 6),.int .i64 (f 7),.int .i64 (f 8),.int .i64 s]) (by simp[results,Tryz.results166,go_sem,b]) rfl ⟨rfl,?_⟩
  repeat (refine Below.setCell ?_ (by simp) _)
  exact hbase
set_option maxHeartbeats 4000000 in
theorem BP (f:Nat→Int) (s n:Int) (w:World) (hR:bw f s=true) (hn:0≤n) (c:aV n=0):Calls Tryz.prog 166 #[.agg #[.int .i64 (f 0),.int .i64 (f 1),.int .i64 (f 2),.int .i64 (f 3),.int .i64 (f 4),.int .i64 (f 5),.int .i64 (f 6),.int .i64 (f 7),.int .i64 (f 8),.int .i64 s],.int .i64 n] w fun e w'=>e = .returned (.agg #[.int .i64 (up (f 0) 1),.int .i64 (f 1),.int .i64 (f 2),.int .i64 (f 3),.int .i64 (f 4),.int .i64 (f 5),.int .i64 (f 6),.int .i64 (f 7),.int .i64 (f 8),.int .i64 (up s n)])∧Below w.heap.size w w':=by
 have j:=fun W=>Lib.hid (eK f s W)
 have d:=Lib.hid c;clear c
 go_enter Tryz.func166,Tryz.ntmps166
 go_wp2_with (first
  | (go_at_call 222;refine((j _).out).mono ?_;rintro e w1 ⟨rfl,b⟩;obtain⟨a,i⟩:=cC b;have g:w.heap.size+1<w1.heap.size:=(by have:=b.size;simp at this;omega);have k:w1.cell? ⟨w.heap.size,0,none⟩=some (.int .i64 (f 0)):=(by have h:=a w.heap.size 0 (by simp;omega);simpa using h);have l:w1.cell? ⟨w.heap.size,9,none⟩=some (.int .i64 s):=by have h:=a w.heap.size 9 (by simp;omega);simpa using h)
  | (go_at_call 223;refine(gq _ _).mono ?_;rintro e m ⟨rfl,rfl⟩;rw[d.out])
  | (go_at_call 221;refine(nR _ _ _).mono ?_;rintro e w' ⟨rfl,rfl⟩))
 have hbase:Below w.heap.size w w1:=(((Below.refl _ _).alloc (Nat.le_refl _) _).alloc (by simp) _).trans (b.mono (by simp;omega))
 refine bodyPost_ret (v := .agg #[.int .i64 (up (f 0) 1),.int .i64 (f 1),.int .i64 (f 2),.int .i64 (f 3),.int .i64 (f 4),.int .i64 (f 5),.int .i64 (f 6),.int .i64 (f 7),.int .i64 (f 8),.int .i64 (up s n)]) (by simp[results,Tryz.results166,go_sem,a]) rfl ⟨rfl,?_⟩
 repeat (refine Below.setCell ?_ (by simp) _)
 exact hbase
set_option maxHeartbeats 4000000 in
theorem Bj (f:Nat→Int) (s n:Int) (w:World) (hR:bw f s=true) (hn:0≤n) (c:aV n=1):Calls Tryz.prog 166 #[.agg #[.int .i64 (f 0),.int .i64 (f 1),.int .i64 (f 2),.int .i64 (f 3),.int .i64 (f 4),.int .i64 (f 5),.int .i64 (f 6),.int .i64 (f 7),.int .i64 (f 8),.int .i64 s],.int .i64 n] w fun e w'=>e = .returned (.agg #[.int .i64 (f 0),.int .i64 (up (f 1) 1),.int .i64 (f 2),.int .i64 (f 3),.int .i64 (f 4),.int .i64 (f 5),.int .i64 (f 6),.int .i64 (f 7),.int .i64 (f 8),.int .i64 (up s n)])∧Below w.heap.size w w':=by
 have j:=fun W=>Lib.hid (eK f s W)
 have d:=Lib.hid c;clear c
 go_enter Tryz.func166,Tryz.ntmps166
 go_wp2_with (first
  | (go_at_call 222;refine((j _).out).mono ?_;rintro e w1 ⟨rfl,b⟩;obtain⟨a,i⟩:=cC b;have g:w.heap.size+1<w1.heap.size:=(by have:=b.size;simp at this;omega);have k:w1.cell? ⟨w.heap.size,1,none⟩=some (.int .i64 (f 1)):=(by have h:=a w.heap.size 1 (by simp;omega);simpa using h);have l:w1.cell? ⟨w.heap.size,9,none⟩=some (.int .i64 s):=by have h:=a w.heap.size 9 (by simp;omega);simpa using h)
  | (go_at_call 223;refine(gq _ _).mono ?_;rintro e m ⟨rfl,rfl⟩;rw[d.out])
  | (go_at_call 221;refine(nR _ _ _).mono ?_;rintro e w' ⟨rfl,rfl⟩))
 have hbase:Below w.heap.size w w1:=(((Below.refl _ _).alloc (Nat.le_refl _) _).alloc (by simp) _).trans (b.mono (by simp;omega))
 refine bodyPost_ret (v := .agg #[.int .i64 (f 0),.int .i64 (up (f 1) 1),.int .i64 (f 2),.int .i64 (f 3),.int .i64 (f 4),.int .i64 (f 5),.int .i64 (f 6),.int .i64 (f 7),.int .i64 (f 8),.int .i64 (up s n)]) (by simp[results,Tryz.results166,go_sem,a]) rfl ⟨rfl,?_⟩
 repeat (refine Below.setCell ?_ (by simp) _)
 exact hbase
set_option maxHeartbeats 4000000 in
theorem Cf (f:Nat→Int) (s n:Int) (w:World) (hR:bw f s=true) (hn:0≤n) (c:aV n=2):Calls Tryz.prog 166 #[.agg #[.int .i64 (f 0),.int .i64 (f 1),.int .i64 (f 2),.int .i64 (f 3),.int .i64 (f 4),.int .i64 (f 5),.int .i64 (f 6),.int .i64 (f 7),.int .i64 (f 8),.int .i64 s],.int .i64 n] w fun e w'=>e = .returned (.agg #[.int .i64 (f 0),.int .i64 (f 1),.int .i64 (up (f 2) 1),.int .i64 (f 3),.int .i64 (f 4),.int .i64 (f 5),.int .i64 (f 6),.int .i64 (f 7),.int .i64 (f 8),.int .i64 (up s n)])∧Below w.heap.size w w':=by
 have j:=fun W=>Lib.hid (eK f s W)
 have d:=Lib.hid c;clear c
 go_enter Tryz.func166,Tryz.ntmps166
 go_wp2_with (first
  | (go_at_call 222;refine((j _).out).mono ?_;rintro e w1 ⟨rfl,b⟩;obtain⟨a,i⟩:=cC b;have g:w.heap.size+1<w1.heap.size:=(by have:=b.size;simp at this;omega);have k:w1.cell? ⟨w.heap.size,2,none⟩=some (.int .i64 (f 2)):=(by have h:=a w.heap.size 2 (by simp;omega);simpa using h);have l:w1.cell? ⟨w.heap.size,9,none⟩=some (.int .i64 s):=by have h:=a w.heap.size 9 (by simp;omega);simpa using h)
  | (go_at_call 223;refine(gq _ _).mono ?_;rintro e m ⟨rfl,rfl⟩;rw[d.out])
  | (go_at_call 221;refine(nR _ _ _).mono ?_;rintro e w' ⟨rfl,rfl⟩))
 have hbase:Below w.heap.size w w1:=(((Below.refl _ _).alloc (Nat.le_refl _) _).alloc (by simp) _).trans (b.mono (by simp;omega))
 refine bodyPost_ret (v := .agg #[.int .i64 (f 0),.int .i64 (f 1),.int .i64 (up (f 2) 1),.int .i64 (f 3),.int .i64 (f 4),.int .i64 (f 5),.int .i64 (f 6),.int .i64 (f 7),.int .i64 (f 8),.int .i64 (up s n)]) (by simp[results,Tryz.results166,go_sem,a]) rfl ⟨rfl,?_⟩
 repeat (refine Below.setCell ?_ (by simp) _)
 exact hbase
set_option maxHeartbeats 4000000 in
theorem Bm (f:Nat→Int) (s n:Int) (w:World) (hR:bw f s=true) (hn:0≤n) (c:aV n=3):Calls Tryz.prog 166 #[.agg #[.int .i64 (f 0),.int .i64 (f 1),.int .i64 (f 2),.int .i64 (f 3),.int .i64 (f 4),.int .i64 (f 5),.int .i64 (f 6),.int .i64 (f 7),.int .i64 (f 8),.int .i64 s],.int .i64 n] w fun e w'=>e = .returned (.agg #[.int .i64 (f 0),.int .i64 (f 1),.int .i64 (f 2),.int .i64 (up (f 3) 1),.int .i64 (f 4),.int .i64 (f 5),.int .i64 (f 6),.int .i64 (f 7),.int .i64 (f 8),.int .i64 (up s n)])∧Below w.heap.size w w':=by
 have j:=fun W=>Lib.hid (eK f s W)
 have d:=Lib.hid c;clear c
 go_enter Tryz.func166,Tryz.ntmps166
 go_wp2_with (first
  | (go_at_call 222;refine((j _).out).mono ?_;rintro e w1 ⟨rfl,b⟩;obtain⟨a,i⟩:=cC b;have g:w.heap.size+1<w1.heap.size:=(by have:=b.size;simp at this;omega);have k:w1.cell? ⟨w.heap.size,3,none⟩=some (.int .i64 (f 3)):=(by have h:=a w.heap.size 3 (by simp;omega);simpa using h);have l:w1.cell? ⟨w.heap.size,9,none⟩=some (.int .i64 s):=by have h:=a w.heap.size 9 (by simp;omega);simpa using h)
  | (go_at_call 223;refine(gq _ _).mono ?_;rintro e m ⟨rfl,rfl⟩;rw[d.out])
  | (go_at_call 221;refine(nR _ _ _).mono ?_;rintro e w' ⟨rfl,rfl⟩))
 have hbase:Below w.heap.size w w1:=(((Below.refl _ _).alloc (Nat.le_refl _) _).alloc (by simp) _).trans (b.mono (by simp;omega))
 refine bodyPost_ret (v := .agg #[.int .i64 (f 0),.int .i64 (f 1),.int .i64 (f 2),.int .i64 (up (f 3) 1),.int .i64 (f 4),.int .i64 (f 5),.int .i64 (f 6),.int .i64 (f 7),.int .i64 (f 8),.int .i64 (up s n)]) (by simp[results,Tryz.results166,go_sem,a]) rfl ⟨rfl,?_⟩
 repeat (refine Below.setCell ?_ (by simp) _)
 exact hbase
set_option maxHeartbeats 4000000 in
theorem zQ (f:Nat→Int) (s n:Int) (w:World) (hR:bw f s=true) (hn:0≤n) (c:aV n=4):Calls Tryz.prog 166 #[.agg #[.int .i64 (f 0),.int .i64 (f 1),.int .i64 (f 2),.int .i64 (f 3),.int .i64 (f 4),.int .i64 (f 5),.int .i64 (f 6),.int .i64 (f 7),.int .i64 (f 8),.int .i64 s],.int .i64 n] w fun e w'=>e = .returned (.agg #[.int .i64 (f 0),.int .i64 (f 1),.int .i64 (f 2),.int .i64 (f 3),.int .i64 (up (f 4) 1),.int .i64 (f 5),.int .i64 (f 6),.int .i64 (f 7),.int .i64 (f 8),.int .i64 (up s n)])∧Below w.heap.size w w':=by
 have j:=fun W=>Lib.hid (eK f s W)
 have d:=Lib.hid c;clear c
 go_enter Tryz.func166,Tryz.ntmps166
 go_wp2_with (first
  | (go_at_call 222;refine((j _).out).mono ?_;rintro e w1 ⟨rfl,b⟩;obtain⟨a,i⟩:=cC b;have g:w.heap.size+1<w1.heap.size:=(by have:=b.size;simp at this;omega);have k:w1.cell? ⟨w.heap.size,4,none⟩=some (.int .i64 (f 4)):=(by have h:=a w.heap.size 4 (by simp;omega);simpa using h);have l:w1.cell? ⟨w.heap.size,9,none⟩=some (.int .i64 s):=by have h:=a w.heap.size 9 (by simp;omega);simpa using h)
  | (go_at_call 223;refine(gq _ _).mono ?_;rintro e m ⟨rfl,rfl⟩;rw[d.out])
  | (go_at_call 221;refine(nR _ _ _).mono ?_;rintro e w' ⟨rfl,rfl⟩))
 have hbase:Below w.heap.size w w1:=(((Below.refl _ _).alloc (Nat.le_refl _) _).alloc (by simp) _).trans (b.mono (by simp;omega))
 refine bodyPost_ret (v := .agg #[.int .i64 (f 0),.int .i64 (f 1),.int .i64 (f 2),.int .i64 (f 3),.int .i64 (up (f 4) 1),.int .i64 (f 5),.int .i64 (f 6),.int .i64 (f 7),.int .i64 (f 8),.int .i64 (up s n)]) (by simp[results,Tryz.results166,go_sem,a]) rfl ⟨rfl,?_⟩
 repeat (refine Below.setCell ?_ (by simp) _)
 exact hbase
set_option maxHeartbeats 4000000 in
theorem Cb (f:Nat→Int) (s n:Int) (w:World) (hR:bw f s=true) (hn:0≤n) (c:aV n=5):Calls Tryz.prog 166 #[.agg #[.int .i64 (f 0),.int .i64 (f 1),.int .i64 (f 2),.int .i64 (f 3),.int .i64 (f 4),.int .i64 (f 5),.int .i64 (f 6),.int .i64 (f 7),.int .i64 (f 8),.int .i64 s],.int .i64 n] w fun e w'=>e = .returned (.agg #[.int .i64 (f 0),.int .i64 (f 1),.int .i64 (f 2),.int .i64 (f 3),.int .i64 (f 4),.int .i64 (up (f 5) 1),.int .i64 (f 6),.int .i64 (f 7),.int .i64 (f 8),.int .i64 (up s n)])∧Below w.heap.size w w':=by
 have j:=fun W=>Lib.hid (eK f s W)
 have d:=Lib.hid c;clear c
 go_enter Tryz.func166,Tryz.ntmps166
 go_wp2_with (first
  | (go_at_call 222;refine((j _).out).mono ?_;rintro e w1 ⟨rfl,b⟩;obtain⟨a,i⟩:=cC b;have g:w.heap.size+1<w1.heap.size:=(by have:=b.size;simp at this;omega);have k:w1.cell? ⟨w.heap.size,5,none⟩=some (.int .i64 (f 5)):=(by have h:=a w.heap.size 5 (by simp;omega);simpa using h);have l:w1.cell? ⟨w.heap.size,9,none⟩=some (.int .i64 s):=by have h:=a w.heap.size 9 (by simp;omega);simpa using h)
  | (go_at_call 223;refine(gq _ _).mono ?_;rintro e m ⟨rfl,rfl⟩;rw[d.out])
  | (go_at_call 221;refine(nR _ _ _).mono ?_;rintro e w' ⟨rfl,rfl⟩))
 have hbase:Below w.heap.size w w1:=(((Below.refl _ _).alloc (Nat.le_refl _) _).alloc (by simp) _).trans (b.mono (by simp;omega))
 refine bodyPost_ret (v := .agg #[.int .i64 (f 0),.int .i64 (f 1),.int .i64 (f 2),.int .i64 (f 3),.int .i64 (f 4),.int .i64 (up (f 5) 1),.int .i64 (f 6),.int .i64 (f 7),.int .i64 (f 8),.int .i64 (up s n)]) (by simp[results,Tryz.results166,go_sem,a]) rfl ⟨rfl,?_⟩
 repeat (refine Below.setCell ?_ (by simp) _)
 exact hbase
set_option maxHeartbeats 4000000 in
theorem Cz (f:Nat→Int) (s n:Int) (w:World) (hR:bw f s=true) (hn:0≤n) (c:aV n=6):Calls Tryz.prog 166 #[.agg #[.int .i64 (f 0),.int .i64 (f 1),.int .i64 (f 2),.int .i64 (f 3),.int .i64 (f 4),.int .i64 (f 5),.int .i64 (f 6),.int .i64 (f 7),.int .i64 (f 8),.int .i64 s],.int .i64 n] w fun e w'=>e = .returned (.agg #[.int .i64 (f 0),.int .i64 (f 1),.int .i64 (f 2),.int .i64 (f 3),.int .i64 (f 4),.int .i64 (f 5),.int .i64 (up (f 6) 1),.int .i64 (f 7),.int .i64 (f 8),.int .i64 (up s n)])∧Below w.heap.size w w':=by
 have j:=fun W=>Lib.hid (eK f s W)
 have d:=Lib.hid c;clear c
 go_enter Tryz.func166,Tryz.ntmps166
 go_wp2_with (first
  | (go_at_call 222;refine((j _).out).mono ?_;rintro e w1 ⟨rfl,b⟩;obtain⟨a,i⟩:=cC b;have g:w.heap.size+1<w1.heap.size:=(by have:=b.size;simp at this;omega);have k:w1.cell? ⟨w.heap.size,6,none⟩=some (.int .i64 (f 6)):=(by have h:=a w.heap.size 6 (by simp;omega);simpa using h);have l:w1.cell? ⟨w.heap.size,9,none⟩=some (.int .i64 s):=by have h:=a w.heap.size 9 (by simp;omega);simpa using h)
  | (go_at_call 223;refine(gq _ _).mono ?_;rintro e m ⟨rfl,rfl⟩;rw[d.out])
  | (go_at_call 221;refine(nR _ _ _).mono ?_;rintro e w' ⟨rfl,rfl⟩))
 have hbase:Below w.heap.size w w1:=(((Below.refl _ _).alloc (Nat.le_refl _) _).alloc (by simp) _).trans (b.mono (by simp;omega))
 refine bodyPost_ret (v := .agg #[.int .i64 (f 0),.int .i64 (f 1),.int .i64 (f 2),.int .i64 (f 3),.int .i64 (f 4),.int .i64 (f 5),.int .i64 (up (f 6) 1),.int .i64 (f 7),.int .i64 (f 8),.int .i64 (up s n)]) (by simp[results,Tryz.results166,go_sem,a]) rfl ⟨rfl,?_⟩
 repeat (refine Below.setCell ?_ (by simp) _)
 exact hbase
set_option maxHeartbeats 4000000 in
theorem BT (f:Nat→Int) (s n:Int) (w:World) (hR:bw f s=true) (hn:0≤n) (c:aV n=7):Calls Tryz.prog 166 #[.agg #[.int .i64 (f 0),.int .i64 (f 1),.int .i64 (f 2),.int .i64 (f 3),.int .i64 (f 4),.int .i64 (f 5),.int .i64 (f 6),.int .i64 (f 7),.int .i64 (f 8),.int .i64 s],.int .i64 n] w fun e w'=>e = .returned (.agg #[.int .i64 (f 0),.int .i64 (f 1),.int .i64 (f 2),.int .i64 (f 3),.int .i64 (f 4),.int .i64 (f 5),.int .i64 (f 6),.int .i64 (up (f 7) 1),.int .i64 (f 8),.int .i64 (up s n)])∧Below w.heap.size w w':=by
 have j:=fun W=>Lib.hid (eK f s W)
 have d:=Lib.hid c;clear c
 go_enter Tryz.func166,Tryz.ntmps166
 go_wp2_with (first
  | (go_at_call 222;refine((j _).out).mono ?_;rintro e w1 ⟨rfl,b⟩;obtain⟨a,i⟩:=cC b;have g:w.heap.size+1<w1.heap.size:=(by have:=b.size;simp at this;omega);have k:w1.cell? ⟨w.heap.size,7,none⟩=some (.int .i64 (f 7)):=(by have h:=a w.heap.size 7 (by simp;omega);simpa using h);have l:w1.cell? ⟨w.heap.size,9,none⟩=some (.int .i64 s):=by have h:=a w.heap.size 9 (by simp;omega);simpa using h)
  | (go_at_call 223;refine(gq _ _).mono ?_;rintro e m ⟨rfl,rfl⟩;rw[d.out])
  | (go_at_call 221;refine(nR _ _ _).mono ?_;rintro e w' ⟨rfl,rfl⟩))
 have hbase:Below w.heap.size w w1:=(((Below.refl _ _).alloc (Nat.le_refl _) _).alloc (by simp) _).trans (b.mono (by simp;omega))
 refine bodyPost_ret (v := .agg #[.int .i64 (f 0),.int .i64 (f 1),.int .i64 (f 2),.int .i64 (f 3),.int .i64 (f 4),.int .i64 (f 5),.int .i64 (f 6),.int .i64 (up (f 7) 1),.int .i64 (f 8),.int .i64 (up s n)]) (by simp[results,Tryz.results166,go_sem,a]) rfl ⟨rfl,?_⟩
 repeat (refine Below.setCell ?_ (by simp) _)
 exact hbase
set_option maxHeartbeats 4000000 in
theorem AR (f:Nat→Int) (s n:Int) (w:World) (hR:bw f s=true) (hn:0≤n) (c:aV n=8):Calls Tryz.prog 166 #[.agg #[.int .i64 (f 0),.int .i64 (f 1),.int .i64 (f 2),.int .i64 (f 3),.int .i64 (f 4),.int .i64 (f 5),.int .i64 (f 6),.int .i64 (f 7),.int .i64 (f 8),.int .i64 s],.int .i64 n] w fun e w'=>e = .returned (.agg #[.int .i64 (f 0),.int .i64 (f 1),.int .i64 (f 2),.int .i64 (f 3),.int .i64 (f 4),.int .i64 (f 5),.int .i64 (f 6),.int .i64 (f 7),.int .i64 (up (f 8) 1),.int .i64 (up s n)])∧Below w.heap.size w w':=by
 have j:=fun W=>Lib.hid (eK f s W)
 have d:=Lib.hid c;clear c
 go_enter Tryz.func166,Tryz.ntmps166
 go_wp2_with (first
  | (go_at_call 222;refine((j _).out).mono ?_;rintro e w1 ⟨rfl,b⟩;obtain⟨a,i⟩:=cC b;have g:w.heap.size+1<w1.heap.size:=(by have:=b.size;simp at this;omega);have k:w1.cell? ⟨w.heap.size,8,none⟩=some (.int .i64 (f 8)):=(by have h:=a w.heap.size 8 (by simp;omega);simpa using h);have l:w1.cell? ⟨w.heap.size,9,none⟩=some (.int .i64 s):=by have h:=a w.heap.size 9 (by simp;omega);simpa using h)
  | (go_at_call 223;refine(gq _ _).mono ?_;rintro e m ⟨rfl,rfl⟩;rw[d.out])
  | (go_at_call 221;refine(nR _ _ _).mono ?_;rintro e w' ⟨rfl,rfl⟩))
 have hbase:Below w.heap.size w w1:=(((Below.refl _ _).alloc (Nat.le_refl _) _).alloc (by simp) _).trans (b.mono (by simp;omega))
 refine bodyPost_ret (v := .agg #[.int .i64 (f 0),.int .i64 (f 1),.int .i64 (f 2),.int .i64 (f 3),.int .i64 (f 4),.int .i64 (f 5),.int .i64 (f 6),.int .i64 (f 7),.int .i64 (up (f 8) 1),.int .i64 (up s n)]) (by simp[results,Tryz.results166,go_sem,a]) rfl ⟨rfl,?_⟩
 repeat (refine Below.setCell ?_ (by simp) _)
 exact hbase
theorem wg (f:Nat→Int) (s n:Int) (w:World):Calls Tryz.prog 166 #[.agg #[.int .i64 (f 0),.int .i64 (f 1),.int .i64 (f 2),.int .i64 (f 3),.int .i64 (f 4),.int .i64 (f 5),.int .i64 (f 6),.int .i64 (f 7),.int .i64 (f 8),.int .i64 s],.int .i64 n] w fun e w'=>e = .returned (.agg #[.int .i64 (bU f s n 0),.int .i64 (bU f s n 1),.int .i64 (bU f s n 2),.int .i64 (bU f s n 3),.int .i64 (bU f s n 4),.int .i64 (bU f s n 5),.int .i64 (bU f s n 6),.int .i64 (bU f s n 7),.int .i64 (bU f s n 8),.int .i64 (cW f s n)])∧Below w.heap.size w w':=by
 by_cases h:bw f s=true∧0≤n
 ·obtain⟨hR,hn⟩:=h
  have g:=qy n
  rcases(by omega:aV n=0∨aV n=1∨aV n=2∨aV n=3∨aV n=4∨aV n=5∨aV n=6∨aV n=7∨aV n=8) with a | a | a | a | a | a | a | a | a
  ·have d:=BP f s n w hR hn a
   have b:bU f s n=dL f 0 (up (f 0) 1):=by unfold bU;rw[if_pos ⟨hR,hn⟩,a]
   have c:cW f s n=up s n:=by unfold cW;rw[if_pos ⟨hR,hn⟩]
   rw[b,c]
   simpa [dL] using d
  ·have d:=Bj f s n w hR hn a
   have b:bU f s n=dL f 1 (up (f 1) 1):=by unfold bU;rw[if_pos ⟨hR,hn⟩,a]
   have c:cW f s n=up s n:=by unfold cW;rw[if_pos ⟨hR,hn⟩]
   rw[b,c]
   simpa [dL] using d
  ·have d:=Cf f s n w hR hn a
   have b:bU f s n=dL f 2 (up (f 2) 1):=by unfold bU;rw[if_pos ⟨hR,hn⟩,a]
   have c:cW f s n=up s n:=by unfold cW;rw[if_pos ⟨hR,hn⟩]
   rw[b,c]
   simpa [dL] using d
  ·have d:=Bm f s n w hR hn a
   have b:bU f s n=dL f 3 (up (f 3) 1):=by unfold bU;rw[if_pos ⟨hR,hn⟩,a]
   have c:cW f s n=up s n:=by unfold cW;rw[if_pos ⟨hR,hn⟩]
   rw[b,c]
   simpa [dL] using d
  ·have d:=zQ f s n w hR hn a
   have b:bU f s n=dL f 4 (up (f 4) 1):=by unfold bU;rw[if_pos ⟨hR,hn⟩,a]
   have c:cW f s n=up s n:=by unfold cW;rw[if_pos ⟨hR,hn⟩]
   rw[b,c]
   simpa [dL] using d
  ·have d:=Cb f s n w hR hn a
   have b:bU f s n=dL f 5 (up (f 5) 1):=by unfold bU;rw[if_pos ⟨hR,hn⟩,a]
   have c:cW f s n=up s n:=by unfold cW;rw[if_pos ⟨hR,hn⟩]
   rw[b,c]
   simpa [dL] using d
  ·have d:=Cz f s n w hR hn a
   have b:bU f s n=dL f 6 (up (f 6) 1):=by unfold bU;rw[if_pos ⟨hR,hn⟩,a]
   have c:cW f s n=up s n:=by unfold cW;rw[if_pos ⟨hR,hn⟩]
   rw[b,c]
   simpa [dL] using d
  ·have d:=BT f s n w hR hn a
   have b:bU f s n=dL f 7 (up (f 7) 1):=by unfold bU;rw[if_pos ⟨hR,hn⟩,a]
   have c:cW f s n=up s n:=by unfold cW;rw[if_pos ⟨hR,hn⟩]
   rw[b,c]
   simpa [dL] using d
  ·have d:=AR f s n w hR hn a
   have b:bU f s n=dL f 8 (up (f 8) 1):=by unfold bU;rw[if_pos ⟨hR,hn⟩,a]
   have c:cW f s n=up s n:=by unfold cW;rw[if_pos ⟨hR,hn⟩]
   rw[b,c]
   simpa [dL] using d
 ·have b:bU f s n=f:=by unfold bU;rw[if_neg h]
  have c:cW f s n=s:=by unfold cW;rw[if_neg h]
  rw[b,c]
  exact ED f s n w h
end
section
open Go.RowKit
theorem qK {c:Cmp} (h:dr c) (a:c.role=1):cj c.wd c.sl c.cells=true:=by
 rcases h.2.2 with h | h | h
 ·exact h.2.2.2.1
 ·have:=h.1;omega
 ·have:=h.1;omega
theorem CA {c:Cmp} {e:Evt} (f:e.k=2) (b:iw c e=0):(c.role=2→eF e.x e.y=true)∧(c.role=3→eF e.x e.x=true):=by
 obtain⟨d,_,_,_,j⟩:=cD b
 obtain⟨i,g,_,kw,_⟩:=cK d
 obtain⟨⟨n,m⟩,⟨l,o⟩,_⟩:=dB ⟨i,g⟩ kw
 have a:=j f
 unfold gH at a
 refine⟨fun h=>?_,fun h=>?_⟩
 ·rw[if_neg (by omega),if_pos h,decide_eq_true_eq]at a
  unfold eF
  rw[decide_eq_true_eq]
  omega
 ·unfold eF
  rw[decide_eq_true_eq]
  omega
theorem DX {c:Cmp} {i:Evt} (u:i.k=2):lf c i (cH c i):=by
 intro A n q X w hX p a m l z
 obtain⟨nm,role,mode,wd,sl,cells,h,s,room,has,t⟩:=c
 obtain⟨eq,ea,D,v,ex,y,B⟩:=i
 simp only at *
 subst u
 have g:=CA rfl l
 simp only[aL,evA]
 go_enter Tryz.func100,Tryz.ntmps100
 go_upto_region 1 with(fail)
 refine(hstart hX).cw fun W K=>?_
 have K:=K.k0 (f:=aa.fact A n cells) p
 refine wp_region_lit (K.ld 2 rfl ?_)
 have o:=K.r 1 rfl
 go_wp2_with fail
 clear o
 refine(gR ⟨nm,_,mode,wd,sl,cells,h,s,room,has,t⟩ A n q ⟨_,_,_,_,_,_,_⟩ _ W K.xok (K.fa 0 rfl) a m).mono ?_
 rw[l]
 rintro e W ⟨rfl,d⟩
 have K:=K.on d
 clear d p l
 have o:=K.r 1 rfl
 have x:=K.c 2 rfl
 go_upto_region 6 with(fail)
 refine wp_region_lit (K.ld 2 rfl ?_)
 go_wp2_with fail
 refine(so ⟨nm,role,mode,wd,sl,cells,h,s,room,has,t⟩ A n q ⟨_,_,_,_,_,_,_⟩ _ W K.xok (K.fa 0 rfl) (bO a) g.1 g.2).mono ?_
 rintro e C ⟨A',n',j,rfl,d,b⟩
 have K:=(K.on d).kn (f:=aa.fact A' n' _) b
 clear d o x b
 go_wp2_with (refine K.sr 0 rfl fun W K=>?_)
 exact K.rc2 0 rfl rfl ⟨A',n',j,rfl,K.below,K.back (K.fa 0 rfl)⟩
theorem DC {c:Cmp} {d:Evt} (q:d.k=9):lf c d (cH c d):=by
 intro A n o X w hX m g j i y
 obtain⟨nm,role,mode,wd,sl,cells,h,p,room,has,v⟩:=c
 obtain⟨eq,ea,C,s,ex,x,z⟩:=d
 simp only at *
 subst q
 obtain rfl:role=3:=by
  have u:=(cD i).2.2.2.1
  simp[bD]at u
  omega
 simp only[aL,evA]
 go_enter Tryz.func100,Tryz.ntmps100
 go_upto_region 1 with(fail)
 refine(hstart hX).cw fun W K=>?_
 have K:=K.k0 (f:=aa.fact A n cells) m
 refine wp_region_lit (K.ld 2 rfl ?_)
 have b:=K.r 1 rfl
 go_wp2_with fail
 clear b
 refine(gR ⟨nm,_,mode,wd,sl,cells,h,p,room,has,v⟩ A n o ⟨_,_,_,_,_,_,_⟩ _ W K.xok (K.fa 0 rfl) g j).mono ?_
 rw[i]
 rintro e B ⟨rfl,a⟩
 have K:=K.on a
 clear a m i
 have b:=K.r 1 rfl
 have l:=K.c 2 rfl
 go_upto_region 28 with(fail)
 go_wp2_with fail
 refine K.cl fun W K=>?_
 refine(wg h p ex W).mono ?_
 rintro e t ⟨rfl,a⟩
 have K:=K.on a
 clear a b l
 have b:=K.r 1 rfl
 have l:=K.c 2 rfl
 go_upto_region 29 with(fail)
 clear b l
 refine K.cw fun W K=>?_
 refine wp_region_lit (K.ld 2 rfl ?_)
 have b:=K.r 1 rfl
 go_wp2_with fail
 refine(ej ⟨_,_,_,_,_,cells,_,_,_,_,_⟩ _ _ _ 1 (by omega) _ W K.xok).mono ?_
 rintro e t ⟨rfl,a⟩
 have K:=K.on a
 clear b
 go_wp2_with (refine K.sr 0 rfl fun W K=>?_)
 exact K.rc2 0 rfl rfl ⟨A,n,o,rfl,K.below,K.back (K.fa 0 rfl)⟩
theorem AO {c:Cmp} {b:Evt} (j:b.k=4) (B:b.x=0):lf c b (cH c b):=by
 intro A n t X w hX m l q p D
 obtain⟨nm,role,mode,wd,sl,cells,h,v,room,has,z⟩:=c
 obtain⟨eq,ea,H,s,ex,C,E⟩:=b
 simp only at *
 subst j
 obtain rfl:role=1:=by
  have u:=(cD p).2.2.2.1
  simp[bD]at u
  omega
 subst B
 have y:=Lib.hid m.1
 simp only[aL,evA]
 go_enter Tryz.func100,Tryz.ntmps100
 go_upto_region 1 with(fail)
 refine(hstart hX).cw fun W K=>?_
 have K:=K.k0 (f:=aa.fact A n cells) m
 refine wp_region_lit (K.ld 2 rfl ?_)
 have g:=K.r 1 rfl
 go_wp2_with fail
 clear g
 refine(gR ⟨nm,_,mode,wd,sl,cells,h,v,room,has,z⟩ A n t ⟨_,_,_,_,_,_,_⟩ _ W K.xok (K.fa 0 rfl) l q).mono ?_
 rw[p]
 rintro e G ⟨rfl,d⟩
 have K:=K.on d
 clear d m p
 have g:=K.r 1 rfl
 have i:=K.c 2 rfl
 go_upto_region 14 with(fail)
 refine K.cw fun W K=>?_
 clear g i
 have g:=K.r 1 rfl
 have i:=K.c 2 rfl
 go_wp2_with fail
 refine(zE wd n ea W).mono ?_
 intro e F j
 obtain⟨A',n',o,rfl,d,a⟩:=aa.of_win (X:=Exs _++X) j K.xok (aa.zero _ _) (.inr rfl)
 have K:=(K.on d).kn (f:=aa.fact A' n' _) a
 clear g i a d j
 have i:=K.c 2 rfl
 go_upto_region 33 with(fail)
 clear i
 refine K.cw fun W K=>?_
 refine wp_region_lit (K.ld 2 rfl ?_)
 refine K.sr 0 rfl fun W K=>?_
 go_wp2
 have hn:=y.out
 subst hn
 exact K.rc2 0 rfl rfl ⟨A',n',o,rfl,K.below,K.back (K.fa 0 rfl)⟩
theorem BV {c:Cmp} {a:Evt} (p:a.k=4) (o:¬ a.x=0):lf c a (cH c a):=by
 intro A n m X w hX j b g d z
 obtain⟨nm,role,mode,wd,sl,cells,h,u,room,has,v⟩:=c
 obtain⟨eq,ea,D,q,ex,y,B⟩:=a
 simp only at *
 subst p
 obtain rfl:role=1:=by
  have s:=(cD d).2.2.2.1
  simp[bD]at s
  omega
 simp only[aL,evA]
 go_enter Tryz.func100,Tryz.ntmps100
 go_upto_region 1 with(fail)
 refine(hstart hX).cw fun W K=>?_
 have K:=K.k0 (f:=aa.fact A n cells) j
 refine wp_region_lit (K.ld 2 rfl ?_)
 have i:=K.r 1 rfl
 go_wp2_with fail
 clear i
 refine(gR ⟨nm,_,mode,wd,sl,cells,h,u,room,has,v⟩ A n m ⟨_,_,_,_,_,_,_⟩ _ W K.xok (K.fa 0 rfl) b g).mono ?_
 rw[d]
 rintro e C ⟨rfl,l⟩
 have K:=K.on l
 clear l j d
 have i:=K.r 1 rfl
 have t:=K.c 2 rfl
 go_upto_region 33 with(fail)
 refine K.cw fun W K=>?_
 clear i t
 refine wp_region_lit (K.ld 2 rfl ?_)
 refine K.sr 0 rfl fun W K=>?_
 go_wp2
 refine K.rc2 0 rfl rfl ⟨A,n,m,?_,K.below,?_⟩
 ·unfold cH
  simp only[Int.reduceEq,if_true,if_false,o]
  rfl
 ·unfold cH
  simp only[Int.reduceEq,if_true,if_false,o]
  exact K.back (K.fa 0 rfl)
theorem CJ {c:Cmp} {o:Evt} (j:o.k=3):lf c o (cH c o):=by
 intro A n p X w hX u m y x z
 obtain⟨nm,role,mode,wd,sl,cells,h,q,room,has,E⟩:=c
 obtain⟨eq,ea,H,C,ex,v,F⟩:=o
 simp only at *
 subst j
 obtain rfl:role=1:=by
  have D:=(cD x).2.2.2.1
  simp[bD]at D
  omega
 have s:=Lib.hid u.1
 have t:=Lib.hid (qK m rfl)
 simp only[aL,evA]
 go_enter Tryz.func100,Tryz.ntmps100
 go_upto_region 1 with(fail)
 refine(hstart hX).cw fun W K=>?_
 have K:=K.k0 (f:=aa.fact A n cells) u
 refine wp_region_lit (K.ld 2 rfl ?_)
 have b:=K.r 1 rfl
 go_wp2_with fail
 clear b
 refine(gR ⟨nm,_,mode,wd,sl,cells,h,q,room,has,E⟩ A n p ⟨_,_,_,_,_,_,_⟩ _ W K.xok (K.fa 0 rfl) m y).mono ?_
 rw[x]
 rintro e G ⟨rfl,a⟩
 have K:=K.on a
 clear a u x
 have b:=K.r 1 rfl
 have g:=K.c 2 rfl
 have B:n≤16:=by have:=aZ t.out;have:=s.out;omega
 rcases z with rfl | rfl | rfl | z
 case inr.inr.inr=>exact absurd rfl z
 ·go_upto_region 8 with(fail)
  go_wp2_with fail
  refine K.cl fun W K=>?_
  refine(BY wd sl A n p W.heap.size cells ea true W (K.fa 0 rfl).rd (Nat.le_refl _) (by omega)).mono ?_
  intro e l j
  obtain⟨A',n',i,rfl,a,d⟩:=aa.of_win (X:=Exs _++X) j K.xok (K.fa 0 rfl) (.inl (by have:=aZ t.out;have:=s.out;omega))
  have K:=(K.on a).kn (f:=aa.fact A' n' _) d
  clear b g d a j
  have b:=K.r 1 rfl
  have g:=K.c 2 rfl
  go_upto_region 9 with(fail)
  go_wp2_with fail
  refine K.cl fun W K=>?_
  refine(wg h q v W).mono ?_
  rintro e l ⟨rfl,a⟩
  have K:=K.on a
  clear a b g
  have b:=K.r 1 rfl
  have g:=K.c 2 rfl
  go_upto_region 10 with(fail)
  clear b g
  refine K.cw fun W K=>?_
  refine wp_region_lit (K.ld 2 rfl ?_)
  have b:=K.r 1 rfl
  go_wp2_with fail
  refine(ej ⟨_,_,_,_,_,(eD wd sl cells ea true).cs,_,_,_,_,_⟩ _ _ _ 0 (by omega) _ W K.xok).mono ?_
  rintro e l ⟨rfl,a⟩
  have K:=K.on a
  clear b
  go_wp2_with (refine K.sr 0 rfl fun W K=>?_)
  exact K.rc2 0 rfl rfl ⟨A',n',i,rfl,K.below,K.back (K.fa 0 rfl)⟩
 ·go_upto_region 8 with(fail)
  go_wp2_with fail
  refine K.cl fun W K=>?_
  refine(BY wd sl A n p W.heap.size cells ea false W (K.fa 0 rfl).rd (Nat.le_refl _) (by omega)).mono ?_
  intro e l j
  obtain⟨A',n',i,rfl,a,d⟩:=aa.of_win (X:=Exs _++X) j K.xok (K.fa 0 rfl) (.inl (by have:=aZ t.out;have:=s.out;omega))
  have K:=(K.on a).kn (f:=aa.fact A' n' _) d
  clear b g d a j
  have b:=K.r 1 rfl
  have g:=K.c 2 rfl
  go_upto_region 9 with(fail)
  go_wp2_with fail
  refine K.cl fun W K=>?_
  refine(wg h q v W).mono ?_
  rintro e l ⟨rfl,a⟩
  have K:=K.on a
  clear a b g
  have b:=K.r 1 rfl
  have g:=K.c 2 rfl
  go_upto_region 10 with(fail)
  clear b g
  refine K.cw fun W K=>?_
  refine wp_region_lit (K.ld 2 rfl ?_)
  have b:=K.r 1 rfl
  go_wp2_with fail
  refine(ej ⟨_,_,_,_,_,(eD wd sl cells ea false).cs,_,_,_,_,_⟩ _ _ _ 1 (by omega) _ W K.xok).mono ?_
  rintro e l ⟨rfl,a⟩
  have K:=K.on a
  clear b
  go_wp2_with (refine K.sr 0 rfl fun W K=>?_)
  exact K.rc2 0 rfl rfl ⟨A',n',i,rfl,K.below,K.back (K.fa 0 rfl)⟩
 ·go_upto_region 8 with(fail)
  go_wp2_with fail
  refine K.cl fun W K=>?_
  refine(BY wd sl A n p W.heap.size cells ea false W (K.fa 0 rfl).rd (Nat.le_refl _) (by omega)).mono ?_
  intro e l j
  obtain⟨A',n',i,rfl,a,d⟩:=aa.of_win (X:=Exs _++X) j K.xok (K.fa 0 rfl) (.inl (by have:=aZ t.out;have:=s.out;omega))
  have K:=(K.on a).kn (f:=aa.fact A' n' _) d
  clear b g d a j
  have b:=K.r 1 rfl
  have g:=K.c 2 rfl
  go_upto_region 9 with(fail)
  go_wp2_with fail
  refine K.cl fun W K=>?_
  refine(wg h q v W).mono ?_
  rintro e l ⟨rfl,a⟩
  have K:=K.on a
  clear a b g
  have b:=K.r 1 rfl
  have g:=K.c 2 rfl
  go_upto_region 10 with(fail)
  clear b g
  refine K.cw fun W K=>?_
  refine wp_region_lit (K.ld 2 rfl ?_)
  have b:=K.r 1 rfl
  go_wp2_with fail
  refine(ej ⟨_,_,_,_,_,(eD wd sl cells ea false).cs,_,_,_,_,_⟩ _ _ _ 2 (by omega) _ W K.xok).mono ?_
  rintro e l ⟨rfl,a⟩
  have K:=K.on a
  clear b
  go_wp2_with (refine K.sr 0 rfl fun W K=>?_)
  exact K.rc2 0 rfl rfl ⟨A',n',i,rfl,K.below,K.back (K.fa 0 rfl)⟩
end
section
open Go.RowKit
theorem wP (c:Cmp) (A:Option Addr) (n f:Nat) (d:Evt) (X:List Nat) (w:World) (hX:XOk X w) (g:aa w X A n c.cells) (a:dr c) (b:d.cm.size≤maxLen) (e:iw c d=0):
 Calls Tryz.prog 100 #[.agg (aL c A n f).toArray,.agg (evA d)] w (kF (cH c d) X w):=by
 obtain⟨m,_,o,_,_⟩:=cD e
 obtain⟨q,p,_,kw,_⟩:=cK m
 have i:d.x=0∨d.x=1∨d.x=2∨d.k≠3:=by
  by_cases j:d.k=3
  ·unfold cJ inB cR at kw
   rw[j]at kw
   simp at kw
   omega
  ·exact .inr (.inr (.inr j))
 rcases(by omega:d.k=2∨d.k=3∨d.k=4∨d.k=5∨d.k=6∨d.k=7∨d.k=8∨d.k=9∨d.k=10) with h | h | h | h | h | h | h | h | h
 ·exact DX h A n f X w hX g a b e i
 ·exact CJ h A n f X w hX g a b e i
 ·by_cases l:d.x=0
  ·exact AO h l A n f X w hX g a b e i
  ·exact BV h l A n f X w hX g a b e i
 ·exact DY h A n f X w hX g a b e i
 ·exact CX h A n f X w hX g a b e i
 ·exact Dc h A n f X w hX g a b e i
 ·exact CR h A n f X w hX g a b e i
 ·exact DC h A n f X w hX g a b e i
 ·exact AD h A n f X w hX g a b e i
theorem yZ (A:Option Addr) (n c:Nat) (p:Option Addr) (u:Nat) (cs:List (Int×Int)) (w:World) (o:Reads w w.heap.size 2 A n (ax cs)) (d:Reads w w.heap.size 2 p n (ax cs)) (hn:n≤9223372036854775807):
 Calls Tryz.prog 139 #[.slice A n c,.slice p n u] w fun e w'=>e = .returned (.bool true)∧Below w.heap.size w w':=by
 have s:=Lib.hid o
 have l:=Lib.hid d
 clear o d
 have q:((n:Int) != (n:Int))=false:=by simp
 go_enter Tryz.func139,Tryz.ntmps139
 go_wp2
 clear q
 go_loopw [13] (fun i wr => ∃ (k:Nat),k≤n∧i = .int .i64 k∧Hid (Below w.heap.size w wr)) (fun i _=>n-(intOf i).toNat)
 case atStart=>exact⟨0,Nat.zero_le _,rfl,Lib.hid (Below.refl _ _)⟩
 case round=>
  obtain⟨k,x,rfl,g⟩:=hrel
  by_cases f:k<n
  ·obtain⟨ad,⟨a,b⟩,rfl,j,m,D,E⟩:=ie (s.out.below g.out) f
   obtain⟨v,⟨y,C⟩,rfl,h,hy,z,B⟩:=ie (l.out.below g.out) f
   rw[m]at hy
   injection hy with hy
   injection hy with r t
   subst r t
   clear m j h
   go_wp2_with fail
   go_quiet (fail)
   go_wp2
   go_roundw
   case rel=>exact⟨k+1,by omega,by go_num,Lib.hid (below_drewN g.out _)⟩
   case measure=>simp[intOf];omega
  ·obtain rfl:k=n:=by omega
   go_wp2
   go_ret
   exact⟨rfl,g.out⟩
set_option maxHeartbeats 1000000 in
theorem CW (c:Cmp) (A:Option Addr) (n k:Nat) (g:Option Addr) (a d:Nat) (X:List Nat) (w:World) (hX:XOk X w) (j:aa w X A n c.cells) (b:aa w X g a c.cells) (hn:n≤9223372036854775807):
 Calls Tryz.prog 73 #[.agg (aL c A n k).toArray,.agg (aL c g a d).toArray] w fun e w'=>e = .returned (.bool true)∧Below w.heap.size w w':=by
 obtain⟨nm,role,mode,wd,sl,cells,h,q,room,has,m⟩:=c
 obtain rfl:a=n:=by rw[j.1,b.1]
 simp only at *
 simp only[aL]
 have hA:=fun W=>og 9997 h W
 have i:=fun W=>wS 9998 m W
 simp only[Nat.reduceAdd]at hA i
 go_enter Tryz.func73,Tryz.ntmps73
 go_wp2_with fail
 refine(hstart hX).cl fun W K=>?_
 have K:=(K.k0 (f:=aa.fact A a cells) j).k0 (f:=aa.fact g a cells) b
 refine(yZ A a k g d cells W (K.fa 1 rfl).rd (K.fa 0 rfl).rd hn).mono ?_
 rintro e o ⟨rfl,l⟩
 have K:=K.on l
 have c0:=K.r 0 rfl
 have p:=K.r 1 rfl
 go_wp2
 go_ret
 exact⟨rfl,K.below⟩
end
section
theorem fM {s:St} {e:Evt} (h:cS s e=0):bX e=0∧e.q=s.q+1∧s.a≤e.a∧((e.k=1∧s.cs[fu s.cs e.cm]?=none∧s.cs.length≠12)∨(e.k≠1 ∧ ∃ c,s.cs[fu s.cs e.cm]?=some c∧iw c e=0)):=by
 unfold cS at h
 by_cases d:bX e=0
 ·rw[if_neg (by simpa using d)]at h
  by_cases f:e.q=s.q+1
  ·rw[if_neg (by simpa using f)]at h
   by_cases i:e.a<s.a
   ·rw[if_pos i]at h;omega
   ·rw[if_neg i]at h
    refine⟨d,f,by omega,?_⟩
    cases hc:s.cs[fu s.cs e.cm]? with
    | none=>
      rw[hc]at h
      simp only at h
      by_cases b:e.k=1
      ·rw[if_pos b]at h
       by_cases g:s.cs.length=12
       ·rw[if_pos g]at h;omega
       ·exact .inl ⟨b,rfl,g⟩
      ·rw[if_neg b]at h;omega
    | some c=>
      rw[hc]at h
      simp only at h
      by_cases b:e.k=1
      ·rw[if_pos b]at h;omega
      ·rw[if_neg b]at h
       exact .inr ⟨b,c,rfl,h⟩
  ·rw[if_pos (by simpa using f)]at h;omega
 ·rw[if_pos (by simpa using d)]at h;exact absurd h d
theorem kj {s:St} {e:Evt} (q:cF s) (h:cS s e=0):cF (bJ s e):=by
 obtain⟨r,z,w,p⟩:=fM h
 obtain⟨B,y,kn,kw,ka,kb,kq,n⟩:=cK r
 obtain⟨t,C,D,u,v,k,m⟩:=q
 unfold bJ
 rcases p with⟨g,hn,A⟩ | ⟨g,c,i,o⟩
 ·simp only[g,if_true]
  unfold cJ inB cR at kw
  rw[g]at kw
  have l:1≤e.x∧e.x≤3:=by simp at kw;omega
  have f:1≤e.cm.size∧e.cm.size≤24:=by unfold dN at kn;simpa using kn
  have j:(jm e.cm e.x e.a).nm=e.cm:=by unfold jm;split<;>rfl
  refine⟨by rw[ke];omega,kq,n,ka,kb,fun d b=>?_,tD m (fun d b=>?_)⟩
  ·rcases oy.1 b with rfl | b
   ·exact DK f.1 f.2 l.1 l.2 ka kb
   ·exact k d b
  ·rw[j]
   exact mQ hn d b
 ·simp only[g,if_false,i]
  refine⟨by rw[List.length_set];exact t,kq,n,ka,kb,fun d b=>?_,m.set i (mK c e)⟩
  rcases List.mem_or_eq_of_mem_set b with b | rfl
  ·exact k d b
  ·exact Cj (k c (List.mem_of_getElem? i)) o
theorem dD:cF ⟨[],0,0⟩:=⟨by simp,by simp,by simp,by simp,by simp,by simp,List.Pairwise.nil⟩
end
section
open Go.RowKit
theorem eS {W:World} {X:List Nat} {ad:Addr} {n c i:Nat} {cs:List Cmp} {y:Cmp} (h:Sl aB W X (some ad) n c cs) (hy:cs[i]?=some y):W.cell? (ad.add (i*21))=some (.string y.nm):=by
 obtain⟨d,r,e,_,_,⟨g,f,b,rfl,_⟩,a⟩:=h.at' hy
 injection e with e
 subst e
 exact a 0 _ rfl
set_option maxHeartbeats 1000000 in
theorem eE (s:St) (A:Option Addr) (n d:Nat) (X:List Nat) (w:World) (hX:XOk X w) (o:Sl aB w X A n d s.cs) (g:cF s):
 Calls Tryz.prog 128 #[.agg #[.slice A n d,.int .i64 s.q,.int .i64 s.a]] w fun e w'=>e = .returned (.bool true)∧Below w.heap.size w w':=by
 obtain⟨cs,q,a⟩:=s
 obtain⟨T,Q,Z,U,N,H,J⟩:=g
 simp only at *
 have D:=o.len
 have hn:(n:Int)≤12:=by omega
 have I:=Lib.hid o
 have C:=Lib.hid D
 clear o D
 go_enter Tryz.func128,Tryz.ntmps128
 go_upto_region 1 with(fail)
 refine(hstart hX).cw fun W K=>?_
 have K:=K.ksl0 I.out
 have c0:=K.r 0 rfl
 go_wp2
 clear c0
 go_loopw [32] (fun i wr => ∃ (k:Nat),k≤n∧i = .int .i64 k∧HH w [] X wr [.box w.heap.size 37 #[.slice A n d,.int .i64 q,.int .i64 a]] [Sl.fact aB A n d cs]) (fun i _=>n-(intOf i).toNat)
 case atStart=>exact⟨0,Nat.zero_le _,rfl,K⟩
 case round=>
  obtain⟨k,P,rfl,K⟩:=hrel
  by_cases L:k<n
  ·obtain⟨x,l⟩:∃ x,cs[k]?=some x:=⟨_,List.getElem?_eq_getElem (by have:=C.out;omega)⟩
   obtain⟨ad,r,rfl,t,p,⟨v,u,j,rfl,c,G⟩,b⟩:=(K.sl 0 rfl).at' l
   have K:=K.kn (f:=aa.fact v u x.cells) c
   have E:=Lib.hid l
   have R:(0:Int)≤(k:Int):=by omega
   have S:(k:Int)<(n:Int):=by omega
   clear l t p c
   go_wp2_with (first | (refine bu b ?_) | (refine K.lw fun W K=>?_;refine K.sr 0 rfl fun W K=>?_))
   clear b
   refine K.rg fun W K=>?_
   refine tL 0 (fun _ h=>h) K ?_ (hy:=fun w B=>aD (B.at_ 0 rfl))
   refine tC 1 fun K' hK=>?_
   go_simp
   refine(fX x v u j _ _ K.xok (K.fa 0 rfl) (H x (List.mem_of_getElem? E.out))).mono ?_
   rintro e V ⟨rfl,z⟩
   refine hK.out _ _ (K.on z) fun K=>?_
   clear hK K' z
   try simp only[Act.put,aq,aj,ai]
   refine tK 2 K ?_
   refine tK 3 K ?_
   refine tK 4 K ?_
   cases k with
   | zero=>
     refine tK 5 K ?_
     refine tK 6 K ?_
     refine tN 7 K ?_
     refine tN 8 K ?_
     refine tN 9 K ?_
     refine tN 10 K ?_
     refine tN 11 K ?_
     refine tN 12 K ?_
     refine tN 13 K ?_
     refine tN 14 K ?_
     refine tN 15 K ?_
     refine tN 16 K ?_
     refine tK 17 K ?_
     refine tK 18 K ?_
     refine tE ?_
     go_wp2
     go_roundw
     case rel=>exact⟨1,by omega,by go_num,K.tl.ft⟩
     case measure=>simp[intOf];omega
   | succ m=>
     obtain⟨y,hy⟩:∃ y,cs[m]?=some y:=⟨_,List.getElem?_eq_getElem (by have:=C.out;omega)⟩
     have F:Op.bytesLess y.nm.toList x.nm.toList=true:=J.lt (Nat.lt_succ_self m) hy E.out
     have M:=Lib.hid hy
     clear hy
     have O:(m:Int)<(n:Int):=by omega
     have Y:(0:Int)≤(m:Int):=by omega
     have i5:(0:Int)<(m:Int)+1:=by omega
     refine tK 5 K ?_
     refine tK 6 K ?_
     refine tK 7 K ?_
     refine tL 8 (fun _ h=>h.r 1 rfl) K ?_
     refine tK 9 K ?_
     refine tK 10 K ?_ (hy:=by(intro W _;have B:=IntWalk.i64_in (m:Int) (by omega);go_simp;try with_reducible rfl))
     refine tK 11 K ?_
     refine tK 12 K ?_
     refine tL 13 (fun _ h=>eS (h.sl 1 rfl) M.out) K ?_
     refine tK 14 K ?_
     refine tL 15 (fun _ h=>h.r 0 rfl) K ?_
     refine tK 16 K ?_
     refine tK 17 K ?_
     refine tK 18 K ?_
     refine tE ?_
     go_wp2
     go_roundw
     case rel=>exact⟨m+1+1,by omega,by go_num,K.tl.ft⟩
     case measure=>simp[intOf];omega
  ·obtain rfl:k=n:=by omega
   go_wp2
   go_ret
   exact⟨rfl,K.below⟩
end
section
open Go.RowKit
def cX (cs:List Cmp) (nm:ByteArray):Int:=if fF Cmp.nm cs nm<cs.length then(fF Cmp.nm cs nm:Int) else -1
theorem wQ (c:Cmp) (A:Option Addr) (n d g:Nat) (nm:ByteArray) (w:World) (i:w.cell? ⟨g,0,none⟩=some (.string nm)) (a:g<w.heap.size):
 Calls Tryz.prog 163 #[.agg (aL c A n d).toArray,.pointer (some ⟨g,0,none⟩)] w fun e w'=>e = .returned (.bool (decide (c.nm=nm)))∧Below w.heap.size w w':=by
 have f:(c.nm.toList == nm.toList)=decide (c.nm=nm):=by
  rw[Bool.eq_iff_iff,beq_iff_eq,decide_eq_true_eq]
  exact⟨fL,fun h=>by rw[h]⟩
 have b:¬ g=w.heap.size:=by omega
 simp only[aL]
 go_enter Tryz.func163,Tryz.ntmps163
 go_wp2
 go_ret
 exact⟨rfl,(Below.refl _ _).alloc (Nat.le_refl _) _⟩
theorem zN (cs:List Cmp) (nm:ByteArray) (A:Option Addr) (n t g:Nat) (X:List Nat) (w:World) (hX:XOk X w) (v:Sl aB w X A n t cs) (hn:n≤12) (H:w.cell? ⟨g,0,none⟩=some (.string nm)) (c:g<w.heap.size):
 Calls Tryz.prog 162 #[.slice A n t,.func (.func 163) #[] #[.pointer (some ⟨g,0,none⟩)]] w fun e w'=>e = .returned (.int .i64 (cX cs nm))∧Below w.heap.size w w':=by
 have L:=Lib.hid v
 have s:=Lib.hid v.len
 have F:=Lib.hid H
 clear v H
 go_enter Tryz.func162,Tryz.ntmps162
 go_wp2
 go_loopw [8,5] (fun i _ wr => ∃ (k:Nat),k≤n∧i = .int .i64 k∧HH w [] X wr [] [Sl.fact aB A n t cs]∧Hid (∀ (j:Nat) d,j<k→cs[j]?=some d→d.nm≠nm)) (fun i _ _=>n-(intOf i).toNat)
 case atStart=>exact⟨0,Nat.zero_le _,rfl,(hstart hX).ksl0 L.out,Lib.hid (fun j d m=>absurd m (Nat.not_lt_zero _))⟩
 case round=>
  obtain⟨k,N,rfl,K,o⟩:=hrel
  by_cases I:k<n
  ·obtain⟨x,q⟩:∃ x,cs[k]?=some x:=⟨_,List.getElem?_eq_getElem (by have:=s.out;omega)⟩
   obtain⟨ad,r,rfl,C,B,⟨E,D,l,rfl,z,J⟩,b⟩:=(K.sl 0 rfl).at' q
   have G:=Lib.hid q
   have O:(0:Int)≤(k:Int):=by omega
   have P:(k:Int)<(n:Int):=by omega
   clear q C B z
   by_cases f:x.nm=nm
   ·have a:decide (x.nm=nm)=true:=decide_eq_true f
    have y:=Lib.hid f
    clear f
    go_wp2_with (first | (refine bu b ?_) | (go_at_call 163;refine(wQ x E D l g nm _ ((K.below.cell c).trans F.out) (Nat.lt_of_lt_of_le c K.out.size)).mono ?_;rw[a];rintro e M ⟨rfl,h⟩;have K:=K.on h;clear h b))
    go_ret
    refine⟨jl ?_,K.below⟩
    have p:fF Cmp.nm cs nm=k:=mG G.out y.out o.out
    unfold cX
    rw[p,if_pos (by have:=s.out;omega)]
   ·have a:decide (x.nm=nm)=false:=decide_eq_false f
    have y:=Lib.hid f
    clear f
    go_wp2_with (first | (refine bu b ?_) | (go_at_call 163;refine(wQ x E D l g nm _ ((K.below.cell c).trans F.out) (Nat.lt_of_lt_of_le c K.out.size)).mono ?_;rw[a];rintro e M ⟨rfl,h⟩;have K:=K.on h;clear h b))
    go_roundw
    case rel=>
     refine⟨k+1,by omega,by go_num,K,Lib.hid (fun j d m a=>?_)⟩
     by_cases u:j<k
     ·exact o.out j d u a
     ·obtain rfl:j=k:=by omega
      rw[G.out]at a
      injection a with a
      subst a
      exact y.out
    case measure=>simp[intOf];omega
  ·obtain rfl:k=n:=by omega
   go_wp2
   go_ret
   refine⟨jl ?_,K.below⟩
   have p:fF Cmp.nm cs nm=cs.length:=jF (fun d a=>by
    obtain⟨j,m,rfl⟩:=List.mem_iff_getElem.1 a
    exact o.out j _ (by have:=s.out;omega) (List.getElem?_eq_getElem m))
   unfold cX
   rw[p,if_neg (by omega)]
theorem jO (cs:List Cmp) (q a:Int) (nm:ByteArray) (A:Option Addr) (n b:Nat) (X:List Nat) (w:World) (hX:XOk X w) (c:Sl aB w X A n b cs) (hn:n≤12):
 Calls Tryz.prog 99 #[.agg #[.slice A n b,.int .i64 q,.int .i64 a],.string nm] w fun e w'=>e = .returned (.int .i64 (cX cs nm))∧Below w.heap.size w w':=by
 go_enter Tryz.func99,Tryz.ntmps99
 go_wp2_with fail
 refine(hstart hX).cl fun W K=>?_
 have K:=K.ksl0 c
 clear c
 refine(zN cs nm A n b _ _ W K.xok (K.sl 0 rfl) hn (K.r 0 rfl 0) (K.out.lt 0 rfl)).mono ?_
 rintro e f ⟨rfl,d⟩
 have K:=K.on d
 go_wp2
 go_ret
 exact⟨rfl,K.below⟩
end
section
open Go.RowKit
def ja (s:St) (e0:Evt) (m:Int):Prop := ∀ (A:Option Addr) (n cp:Nat) (X:List Nat) (w:World),XOk X w→Sl aB w X A n cp s.cs→cF s→e0.cm.size≤maxLen →
 Calls Tryz.prog 92 #[.agg #[.slice A n cp,.int .i64 s.q,.int .i64 s.a],.agg (evA e0)] w fun e w'=>e = .returned (.int .i64 m)∧Below w.heap.size w w'
theorem BO {s:St} {d:Evt} (u:¬ bX d=0):ja s d (bX d):=by
 intro A n o X w hX f b g
 obtain⟨cs,q,a⟩:=s
 obtain⟨eq,ea,D,j,ex,t,x⟩:=d
 simp only at *
 obtain⟨l,k,p,m,i,v,C⟩:=id b
 have hn:n≤12:=by have:=f.len;simp only at l;omega
 have B:=Lib.hid f.len
 simp only at k p m i
 simp only[evA]
 go_enter Tryz.func92,Tryz.ntmps92
 go_wp2_with fail
 refine(hstart hX).cl fun W K=>?_
 have K:=K.ksl0 f
 clear f
 refine(eE ⟨cs,q,a⟩ A _ o _ W K.xok (K.sl 0 rfl) b).mono ?_
 rintro e z ⟨rfl,c⟩
 have K:=K.on c
 clear c
 have h:=K.r 1 rfl
 have c0:=K.r 0 rfl
 go_wp2_with fail
 refine(dJ ⟨_,_,_,_,_,_,_⟩ g _).mono ?_
 skip
 rintro e y ⟨rfl,c⟩
 have K:=K.on c
 clear c c0 h
 have c0:=K.r 0 rfl
 have h:=K.r 1 rfl
 go_wp2
 go_ret
 exact⟨rfl,K.below⟩
theorem Ag {s:St} {d:Evt} (j:bX d=0) {z:Int} (k:cX s.cs d.cm=z) (H:¬ d.q=s.q+1):ja s d (1):=by
 intro A n l X w hX g c i
 obtain⟨cs,q,a⟩:=s
 obtain⟨eq,ea,J,h,ex,y,C⟩:=d
 simp only at *
 obtain⟨u,p,x,v,m,B,G⟩:=id c
 have hn:n≤12:=by have:=g.len;simp only at u;omega
 have F:=Lib.hid g.len
 simp only at p x v m
 have o:=Lib.hid j
 clear j
 have t:=Lib.hid k
 clear k
 simp only[evA]
 go_enter Tryz.func92,Tryz.ntmps92
 go_wp2_with fail
 refine(hstart hX).cl fun W K=>?_
 have K:=K.ksl0 g
 clear g
 refine(eE ⟨cs,q,a⟩ A _ l _ W K.xok (K.sl 0 rfl) c).mono ?_
 rintro e E ⟨rfl,b⟩
 have K:=K.on b
 clear b
 have f:=K.r 1 rfl
 have c0:=K.r 0 rfl
 go_wp2_with fail
 refine(dJ ⟨_,_,_,_,_,_,_⟩ i _).mono ?_
 rw[o.out]
 rintro e D ⟨rfl,b⟩
 have K:=K.on b
 clear b c0 f
 have c0:=K.r 0 rfl
 have f:=K.r 1 rfl
 go_wp2_with fail
 refine(jO cs q a h A _ l _ _ K.xok (K.sl 0 rfl) hn).mono ?_
 rw[t.out]
 rintro e I ⟨rfl,b⟩
 have K:=K.on b
 clear b c0 f
 have c0:=K.r 0 rfl
 have f:=K.r 1 rfl
 go_wp2
 go_ret
 exact⟨rfl,K.below⟩
theorem zg {s:St} {c:Evt} (j:bX c=0) {z:Int} (k:cX s.cs c.cm=z) (x:c.q=s.q+1) (B:c.a<s.a):ja s c (5):=by
 intro A n l X w hX g d i
 obtain⟨cs,q,a⟩:=s
 obtain⟨eq,ea,L,h,ex,C,E⟩:=c
 simp only at *
 obtain⟨u,p,y,v,m,D,I⟩:=id d
 have hn:n≤12:=by have:=g.len;simp only at u;omega
 have H:=Lib.hid g.len
 simp only at p y v m
 have o:=Lib.hid j
 clear j
 have t:=Lib.hid k
 clear k
 subst x
 simp only[evA]
 go_enter Tryz.func92,Tryz.ntmps92
 go_wp2_with fail
 refine(hstart hX).cl fun W K=>?_
 have K:=K.ksl0 g
 clear g
 refine(eE ⟨cs,q,a⟩ A _ l _ W K.xok (K.sl 0 rfl) d).mono ?_
 rintro e G ⟨rfl,b⟩
 have K:=K.on b
 clear b
 have f:=K.r 1 rfl
 have c0:=K.r 0 rfl
 go_wp2_with fail
 refine(dJ ⟨_,_,_,_,_,_,_⟩ i _).mono ?_
 rw[o.out]
 rintro e F ⟨rfl,b⟩
 have K:=K.on b
 clear b c0 f
 have c0:=K.r 0 rfl
 have f:=K.r 1 rfl
 go_wp2_with fail
 refine(jO cs q a h A _ l _ _ K.xok (K.sl 0 rfl) hn).mono ?_
 rw[t.out]
 rintro e J ⟨rfl,b⟩
 have K:=K.on b
 clear b c0 f
 have c0:=K.r 0 rfl
 have f:=K.r 1 rfl
 go_wp2
 go_ret
 exact⟨rfl,K.below⟩
theorem uu {s:St} {c:Evt} (l:bX c=0) {i:Nat} (m:cX s.cs c.cm=(i:Int)) (B:c.q=s.q+1) (D:¬ c.a<s.a) (z:c.k=1):ja s c (7):=by
 intro A n o X w hX g d j
 obtain⟨cs,q,a⟩:=s
 obtain⟨eq,ea,O,h,ex,E,G⟩:=c
 simp only at *
 obtain⟨x,u,C,y,p,F,L⟩:=id d
 have hn:n≤12:=by have:=g.len;simp only at x;omega
 have J:=Lib.hid g.len
 simp only at u C y p
 have t:=Lib.hid l
 clear l
 have v:=Lib.hid m
 clear m
 subst B z
 have N:¬ (i:Int) = -1:=by omega
 simp only[evA]
 go_enter Tryz.func92,Tryz.ntmps92
 go_wp2_with fail
 refine(hstart hX).cl fun W K=>?_
 have K:=K.ksl0 g
 clear g
 refine(eE ⟨cs,q,a⟩ A _ o _ W K.xok (K.sl 0 rfl) d).mono ?_
 rintro e I ⟨rfl,b⟩
 have K:=K.on b
 clear b
 have f:=K.r 1 rfl
 have c0:=K.r 0 rfl
 go_wp2_with fail
 refine(dJ ⟨_,_,_,_,_,_,_⟩ j _).mono ?_
 rw[t.out]
 rintro e H ⟨rfl,b⟩
 have K:=K.on b
 clear b c0 f
 have c0:=K.r 0 rfl
 have f:=K.r 1 rfl
 go_wp2_with fail
 refine(jO cs q a h A _ o _ _ K.xok (K.sl 0 rfl) hn).mono ?_
 rw[v.out]
 rintro e M ⟨rfl,b⟩
 have K:=K.on b
 clear b c0 f
 have c0:=K.r 0 rfl
 have f:=K.r 1 rfl
 go_wp2
 go_ret
 exact⟨rfl,K.below⟩
theorem zb {s:St} {c:Evt} (j:bX c=0) (l:cX s.cs c.cm = -1) (B:c.q=s.q+1) (E:¬ c.a<s.a) (x:c.k=1) (D:s.cs.length=12):ja s c (9):=by
 intro A n m X w hX g d i
 obtain⟨cs,q,a⟩:=s
 obtain⟨eq,ea,N,h,ex,F,H⟩:=c
 simp only at *
 obtain⟨v,t,C,y,o,G,L⟩:=id d
 have hn:n≤12:=by have:=g.len;simp only at v;omega
 have z:=Lib.hid g.len
 simp only at t C y o
 have p:=Lib.hid j
 clear j
 have u:=Lib.hid l
 clear l
 subst B x
 obtain rfl:n=12:=by have:=z.out;omega
 simp only[evA]
 go_enter Tryz.func92,Tryz.ntmps92
 go_wp2_with fail
 refine(hstart hX).cl fun W K=>?_
 have K:=K.ksl0 g
 clear g
 refine(eE ⟨cs,q,a⟩ A _ m _ W K.xok (K.sl 0 rfl) d).mono ?_
 rintro e J ⟨rfl,b⟩
 have K:=K.on b
 clear b
 have f:=K.r 1 rfl
 have c0:=K.r 0 rfl
 go_wp2_with fail
 refine(dJ ⟨_,_,_,_,_,_,_⟩ i _).mono ?_
 rw[p.out]
 rintro e I ⟨rfl,b⟩
 have K:=K.on b
 clear b c0 f
 have c0:=K.r 0 rfl
 have f:=K.r 1 rfl
 go_wp2_with fail
 refine(jO cs q a h A _ m _ _ K.xok (K.sl 0 rfl) hn).mono ?_
 rw[u.out]
 rintro e M ⟨rfl,b⟩
 have K:=K.on b
 clear b c0 f
 have c0:=K.r 0 rfl
 have f:=K.r 1 rfl
 go_wp2
 go_ret
 exact⟨rfl,K.below⟩
theorem AU {s:St} {c:Evt} (j:bX c=0) (l:cX s.cs c.cm = -1) (C:c.q=s.q+1) (E:¬ c.a<s.a) (y:c.k=1) (p:¬ s.cs.length=12):ja s c (0):=by
 intro A n m X w hX g d i
 obtain⟨cs,q,a⟩:=s
 obtain⟨eq,ea,O,h,ex,F,H⟩:=c
 simp only at *
 obtain⟨x,u,D,z,o,G,L⟩:=id d
 have hn:n≤12:=by have:=g.len;simp only at x;omega
 have B:=Lib.hid g.len
 simp only at u D z o
 have t:=Lib.hid j
 clear j
 have v:=Lib.hid l
 clear l
 subst C y
 have N:¬ (n:Int)=12:=by have:=B.out;omega
 clear p
 simp only[evA]
 go_enter Tryz.func92,Tryz.ntmps92
 go_wp2_with fail
 refine(hstart hX).cl fun W K=>?_
 have K:=K.ksl0 g
 clear g
 refine(eE ⟨cs,q,a⟩ A _ m _ W K.xok (K.sl 0 rfl) d).mono ?_
 rintro e J ⟨rfl,b⟩
 have K:=K.on b
 clear b
 have f:=K.r 1 rfl
 have c0:=K.r 0 rfl
 go_wp2_with fail
 refine(dJ ⟨_,_,_,_,_,_,_⟩ i _).mono ?_
 rw[t.out]
 rintro e I ⟨rfl,b⟩
 have K:=K.on b
 clear b c0 f
 have c0:=K.r 0 rfl
 have f:=K.r 1 rfl
 go_wp2_with fail
 refine(jO cs q a h A _ m _ _ K.xok (K.sl 0 rfl) hn).mono ?_
 rw[v.out]
 rintro e M ⟨rfl,b⟩
 have K:=K.on b
 clear b c0 f
 have c0:=K.r 0 rfl
 have f:=K.r 1 rfl
 go_wp2
 go_ret
 exact⟨rfl,K.below⟩
theorem zZ {s:St} {c:Evt} (j:bX c=0) (l:cX s.cs c.cm = -1) (y:c.q=s.q+1) (B:¬ c.a<s.a) (F:¬ c.k=1):ja s c (6):=by
 intro A n m X w hX g d i
 obtain⟨cs,q,a⟩:=s
 obtain⟨eq,ea,M,h,ex,C,E⟩:=c
 simp only at *
 obtain⟨v,t,z,x,o,D,J⟩:=id d
 have hn:n≤12:=by have:=g.len;simp only at v;omega
 have I:=Lib.hid g.len
 simp only at t z x o
 have p:=Lib.hid j
 clear j
 have u:=Lib.hid l
 clear l
 subst y
 simp only[evA]
 go_enter Tryz.func92,Tryz.ntmps92
 go_wp2_with fail
 refine(hstart hX).cl fun W K=>?_
 have K:=K.ksl0 g
 clear g
 refine(eE ⟨cs,q,a⟩ A _ m _ W K.xok (K.sl 0 rfl) d).mono ?_
 rintro e H ⟨rfl,b⟩
 have K:=K.on b
 clear b
 have f:=K.r 1 rfl
 have c0:=K.r 0 rfl
 go_wp2_with fail
 refine(dJ ⟨_,_,_,_,_,_,_⟩ i _).mono ?_
 rw[p.out]
 rintro e G ⟨rfl,b⟩
 have K:=K.on b
 clear b c0 f
 have c0:=K.r 0 rfl
 have f:=K.r 1 rfl
 go_wp2_with fail
 refine(jO cs q a h A _ m _ _ K.xok (K.sl 0 rfl) hn).mono ?_
 rw[u.out]
 rintro e L ⟨rfl,b⟩
 have K:=K.on b
 clear b c0 f
 have c0:=K.r 0 rfl
 have f:=K.r 1 rfl
 go_wp2
 go_ret
 exact⟨rfl,K.below⟩
theorem xR {s:St} {d:Evt} (z:bX d=0) {i:Nat} {c:Cmp} (B:cX s.cs d.cm=(i:Int)) (t:s.cs[i]?=some c) (O:d.q=s.q+1) (R:¬ d.a<s.a) (V:¬ d.k=1):ja s d (iw c d):=by
 intro A n C X w hX p g l
 obtain⟨cs,q,a⟩:=s
 obtain⟨eq,ea,ek,j,ex,S,U⟩:=d
 simp only at *
 obtain⟨L,H,P,M,E,I,o7⟩:=id g
 have hn:n≤12:=by have:=p.len;simp only at L;omega
 have N:=Lib.hid p.len
 simp only at H P M E
 have G:=Lib.hid z
 clear z
 have J:=Lib.hid B
 clear B
 subst O
 have hi:¬ (i:Int) = -1:=by omega
 have Q:(i:Int)<(n:Int):=by have:=(List.getElem?_eq_some_iff.1 t).1;have:=N.out;omega
 have D:=Lib.hid t
 clear t
 simp only[evA]
 go_enter Tryz.func92,Tryz.ntmps92
 go_wp2_with fail
 refine(hstart hX).cl fun W K=>?_
 have K:=K.ksl0 p
 clear p
 refine(eE ⟨cs,q,a⟩ A _ C _ W K.xok (K.sl 0 rfl) g).mono ?_
 rintro e Z ⟨rfl,b⟩
 have K:=K.on b
 clear b
 have m:=K.r 1 rfl
 have c0:=K.r 0 rfl
 go_wp2_with fail
 refine(dJ ⟨_,_,_,_,_,_,_⟩ l _).mono ?_
 rw[G.out]
 rintro e Y ⟨rfl,b⟩
 have K:=K.on b
 clear b c0 m
 have c0:=K.r 0 rfl
 have m:=K.r 1 rfl
 go_wp2_with fail
 refine(jO cs q a j A _ C _ _ K.xok (K.sl 0 rfl) hn).mono ?_
 rw[J.out]
 rintro e w3 ⟨rfl,b⟩
 have K:=K.on b
 clear b c0 m
 have c0:=K.r 0 rfl
 have m:=K.r 1 rfl
 go_upto_region 19 with(fail)
 obtain⟨ad,r,rfl,K,⟨y,x,u,rfl,o,F⟩⟩:=K.elem 0 rfl D.out
 have K:=K.kn (f:=aa.fact y x c.cells) o
 have T:(0:Int)≤(i:Int):=by omega
 clear c0 m o
 refine K.rg fun W K=>?_
 refine tK 0 K ?_
 refine tL 1 (fun _ h=>h.r 1 rfl) K ?_
 refine tK 2 K ?_
 refine tK 3 K ?_
 refine tL 4 (fun _ h=>h) K ?_ (hy:=fun w v=>aD (v.at' 1 rfl))
 refine tL 5 (fun _ h=>h) K ?_ (hy:=fun w v=>aD (v.at_ 0 rfl))
 refine tC 6 fun K' hK=>?_
 go_simp
 refine(gR c y x u ⟨_,_,_,j,_,_,_⟩ _ _ K.xok (K.fa 0 rfl) (I c (List.mem_of_getElem? D.out)) l).mono ?_
 rintro e w4 ⟨rfl,b⟩
 refine hK.out _ _ (K.on b) fun K=>?_
 clear hK K' b
 try simp only[Act.put,aq,aj,ai]
 refine tK 7 K ?_
 refine tE ?_
 go_wp2
 go_ret
 exact⟨rfl,K.below⟩
end
section
open Go.RowKit
def kT (a b:ByteArray):Int:=if ltB a b=true then -1 else if ltB b a=true then 1 else 0
theorem Dz (s:ByteArray) (w:World):Calls Tryz.prog 159 #[.string s] w fun e w'=>e = .returned (.bool false)∧w=w':=by
 go_enter Tryz.func159,Tryz.ntmps159
 go_wp2
 go_ret
 exact⟨rfl,rfl⟩
theorem qG (a b:ByteArray) (w:World):Calls Tryz.prog 97 #[.string a,.string b] w fun e w'=>e = .returned (.int .i64 (kT a b))∧w=w':=by
 have f:(Op.bytesLess a.toList b.toList=true∧kT a b = -1)∨(Op.bytesLess a.toList b.toList=false∧(a.toList == b.toList)=false∧kT a b=1)∨(Op.bytesLess a.toList b.toList=false∧(a.toList == b.toList)=true∧kT a b=0):=by
  unfold kT ltB
  cases d:Op.bytesLess a.toList b.toList with
  | true=>exact .inl ⟨rfl,by simp⟩
  | false=>
    cases c:Op.bytesLess b.toList a.toList with
    | true=>
      refine .inr (.inl ⟨rfl,?_,by simp⟩)
      rw[beq_eq_false_iff_ne]
      intro e
      rw[e,kN]at c
      cases c
    | false=>exact .inr (.inr ⟨rfl,by rw[beq_iff_eq];exact oI _ _ d c,by simp⟩)
 generalize g:kT a b=m at f
 clear g
 rcases f with⟨d,rfl⟩ | ⟨d,c,rfl⟩ | ⟨d,c,rfl⟩
 all_goals
  go_enter Tryz.func97,Tryz.ntmps97
  go_wp2_with (go_at_call 159;refine(Dz _ _).mono ?_;rintro e w' ⟨rfl,rfl⟩)
  go_ret
  exact⟨rfl,rfl⟩
theorem pg (c:Cmp) (A:Option Addr) (n a:Nat) (nm:ByteArray) (w:World):
 Calls Tryz.prog 96 #[.agg (aL c A n a).toArray,.string nm] w fun e w'=>e = .returned (.int .i64 (kT c.nm nm))∧Below w.heap.size w w':=by
 simp only[aL]
 go_enter Tryz.func96,Tryz.ntmps96
 go_wp2_with (go_at_call 97;refine(qG _ _ _).mono ?_;rintro e w' ⟨rfl,rfl⟩)
 go_ret
 exact⟨rfl,(Below.refl _ _).alloc (Nat.le_refl _) _⟩
end
section
open Go.RowKit
theorem vY {a b:ByteArray} (h:ltB a b=true):kT a b = -1:=by unfold kT;rw[if_pos h]
theorem xg {a b:ByteArray} (h:ltB a b=false):¬ kT a b<0:=by
 unfold kT
 rw[h,if_neg (by simp)]
 split<;>omega
set_option maxHeartbeats 1000000 in
theorem FP (cs:List Cmp) (nm:ByteArray) (A:Option Addr) (n C:Nat) (X:List Nat) (w:World) (hX:XOk X w) (D:Sl aB w X A n C cs) (l:Srt Cmp.nm cs) (hn:n≤12):
 Calls Tryz.prog 95 #[.slice A n C,.string nm,.func (.func 96) #[] #[]] w fun e w' => ∃ (i:Nat) (b:Bool),e = .returned (.tuple #[.int .i64 (i:Int),.bool b])∧i≤n∧(∀ (j:Nat) d,j<i→cs[j]?=some d→ltB d.nm nm=true)∧(∀ d,cs[i]?=some d→ltB d.nm nm=false)∧Below w.heap.size w w':=by
 have M:=Lib.hid D
 have B:=Lib.hid D.len
 clear D
 go_enter Tryz.func95,Tryz.ntmps95
 go_wp2
 go_loopw [9,10,11] (fun i j _ wr => ∃ (a b:Nat),a≤b∧b≤n∧i = .int .i64 a∧j = .int .i64 b∧HH w [] X wr [] [Sl.fact aB A n C cs]∧Hid ((∀ (j:Nat) d,j<a→cs[j]?=some d→ltB d.nm nm=true)∧(∀ (j:Nat) d,b≤j→cs[j]?=some d→ltB d.nm nm=false))) (fun i j _ _=>(intOf j).toNat-(intOf i).toNat)
 case atStart=>exact⟨0,n,Nat.zero_le _,Nat.le_refl _,rfl,rfl,(hstart hX).ksl0 M.out,Lib.hid ⟨fun j d z=>absurd z (Nat.not_lt_zero _),fun j d z c=>by have:=(List.getElem?_eq_some_iff.1 c).1;have:=B.out;omega⟩⟩
 case round=>
  obtain⟨a,b,H,E,rfl,rfl,K,q⟩:=hrel
  by_cases N:a<b
  ·obtain⟨h,hh,I,O⟩:∃ h:Nat,((a:Int)+(b:Int))/2=(h:Int)∧a≤h∧h<b:=⟨(a+b)/2,by omega,by omega,by omega⟩
   obtain⟨x,s⟩:∃ x,cs[h]?=some x:=⟨_,List.getElem?_eq_getElem (by have:=B.out;omega)⟩
   obtain⟨ad,r,rfl,K,⟨v,u,g,rfl,p,o⟩⟩:=K.elem 0 rfl s
   have y:=Lib.hid s
   have J:(0:Int)≤(h:Int):=by omega
   have L:(h:Int)<(n:Int):=by omega
   clear s p o
   cases hl:ltB x.nm nm with
   | true=>
     have t:=vY hl
     go_wp2_with (first | (refine bu (K.at' 0 rfl) ?_) | (go_at_call 96;refine(pg x v u g nm _).mono ?_;rw[t];rintro e F ⟨rfl,k⟩;have K:=K.on k;clear k t))
     go_roundw
     case rel=>
      refine⟨h+1,b,by omega,E,by go_num,rfl,K.ft,Lib.hid ⟨fun j d z c=>?_,q.out.2⟩⟩
      rcases Nat.lt_or_ge j h with f | f
      ·exact gF (l.lt f c y.out) hl
      ·obtain rfl:j=h:=by omega
       rw[y.out]at c
       injection c with c
       subst c
       exact hl
     case measure=>simp[intOf];omega
   | false=>
     have t:=xg hl
     go_wp2_with (first | (refine bu (K.at' 0 rfl) ?_) | (go_at_call 96;refine(pg x v u g nm _).mono ?_;generalize kT x.nm nm=m at t;rintro e F ⟨rfl,k⟩;have K:=K.on k;clear k))
     go_roundw
     case rel=>
      refine⟨a,h,I,by omega,rfl,by go_num,K.ft,Lib.hid ⟨q.out.1,fun j d z c=>?_⟩⟩
      rcases Nat.lt_or_ge h j with f | f
      ·cases hk:ltB d.nm nm with
       | false=>rfl
       | true=>rw[gF (l.lt f y.out c) hk]at hl;cases hl
      ·obtain rfl:j=h:=by omega
       rw[y.out]at c
       injection c with c
       subst c
       exact hl
     case measure=>simp[intOf];omega
  ·obtain rfl:a=b:=by omega
   by_cases G:a<n
   ·obtain⟨x,s⟩:∃ x,cs[a]?=some x:=⟨_,List.getElem?_eq_getElem (by have:=B.out;omega)⟩
    obtain⟨ad,r,rfl,K,⟨v,u,g,rfl,p,o⟩⟩:=K.elem 0 rfl s
    have J:(0:Int)≤(a:Int):=by omega
    have L:(a:Int)<(n:Int):=by omega
    clear s p o
    go_wp2_with (first | (refine bu (K.at' 0 rfl) ?_) | (go_at_call 96;refine(pg x v u g nm _).mono ?_;generalize kT x.nm nm=m;rintro e F ⟨rfl,k⟩;have K:=K.on k;clear k))
    go_ret2
    exact⟨a,_,rfl,by omega,q.out.1,fun d c=>q.out.2 a d (Nat.le_refl _) c,K.below⟩
   ·obtain rfl:a=n:=by omega
    go_wp2
    go_ret2
    exact⟨a,_,rfl,by omega,q.out.1,fun d c=>q.out.2 a d (Nat.le_refl _) c,K.below⟩
end
section
open Go.RowKit Go.Maps Go.WideMaps
theorem tM (s:ByteArray) (w:World) (a:s.size≤maxLen):Calls Tryz.prog 242 #[.string s] w fun e w'=>e = .returned (.bool (!cE s.data.toList))∧w=w':=by
 go_enter Tryz.func242,Tryz.ntmps242
 go_wp2_with (go_at_call 58;refine(gQ _ _ a).mono ?_;rintro e w' ⟨rfl,rfl⟩)
 go_ret
 exact⟨rfl,rfl⟩
theorem tv (A:Option Addr) (n c B:Nat) (ss:List ByteArray) (w:World) (g:Reads w B 1 A n (ss.map Value.string)) (hn:n≤1000000) (d:∀ s ∈ ss,s.size≤maxLen):
 Calls Tryz.prog 172 #[.slice A n c,.func (.func 242) #[] #[]] w fun e w'=>e = .returned (.int .i64 (firstIdx (fun s => !cE s) (lists ss)))∧w=w':=by
 have o:ss.length=n:=by simpa using g.1
 have r:=Lib.hid o;clear o
 go_enter Tryz.func172,Tryz.ntmps172
 go_wp2
 go_loop [8] (fun i => ∃ k:Nat,k≤n∧i = .int .i64 k∧Hid (∀ (j:Nat) y,j<k→(lists ss)[j]?=some y→(!cE y)=false)) (fun i=>n-(intOf i).toNat)
 case atStart=>exact⟨0,Nat.zero_le _,rfl,fun j y t=>by omega⟩
 case round=>
  obtain⟨k,v,rfl,m⟩:=hrel
  by_cases f:k<n
  ·obtain⟨ad,x,rfl,z,b,u⟩:=g.str_at f
   have a:=d x (List.mem_of_getElem? b)
   have p:=Lib.hid (ql ss k x b)
   clear b g
   by_cases q:cE x.data.toList=true
   ·go_wp2_with (go_at_call 242;refine(tM _ _ a).mono ?_;rintro e w' ⟨rfl,rfl⟩)
    go_round
    case rel=>
     refine⟨k+1,by omega,by go_num,fun j y t hy=>?_⟩
     rcases Nat.lt_or_ge j k with h | h
     ·exact m.out j y h hy
     ·obtain rfl:j=k:=by omega
      rw[p.out]at hy
      cases hy
      rw[q];rfl
    case measure=>simp[intOf];omega
   ·have l:cE x.data.toList=false:=by simpa using q
    go_wp2_with (go_at_call 242;refine(tM _ _ a).mono ?_;rintro e w' ⟨rfl,rfl⟩)
    go_ret
    exact⟨dV (mj _ _ k _ m.out p.out (by rw[l];rfl)).symm,rfl⟩
  ·go_wp2
   go_ret
   refine⟨dV (firstIdx_none _ _ (fun j y hy=>m.out j y ?_ hy)).symm,rfl⟩
   have:j<(lists ss).length:=(List.getElem?_eq_some_iff.1 hy).1
   rw[fj,r.out]at this
   omega
theorem pP (A:Option Addr) (n c B:Nat) (ss:List ByteArray) (w:World) (b:Reads w B 1 A n (ss.map Value.string)) (hn:n≤1000000) (a:∀ s ∈ ss,s.size≤maxLen):
 Calls Tryz.prog 103 #[.slice A n c,.func (.func 242) #[] #[]] w fun e w'=>e = .returned (.bool ((lists ss).any (fun s => !cE s)))∧w=w':=by
 have HI:=fun W=>Lib.hid (tv A n c B ss W)
 go_enter Tryz.func103,Tryz.ntmps103
 go_wp2_with fail
 refine((HI _).out b hn a).mono ?_
 rintro e d ⟨rfl,rfl⟩
 go_wp2
 go_ret
 exact⟨bF (mH _ _),rfl⟩
theorem wU (A:Option Addr) (n c B:Nat) (ss:List ByteArray) (w:World) (j:Reads w B 1 A n (ss.map Value.string)) (hB:B≤w.heap.size) (hn:n≤1000000) (b:∀ s ∈ ss,s.size≤maxLen):
 Calls Tryz.prog 190 #[.slice A n c] w fun e w'=>e = .returned (.bool (dn (lists ss)))∧Below w.heap.size w w':=by
 have o:ss.length=n:=by simpa using j.1
 have d:=Lib.hid ((fj ss).trans o);clear o
 have r:=fun W=>Lib.hid (sF A n c B ss W)
 have t:=fun W=>Lib.hid (pP A n c B ss W)
 by_cases g:n≤32
 ·go_enter Tryz.func190,Tryz.ntmps190
  go_wp2_with fail
  refine((r _).out j hB hn b).mono ?_
  rintro e x ⟨rfl,u,f⟩
  obtain⟨D,l,_,_,v,k⟩:=u
  have hlen:=fun ty=>l.len (P:=Tryz.prog) Tryz.underlying313 ty
  rw[d.out]at v
  have q:=Lib.hid k
  have i:=j.keep (w':=x) (fun p z=>f.cell (by omega))
  clear l k
  by_cases m:Maps.size D<n
  ·go_wp2
   go_ret
   refine⟨bF ?_,f⟩
   have a:¬ (lists ss).Nodup:=fun h=>by have:=q.out.2 h;rw[d.out]at this;omega
   unfold dn
   simp[a]
  ·go_wp2_with fail
   refine((t _).out i hn b).mono ?_
   rintro e y ⟨rfl,rfl⟩
   go_wp2
   go_ret
   refine⟨bF ?_,f⟩
   have a:(lists ss).Nodup:=q.out.1 (by rw[d.out];omega)
   unfold dn
   rw[Bool.eq_iff_iff]
   simp[a]
   intro _
   rw[d.out];exact g
 ·go_enter Tryz.func190,Tryz.ntmps190
  go_wp2_with fail
  go_ret
  refine⟨bF ?_,Below.refl _ _⟩
  unfold dn
  simp
  intro h
  rw[d.out]at h
  omega
theorem FD (A:Option Addr) (n c:Nat) (p:Int) (w:World) (hn:n≤1000000) (h:p<1∨(n:Int)<p):
 Calls Tryz.prog 262 #[.slice A n c,.int .i64 p] w fun e w'=>e = .returned (.tuple #[.string ⟨#[]⟩,.int .i64 14])∧w=w':=by
 by_cases b:p<1
 ·go_enter Tryz.func262,Tryz.ntmps262
  go_wp2
  go_ret2
  exact⟨rfl,rfl⟩
 ·have a:(n:Int)<p:=by omega
  go_enter Tryz.func262,Tryz.ntmps262
  go_wp2
  go_ret2
  exact⟨rfl,rfl⟩
theorem EU (A:Option Addr) (n c B k:Nat) (ss:List ByteArray) (s:ByteArray) (w:World) (f:Reads w B 1 A n (ss.map Value.string)) (hn:n≤1000000) (a:ss[k]?=some s):
 Calls Tryz.prog 262 #[.slice A n c,.int .i64 ((k:Int)+1)] w fun e w'=>e = .returned (.tuple #[.string s,.int .i64 0])∧w=w':=by
 have g:ss.length=n:=by simpa using f.1
 have d:k<n:=by rw[←g];exact(List.getElem?_eq_some_iff.1 a).1
 obtain⟨ad,x,rfl,j,b,i⟩:=f.str_at d
 obtain rfl:x=s:=by rw[a]at b;injection b with h;exact h.symm
 clear g b a f
 go_enter Tryz.func262,Tryz.ntmps262
 go_wp2
 go_ret2
 exact⟨rfl,rfl⟩
end
section
open Go.RowKit Go.Maps Go.WideMaps
theorem Tryz.infoStr:(Tryz.prog.info? 9).map (fun i=>(i.zero,i.size,i.bytes))=some (some (.string ByteArray.empty),1,16):=by kernel_rfl
theorem Bp (ss:List ByteArray):∀ u ∈ ss.map Value.string,u.oneCell'=true:=by
 intro u a
 obtain⟨s,_,rfl⟩:=List.mem_map.1 a
 rfl
theorem sA (A:Option Addr) (n c B:Nat) (ss:List ByteArray) (w:World) (d:Reads w B 1 A n (ss.map Value.string)) (hB:B≤w.heap.size) (hn:n≤1000000):
 Calls Tryz.prog 243 #[.slice A n c] w fun e w' => ∃ v,e = .returned v∧w'.ownsRow w.heap.size 9 1 v n (ss.map Value.string)∧Below w.heap.size w w':=by
 have q:∀ (w:World) (a:Option Addr) (n c n' c':Nat),(binOp .eql 32 (.slice a n c) (.slice none n' c')).run Tryz.prog w = .ok (.bool a.isNone) w:=fun w a n c n' c'=>Lib.run_eql_slice_nil w _ _ a n c n' c' Tryz.underlying32
 obtain⟨p,j,i,f,g⟩:=info_parts Tryz.infoStr
 rcases A with _ | ad
 ·have l:n=0:=by
   rcases Nat.eq_zero_or_pos n with h | h
   ·exact h
   ·obtain⟨_,h,_⟩:=d.2 h;cases h
  subst l
  have m:ss.map Value.string = []:=List.eq_nil_of_length_eq_zero (by simpa using d.1)
  have r:=Lib.hid m;clear m d
  go_enter Tryz.func243,Tryz.ntmps243
  go_wp2
  go_ret
  exact⟨_,rfl,⟨by rw[r.out];rfl,.inl ⟨rfl,rfl⟩⟩,Below.refl _ _⟩
 ·have s:=Lib.hid d;clear d
  go_enter Tryz.func243,Tryz.ntmps243
  go_wp2_with (at_builtin;go_must (refine aP _ rfl _ _ 32 rfl w.heap.size 9 p _ 1 16 Tryz.underlying32 j i f g rfl (by omega) _ 0 [] rfl (dj w 9 w.heap.size (Nat.le_refl _) 1) B (some ad) n c _ rfl (s.out.alloc hB _) (Bp ss) (by unfold maxLen;omega) (by omega) (by simp) ?_);intro t u b k o)
  go_ret
  exact⟨t,rfl,by simpa using b,cT ((Below.refl _ _).alloc (Nat.le_refl _) _) k (dj w 9 w.heap.size (Nat.le_refl _) 1) (Nat.le_refl _) (by simp)⟩
def eP (l:List (List UInt8)) (s:List UInt8):Int:=
 if dn l=false then 1 else if cE s=false then 3 else if placeOf l s≠0 then 7 else if l.length=32 then 9 else 0
def wH (A:Option Addr) (n c:Nat) (ss:List ByteArray) (s:ByteArray) (w:World) (e:Ending) (w':World):Prop:=
 ((eP (lists ss) s.data.toList≠0∧e = .returned (.tuple #[.slice A n c,.int .i64 (eP (lists ss) s.data.toList)])) ∨
  (eP (lists ss) s.data.toList=0 ∧ ∃ v,e = .returned (.tuple #[v,.int .i64 0])∧w'.ownsRow w.heap.size 9 1 v (n+1) ((ss ++ [s]).map Value.string)))∧Below w.heap.size w w'
theorem Fp (A:Option Addr) (n c B:Nat) (ss:List ByteArray) (s:ByteArray) (w:World) (k:Reads w B 1 A n (ss.map Value.string)) (hB:B≤w.heap.size) (hn:n≤100000) (b:∀ s ∈ ss,s.size≤maxLen) (x:s.size≤maxLen):
 Calls Tryz.prog 193 #[.slice A n c,.string s] w (wH A n c ss s w):=by
 have R:ss.length=n:=by simpa using k.1
 have G:=Lib.hid ((fj ss).trans R);clear R
 have t:=fun W=>Lib.hid (wU A n c B ss W)
 have U:=fun W=>Lib.hid (mI A n c B ss s W)
 have V:=fun W=>Lib.hid (sA A n c B ss W)
 have y:=fun W=>Lib.hid (gQ s W x)
 obtain⟨S,M,L,C,J⟩:=info_parts Tryz.infoStr
 by_cases hR:dn (lists ss)=true
 ·have P:n≤32:=by
   have:=hR;unfold dn at this;rw[decide_eq_true_eq,G.out]at this;exact this.1
  by_cases hN:cE s.data.toList=true
  ·by_cases hP:placeOf (lists ss) s.data.toList=0
   ·have N:¬ ((0:Int)<(placeOf (lists ss) s.data.toList:Int)):=by omega
    by_cases l:n=32
    ·have g:=Lib.hid (show eP (lists ss) s.data.toList=9 from by unfold eP;rw[hR,hN,hP,G.out,l];rfl)
     clear hP
     subst l
     go_enter Tryz.func193,Tryz.ntmps193
     go_wp2_with fail
     refine((t _).out k hB (by omega) b).mono ?_
     rintro e u ⟨rfl,a⟩
     have f:=(k.more hB).below a
     have d:=a.size
     go_wp2_with fail
     refine((y _).out).mono ?_
     rintro e p ⟨rfl,rfl⟩
     go_wp2_with fail
     have j:=fun W=>Lib.hid (mI A 32 c w.heap.size ss s W)
     refine((j _).out f d (by omega) b x).mono ?_
     rintro e F ⟨rfl,h⟩
     go_wp2
     go_ret2
     exact⟨.inl ⟨by rw[g.out];decide,by rw[g.out];rfl⟩,a.trans (h.mono d)⟩
    ·have g:=Lib.hid (show eP (lists ss) s.data.toList=0 from by unfold eP;rw[hR,hN,hP,G.out];simp[l])
     have O:((n:Int) == 32)=false:=by simp;omega
     have Q:(n == 32)=false:=by simp;omega
     clear hP l
     go_enter Tryz.func193,Tryz.ntmps193
     go_wp2_with fail
     refine((t _).out k hB (by omega) b).mono ?_
     rintro e u ⟨rfl,a⟩
     have f:=(k.more hB).below a
     have d:=a.size
     go_wp2_with fail
     refine((y _).out).mono ?_
     rintro e p ⟨rfl,rfl⟩
     go_wp2_with fail
     have j:=fun W=>Lib.hid (mI A n c w.heap.size ss s W)
     refine((j _).out f d (by omega) b x).mono ?_
     rintro e F ⟨rfl,h⟩
     have i:=a.trans (h.mono d)
     have z:=(k.more hB).below i
     have m:=i.size
     clear f h
     go_wp2_with fail
     have K:=fun W=>Lib.hid (sA A n c w.heap.size ss W)
     refine((K _).out z m (by omega)).mono ?_
     rintro e T ⟨v,rfl,hown,r⟩
     have q:=i.trans (r.mono m)
     have I:=r.size
     go_wp2_with (at_builtin;go_must (refine dW T rfl _ _ 32 rfl F.heap.size 9 S _ 16 Tryz.underlying32 M L C J rfl _ n _ hown rfl (.string s) rfl rfl (by unfold maxLen;omega) (by omega) I ?_);intro v' X o H)
     go_ret2
     refine⟨.inr ⟨g.out,v',rfl,?_⟩,cT q H hown m (by omega)⟩
     rw[List.map_append]
     exact cQ o m
   ·have N:(0:Int)<(placeOf (lists ss) s.data.toList:Int):=by omega
    have g:=Lib.hid (show eP (lists ss) s.data.toList=7 from by unfold eP;rw[hR,hN];simp[hP])
    clear hP
    go_enter Tryz.func193,Tryz.ntmps193
    go_wp2_with fail
    refine((t _).out k hB (by omega) b).mono ?_
    rintro e u ⟨rfl,a⟩
    have f:=(k.more hB).below a
    have d:=a.size
    go_wp2_with fail
    refine((y _).out).mono ?_
    rintro e p ⟨rfl,rfl⟩
    go_wp2_with fail
    have j:=fun W=>Lib.hid (mI A n c w.heap.size ss s W)
    refine((j _).out f d (by omega) b x).mono ?_
    rintro e F ⟨rfl,h⟩
    go_wp2
    go_ret2
    exact⟨.inl ⟨by rw[g.out];decide,by rw[g.out];rfl⟩,a.trans (h.mono d)⟩
  ·have E:cE s.data.toList=false:=by simpa using hN
   have g:=Lib.hid (show eP (lists ss) s.data.toList=3 from by unfold eP;rw[hR,E];rfl)
   go_enter Tryz.func193,Tryz.ntmps193
   go_wp2_with fail
   refine((t _).out k hB (by omega) b).mono ?_
   rintro e u ⟨rfl,a⟩
   go_wp2_with fail
   refine((y _).out).mono ?_
   rintro e p ⟨rfl,rfl⟩
   go_wp2
   go_ret2
   exact⟨.inl ⟨by rw[g.out];decide,by rw[g.out];rfl⟩,a⟩
 ·have D:dn (lists ss)=false:=by simpa using hR
  have g:=Lib.hid (show eP (lists ss) s.data.toList=1 from by unfold eP;rw[D];rfl)
  go_enter Tryz.func193,Tryz.ntmps193
  go_wp2_with fail
  refine((t _).out k hB (by omega) b).mono ?_
  rintro e u ⟨rfl,a⟩
  go_wp2
  go_ret2
  exact⟨.inl ⟨by rw[g.out];decide,by rw[g.out];rfl⟩,a⟩
end
section
open Go.RowKit
abbrev eN (l:List UInt8):ByteArray:=⟨l.toArray⟩
def af:Sh (List UInt8):=jC 1 (fun l => [.string (eN l)]) (fun l=>l.length≤maxLen) (fun _=>rfl) (by intro a u hu;rw[List.mem_singleton]at hu;subst hu;rfl)
theorem oN (l:List (List UInt8)):lists (l.map eN)=l:=by
 unfold lists
 rw[List.map_map]
 induction l with
 | nil=>rfl
 | cons x l ih=>rw[List.map_cons,ih];rfl
theorem Sl.names {w:World} {X:List Nat} {A:Option Addr} {n c:Nat} {l:List (List UInt8)} (h:Sl af w X A n c l):Reads w w.heap.size 1 A n ((l.map eN).map Value.string) ∧ ∀ s ∈ l.map eN,s.size≤maxLen:=by
 obtain⟨i,m,g,j,vs,a,k,d⟩:=h
 obtain⟨rfl,b⟩:=aM.1 d
 rw[fT]at a
 refine⟨by rw[List.map_map];exact a,fun s e=>?_⟩
 obtain⟨l,f,rfl⟩:=List.mem_map.1 e
 have:=b l f
 simpa [eN,ByteArray.size] using this
theorem qV {w:World} {X:List Nat} (l:List (List UInt8)) (h:∀ s ∈ l,s.length≤maxLen):aF af w X ((l.map eN).map Value.string) l:=by
 refine aM.2 ⟨?_,h⟩
 rw[fT,List.map_map]
 rfl
theorem xN {c:Cx} (h:¬ (0≤c.q∧c.q≤4294967296∧0≤c.a∧c.a≤1099511627776)):aJ c=false:=by
 cases hr:aJ c with
 | false=>rfl
 | true=>
   unfold aJ at hr
   simp only[Bool.and_eq_true,decide_eq_true_iff]at hr
   exact absurd ⟨hr.1.1.1.1,hr.1.1.1.2,hr.1.1.2,hr.1.2⟩ h
theorem yb {c:Cx} (f:0≤c.q) (b:c.q≤4294967296) (e:0≤c.a) (d:c.a≤1099511627776):aJ c=dn c.ns:=by
 unfold aJ;rw[decide_eq_true f,decide_eq_true b,decide_eq_true e,decide_eq_true d];rfl
set_option maxHeartbeats 2000000 in
theorem jT (q a:Int) (ns:List (List UInt8)) (A:Option Addr) (n d:Nat) (X:List Nat) (w:World) (j:Sl af w X A n d ns) (hn:n≤1000):
 Calls Tryz.prog 125 #[.agg #[.int .i64 q,.int .i64 a,.slice A n d]] w fun e w'=>e = .returned (.bool (aJ ⟨q,a,ns⟩))∧Below w.heap.size w w':=by
 have i:=Lib.hid j.names
 clear j
 by_cases h:¬ (0≤q∧q≤4294967296∧0≤a∧a≤1099511627776)
 ·rw[xN (c:=⟨q,a,ns⟩) h]
  rcases(by omega:q<0∨(0≤q∧4294967296<q)∨(0≤q∧q≤4294967296∧a<0)∨(0≤q∧q≤4294967296∧0≤a∧1099511627776<a)) with b | ⟨k,b⟩ | ⟨k,b,f⟩ | ⟨k,b,f,g⟩
  all_goals
   clear h
   go_enter Tryz.func125,Tryz.ntmps125
   go_wp2
   go_ret
   exact⟨rfl,(Below.refl _ _).alloc (Nat.le_refl _) _⟩
 ·obtain⟨b,f,g,m⟩:=Classical.not_not.1 h
  rw[yb (c:=⟨q,a,ns⟩) b f g m]
  have o:=Lib.hid (oN ns)
  clear h
  go_enter Tryz.func125,Tryz.ntmps125
  go_wp2_with (go_at_call 190;refine(wU A n d w.heap.size (ns.map eN) _ (i.out.1.alloc (Nat.le_refl _) _) (by simp) (by omega) i.out.2).mono ?_;rintro e p ⟨rfl,l⟩;rw[o.out])
  go_ret
  exact⟨rfl,((Below.refl _ _).alloc (Nat.le_refl _) _).trans (l.mono (by simp))⟩
end
section
open Go.RowKit
theorem iX (k:Int):cu k≤3:=by
 unfold cu
 split
 ·omega
 ·split
  ·omega
  ·split<;>omega
theorem yW (b:Evt) (w:World):Calls Tryz.prog 195 #[.agg (evA b)] w fun e w' => ∃ g,e = .returned (.slice (some ⟨g,0,none⟩) (cu b.k) 3)∧w.heap.size≤g∧Blk w' g 2 #[.int .i64 b.x,.int .i64 b.y,.int .i64 b.z]∧Below w.heap.size w w':=by
 have c:=fun W=>Lib.hid (vC b.k W)
 have d:=iX b.k
 generalize cu b.k=m at c d ⊢
 obtain⟨q,a,k,f,x,y,z⟩:=b
 simp only at c
 go_enter Tryz.func195,Tryz.ntmps195
 go_wp2_with (go_at_call 57;refine((c _).out).mono ?_;rintro e w' ⟨rfl,rfl⟩)
 go_ret
 refine⟨w.heap.size+1,rfl,by omega,rB _ _ _ _ _,((Below.refl _ _).alloc (Nat.le_refl _) _).alloc (by simp) _⟩
end
section
def maskN:Nat:=4294967295
def wo:Nat:=3988292384
def gh (n:Nat):Nat:=if n%2=1 then n/2 ^^^ wo else n/2
def ef (n:Nat):Nat:=gh (gh (gh (gh (gh (gh (gh (gh n)))))))
def sY:Nat→Nat→Nat
 | 0,n=>n
 | k+1,n=>gh (sY k n)
def goN (t:Nat→Nat) (n:Nat) (b:List Nat):Nat:=b.foldl (fun n x=>t (n%256 ^^^ x) ^^^ n/256) n
def uK (t:Nat→Nat) (s:Nat) (b:List Nat):Nat:=goN t (s ^^^ maskN) b ^^^ maskN
def le4 (n:Nat):List Nat:=[n%256,n/256%256,n/65536%256,n/16777216%256]
theorem Ec (n:Nat):sY 8 n=ef n:=rfl
theorem gJ {a b:Nat} (c:a<4294967296) (d:b<4294967296):a ^^^ b<4294967296:=Nat.xor_lt_two_pow (n:=32) (by simpa using c) (by simpa using d)
theorem wR {a b:Nat} (c:a<256) (d:b<256):a ^^^ b<256:=Nat.xor_lt_two_pow (n:=8) (by simpa using c) (by simpa using d)
theorem BM {n:Nat} (h:n<4294967296):gh n<4294967296:=by
 unfold gh
 split
 ·exact gJ (by omega) (by decide)
 ·omega
theorem tg {n:Nat} (h:n<4294967296) (k:Nat):sY k n<4294967296:=by
 induction k with
 | zero=>exact h
 | succ k ih=>exact BM ih
theorem tI {n:Nat} (h:n<4294967296):ef n<4294967296:=tg h 8
theorem jV (a b:Nat):(a ^^^ b) ^^^ b=a:=by rw[Nat.xor_assoc,Nat.xor_self,Nat.xor_zero]
theorem add_eq_xor (c r:Nat) (e:c<256):c+256*r=c ^^^ 256*r:=by
 refine Nat.eq_of_testBit_eq fun i=>?_
 rw[Nat.testBit_xor]
 have b:c+256*r=2^8*r+c:=by omega
 have d:256*r=2^8*r:=by omega
 rw[b,Nat.testBit_two_pow_mul_add r (by omega:c<2^8) i,d,Nat.testBit_two_pow_mul]
 by_cases h:i<8
 ·have a:decide (8≤i)=false:=by simp;omega
  simp[h,a]
 ·rw[if_neg h]
  have:c.testBit i=false:=Nat.testBit_lt_two_pow (Nat.lt_of_lt_of_le (by omega:c<2^8) (Nat.pow_le_pow_right (by omega) (by omega)))
  have a:decide (8≤i)=true:=by simp;omega
  simp[this,a]
theorem Fm (n:Nat):n=n%256 ^^^ 256*(n/256):=by
 rw[←add_eq_xor _ _ (by omega)];omega
theorem Aq (t:Nat→Nat) (c:∀ i,i<256→t i<4294967296) (b:List Nat) (a:∀ x ∈ b,x<256):∀ n,n<4294967296→goN t n b<4294967296:=by
 induction b with
 | nil=>intro n hn;exact hn
 | cons x b ih=>
   intro n hn
   simp only[goN,List.foldl_cons]
   exact ih (fun y hy=>a y (List.mem_cons_of_mem _ hy)) _ (gJ (c _ (wR (by omega) (a x (List.mem_cons_self ..)))) (by omega))
theorem Dp (t:Nat→Nat) (c:∀ i,i<256→t i<4294967296) (s:Nat) (a:s<4294967296) (b:List Nat) (d:∀ x ∈ b,x<256):uK t s b<4294967296:=
 gJ (Aq t c b d _ (gJ a (by decide))) (by decide)
end
end Go.Proofs.YtpokkciheejeiaaGreatDoor
