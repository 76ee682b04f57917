/- Lemmas and contracts that the proof of TopSegments uses, part 4 of 14: each is a theorem for every input that its premises allow. -/
import Derived.WalkLawsBesides
import Derived.WalkSpells
import Derived.Outline
import Derived.Deep.DeepMust
import Derived.Test.YtpokkciheejeiaaGreatDoorRows
import Derived.Deep.RegionHeld3
import Derived.BigQuiet
import Derived.Laws.CopyOwn
import Derived.Laws.CopyRow
import Derived.RangeFuncNested
import Derived.RangeFuncBound
import Derived.RangeFuncCalls
import Derived.RangeFuncLeaves
import Derived.RangeFuncFrom
import Derived.RangeFuncBox
import Derived.Shelf.Abstract
import Derived.Shelf.RegionOpen
import Derived.OwnWalkIn
import Derived.TacticsInMore
import Derived.LoopNIn
import Derived.LoopIn
import Derived.RegionIn
import Derived.IntWalk
import Derived.Deep.DeepCutAuto
import Derived.StillTailTactics
import Derived.Laws.BitsLemmas
import Derived.Deep.Slices
import Derived.Deep.Fields
import Derived.ChangeSame
import Derived.ChangeArms
import Derived.Test.YtpokkciheejeiaaGreatDoorTsC
set_option linter.unusedVariables false
set_option linter.unusedSimpArgs false
set_option maxRecDepth 100000
namespace Go.Proofs.YtpokkciheejeiaaGreatDoor
section
open Go.RowKit
theorem EI {k:IntKind} {a b:Int} (h:a=b):Ending.returned (.int k a) = .returned (.int k b):=by rw[h]
theorem AE (n:Nat) (h:n<4294967296):bits .xor .u32 ((n:Int)/2) 3988292384=((n/2 ^^^ wo:Nat):Int):=by
 have e:((n:Int)/2)=((n/2:Nat):Int):=by omega
 have a:(3988292384:Int)=((wo:Nat):Int):=rfl
 rw[e,a,u32_xor_nat _ _ (by omega) (by decide)]
theorem Em (n:Nat) (hn:n<4294967296) (w:World):Calls Tryz.prog 174 #[.int .u32 n] w fun e w'=>e = .returned (.int .u32 (gh n))∧w=w':=by
 have b:=AE n hn
 have d:=Lib.hid b;clear b
 by_cases h:n%2=1
 ·have c:(((n:Int)%2) == 1)=true:=by rw[beq_iff_eq];omega
  have a:=Lib.hid (show gh n=n/2 ^^^ wo from by unfold gh;rw[if_pos h])
  clear h
  go_enter Tryz.func174,Tryz.ntmps174
  go_wp2
  go_ret
  exact⟨EI (by rw[a.out,←d.out]),rfl⟩
 ·have c:(((n:Int)%2) == 1)=false:=by rw[beq_eq_false_iff_ne];omega
  have a:=Lib.hid (show gh n=n/2 from by unfold gh;rw[if_neg h])
  clear h
  go_enter Tryz.func174,Tryz.ntmps174
  go_wp2
  go_ret
  exact⟨EI (by rw[a.out];rfl),rfl⟩
def bG (t:Nat→Nat):Array Value:=((List.range 256).map (fun i=>Value.int .u32 ((t i:Nat):Int))).toArray
theorem di (t:Nat→Nat):(bG t).size=256:=by simp[bG]
theorem dY (t:Nat→Nat) (i:Nat) (h:i<256):(bG t)[i]?=some (.int .u32 (t i)):=by
 simp[bG,h]
theorem nK:Tryz.zeroCells185=bG (fun _=>0):=by kernel_rfl
theorem vL (t:Nat→Nat) (k:Nat) (b:k<256) (v:Nat):(bG t).setIfInBounds k (.int .u32 v)=bG (fun i=>if i=k then v else t i):=by
 apply Array.ext_getElem?
 intro i
 rw[Array.getElem?_setIfInBounds]
 by_cases a:k=i
 ·subst a
  rw[if_pos rfl,di,if_pos b,dY _ _ b];simp
 ·rw[if_neg a]
  by_cases h:i<256
  ·rw[dY _ _ h,dY _ _ h,if_neg (fun e=>a e.symm)]
  ·rw[Array.getElem?_eq_none (by rw[di];omega),Array.getElem?_eq_none (by rw[di];omega)]
theorem lJ {t u:Nat→Nat} (h:∀ i,i<256→t i=u i):bG t=bG u:=by
 apply Array.ext_getElem?
 intro i
 by_cases a:i<256
 ·rw[dY _ _ a,dY _ _ a,h i a]
 ·rw[Array.getElem?_eq_none (by rw[di];omega),Array.getElem?_eq_none (by rw[di];omega)]
theorem oT (t:Nat→Nat):(bG t).all (·.oneCell')=true:=by
 rw[Array.all_eq_true]
 intro i b
 have a:i<256:=by rw[di]at b;exact b
 have:=dY t i a
 rw[Array.getElem?_eq_getElem b]at this
 injection this with this
 rw[this];rfl
attribute [irreducible] bG
theorem fU (t:Nat→Nat):(Tryz.prog.info? 185).map (·.size)=some (bG t).size:=by rw[di];kernel_rfl
theorem Blk.setRow {w:World} {g:Nat} {t:TypeId} {old:Array Value} (h:Blk w g t old) (cs:Array Value):Blk (w.setRow g cs) g t cs:=setRow_heap w g old cs t (0,0) h
theorem below_setRow {B:Nat} {a w:World} (h:Below B a w) {g:Nat} (c:B≤g) (cs:Array Value):Below B a (w.setRow g cs):=
 h.trans ⟨rfl,rfl,rfl,by simp,fun k b=>setRow_other w g k cs (by omega)⟩
theorem oq (w:World):Calls Tryz.prog 110 #[] w fun e w'=>e = .returned (.agg (bG ef))∧Below w.heap.size w w':=by
 go_enter Tryz.func110,Tryz.ntmps110
 go_wp2
 go_loopw [4] (fun i wr => ∃ k:Nat,k≤256∧i = .int .i64 k∧Hid (Blk wr (w.heap.size+1) 185 (bG (fun i=>if i<k then ef i else 0)))∧Hid (Blk wr w.heap.size 185 (bG (fun _=>0)))∧Below w.heap.size w wr) (fun i _=>256-(intOf i).toNat)
 case atStart=>
  refine⟨0,Nat.zero_le _,rfl,?_,?_,(((Below.refl _ _).alloc (Nat.le_refl _) _).alloc (by simp) _)⟩
  ·have h:=rB w 185 185 Tryz.zeroCells185 Tryz.zeroCells185
   rw[show bG (fun i=>if i<0 then ef i else 0)=Tryz.zeroCells185 from by rw[nK];exact lJ (fun i _=>rfl)]
   exact h
  ·rw[←nK]
   exact vG w 185 185 Tryz.zeroCells185 Tryz.zeroCells185
 case round=>
  obtain⟨k,p,rfl,a,d,b⟩:=hrel
  by_cases c:k<256
  ·have hcell:wr.cell? ⟨w.heap.size+1,k,none⟩=some (.int .u32 0):=by
    rw[a.out.cell k,dY _ _ c,if_neg (by omega)];rfl
   have n:wr.frozen? ⟨w.heap.size+1,k,none⟩=false:=a.out.frozen k
   have o:(0:Int)≤(k:Int):=by omega
   have r:decide ((k:Int)<256)=true:=by simp;omega
   go_wp2
   go_loop [3,9] (fun t j => ∃ q:Nat,q≤8∧j = .int .i64 q∧t = .int .u32 (sY q k)) (fun _ j=>8-(intOf j).toNat)
   case atStart=>exact⟨0,Nat.zero_le _,rfl,rfl⟩
   case round=>
    obtain⟨q,s,rfl,rfl⟩:=hrel
    by_cases l:q<8
    ·go_wp2_with (go_at_call 174;refine(Em _ (tg (by omega) q) _).mono ?_;rintro e w' ⟨rfl,rfl⟩)
     go_round
     case rel=>exact⟨q+1,by omega,by go_num,rfl⟩
     case measure=>simp[intOf];omega
    ·obtain rfl:q=8:=by omega
     go_wp2
     go_roundw
     case rel=>
      refine⟨k+1,by omega,by go_num,?_,d.out.far (by simp) _,b.setCell (by simp) _⟩
      have e:=a.out.set_ k (.int .u32 (sY 8 k))
      rw[vL _ k c,lJ (u:=fun i=>if i<k+1 then ef i else 0) (fun i _=>?_)]at e
      ·exact e
      ·by_cases f:i=k
       ·subst f;rw[if_pos rfl,if_pos (by omega),Ec]
       ·rw[if_neg f]
        by_cases g:i<k
        ·rw[if_pos g,if_pos (by omega)]
        ·rw[if_neg g,if_neg (by omega)]
     case measure=>simp[intOf];omega
  ·obtain rfl:k=256:=by omega
   rw[lJ (u:=ef) (fun i m=>by rw[if_pos m])]at a
   go_wp2_with (first
    | (refine wpList_load_row rfl 185 _ rfl (w.heap.size+1) rfl 185 (bG ef) (0,0) _ a.out Tryz.underlying185 rfl (fU _) ?_)
    | (refine wpList_store_row rfl 185 _ _ rfl w.heap.size (bG ef) rfl rfl 185 (bG (fun _=>0)) d.out (fU _) (by rw[di,di]) (oT _) ?_))
   exact bodyPost_ret (results_cell_row rfl _ _ w.heap.size 185 (bG ef) (0,0) _ rfl (d.out.setRow _) Tryz.underlying185 rfl (fU _)) rfl ⟨rfl,below_setRow b (Nat.le_refl _) _⟩
end
section
open Go.RowKit
theorem Dw (g:Nat) (b:g<4294967296):bits .xor .u32 IntKind.u32.max ((g ^^^ maskN:Nat):Int)=(g:Int):=by
 have a:IntKind.u32.max=((maskN:Nat):Int):=rfl
 rw[a,u32_xor_nat _ _ (by decide) (gJ b (by decide)),Nat.xor_comm,jV]
theorem zI (g:Nat) (b:g<4294967296):bits .xor .u32 IntKind.u32.max (g:Int)=((g ^^^ maskN:Nat):Int):=by
 have a:IntKind.u32.max=((maskN:Nat):Int):=rfl
 rw[a,u32_xor_nat _ _ (by decide) b,Nat.xor_comm]
theorem DZ (g x:Nat) (a:x<256):bits .xor .u8 ((g:Int)%256) (x:Int)=((g%256 ^^^ x:Nat):Int):=by
 have e:(g:Int)%256=((g%256:Nat):Int):=by omega
 rw[e,u8_xor_nat _ _ (by omega) a]
theorem CB (a g:Nat) (b:a<4294967296) (c:g<4294967296):bits .xor .u32 (a:Int) ((g:Int)/256)=((a ^^^ g/256:Nat):Int):=by
 have e:(g:Int)/256=((g/256:Nat):Int):=by omega
 rw[e,u32_xor_nat _ _ b (by omega)]
theorem Cs (t:Nat→Nat) (n:Nat) (b:List Nat) (x:Nat):goN t n (b ++ [x])=t (goN t n b%256 ^^^ x) ^^^ goN t n b/256:=by simp[goN]
theorem Fz (t:Nat→Nat) (D:∀ i,i<256→t i<4294967296) (s:Nat) (J:s<4294967296) (A:Option Addr) (n c B:Nat) (bs:List UInt8) (w:World) (r:Reads w B 1 A n (byteCells bs)) (hB:B≤w.heap.size) (hn:n≤1000000):
 Calls Tryz.prog 225 #[.agg (bG t),.int .u32 s,.slice A n c] w fun e w'=>e = .returned (.int .u32 (uK t s (bQ bs)))∧Below w.heap.size w w':=by
 have C:=r.lenB
 have I:=Lib.hid C;clear C
 go_enter Tryz.func225,Tryz.ntmps225
 go_wp2
 go_loop [1,12] (fun v i => ∃ k:Nat,k≤n∧i = .int .i64 k∧v = .int .u32 ((goN t (s ^^^ maskN) ((bQ bs).take k) ^^^ maskN:Nat):Int)) (fun _ i=>n-(intOf i).toNat)
 case atStart=>exact⟨0,Nat.zero_le _,rfl,by simp[goN,jV]⟩
 case round=>
  obtain⟨k,N,rfl,rfl⟩:=hrel
  by_cases q:k<n
  ·obtain⟨ad,x,rfl,O,z,u⟩:=r.byte_at q
   have F:=(World.cell?_alloc_lt w (.cells (bG t) 185) (ad.add k) (by rw[aO];omega)).trans u
   obtain⟨g,o⟩:∃ g,goN t (s ^^^ maskN) ((bQ bs).take k)=g:=⟨_,rfl⟩
   have b:g<4294967296:=by rw[←o];exact Aq t D _ (fun y hy=>kL bs y (List.mem_of_mem_take hy)) _ (gJ J (by decide))
   rw[o]
   have f:=Dw g b
   have m:=x.toNat_lt
   clear u r
   obtain⟨j,p⟩:∃ j,g%256 ^^^ x.toNat=j:=⟨_,rfl⟩
   have d:j<256:=by rw[←p];exact wR (by omega) m
   have a:=DZ g x.toNat m
   rw[p]at a
   have htab:=dY t j d
   have h:=D j d
   have L:=CB (t j) g h b
   have M:=zI (t j ^^^ g/256) (gJ h (by omega))
   have E:(0:Int)≤bits BinOp.xor IntKind.u8 (bits BinOp.xor IntKind.u32 IntKind.u32.max ((g ^^^ maskN:Nat):Int)%256) (x.toNat:Int):=by rw[f,a];omega
   have H:bits BinOp.xor IntKind.u8 (bits BinOp.xor IntKind.u32 IntKind.u32.max ((g ^^^ maskN:Nat):Int)%256) (x.toNat:Int)<256:=by rw[f,a];omega
   have K:=Lib.hid (show goN t (s ^^^ maskN) ((bQ bs).take (k+1))=t j ^^^ g/256 from by
    have e:(bQ bs).take (k+1)=(bQ bs).take k ++ [x.toNat]:=by rw[List.take_add_one];simp[bQ,z]
    rw[e,Cs,o,p])
   clear o p z
   go_wp2
   go_round
   case rel=>exact⟨k+1,by omega,by go_num,by rw[K.out]⟩
   case measure=>simp[intOf];omega
  ·have G:=Lib.hid (List.take_of_length_le (l:=bQ bs) (i:=k) (by rw[dz,I.out];omega))
   go_wp2
   go_ret
   exact⟨EI (by rw[G.out];rfl),(Below.refl _ _).alloc (Nat.le_refl _) _⟩
end
section
open Go.RowKit
def nP (s:Nat):List UInt8:=(le4 s).map UInt8.ofNat
def hO (t:Nat→Nat) (bs:List UInt8):List UInt8:=bs++nP (uK t 0 (bQ bs))
theorem jJ (s:Nat):(nP s).length=4:=by simp[nP,le4]
theorem mb (t:Nat→Nat) (bs:List UInt8):(hO t bs).length=bs.length+4:=by unfold hO;rw[List.length_append,jJ]
theorem xw (s k:Nat) (a:k<4):(nP s).take (k+1)=(nP s).take k ++ [UInt8.ofNat (s/256^k%256)]:=by
 rcases(by omega:k=0∨k=1∨k=2∨k=3) with rfl | rfl | rfl | rfl<;>simp[nP,le4]
theorem gZ (m:Nat) (h:m<256):((UInt8.ofNat m).toNat:Int)=(m:Int):=by simp;omega
theorem vm (t:Nat→Nat) (D:∀ i,i<256→t i<4294967296) (A:Option Addr) (n c B:Nat) (bs:List UInt8) (w:World) (q:Reads w B 1 A n (byteCells bs)) (hB:B≤w.heap.size) (hn:n≤900000):
 Calls Tryz.prog 173 #[.agg (bG t),.slice A n c] w fun e w' => ∃ v,e = .returned v∧w'.ownsRow w.heap.size 5 1 v (n+4) (byteCells (hO t bs))∧Below w.heap.size w w':=by
 have C:=q.lenB
 have K:=Lib.hid C;clear C
 have z:=Lib.hid q;clear q
 obtain⟨E,y,u,o,r⟩:=info_parts Tryz.infoU8
 go_enter Tryz.func173,Tryz.ntmps173
 go_wp2_with (refine wpList_load_row rfl 185 _ rfl w.heap.size rfl 185 (bG t) (0,0) _ (Blk.new w 185 (bG t)) Tryz.underlying185 rfl (fU _) ?_)
 refine(Fz t D 0 (by decide) A n c B bs _ (z.out.alloc hB _) (by simp;omega) (by omega)).mono ?_
 rintro e w1 ⟨rfl,l⟩
 obtain⟨s,m⟩:∃ s,uK t 0 (bQ bs)=s:=⟨_,rfl⟩
 have H:s<4294967296:=by rw[←m];exact Dp t D 0 (by decide) _ (kL bs)
 rw[m]
 have F:=Lib.hid m;clear m
 have b:Below w.heap.size w w1:=((Below.refl _ _).alloc (Nat.le_refl _) _).trans (l.mono (by simp))
 have x:=Lib.hid ((z.out.more hB).below b)
 have f:=b.size
 go_wp2_with fail
 refine(sO A n c w.heap.size bs _ x.out f (by omega)).mono ?_
 rintro e J ⟨v,rfl,hown,j⟩
 have g:=b.trans (j.mono f)
 have hown':=cQ hown f
 clear l j hown
 go_wp2
 go_loopw [6,13] (fun v i wr => ∃ k:Nat,k≤4∧i = .int .i64 k∧wr.ownsRow w.heap.size 5 1 v (n+k) (byteCells (bs++(nP s).take k))∧Below w.heap.size w wr) (fun _ i _=>4-(intOf i).toNat)
 case atStart=>exact⟨0,Nat.zero_le _,rfl,by simpa using hown',g⟩
 case round=>
  obtain⟨k,I,rfl,hown,d⟩:=hrel
  by_cases h:k<4
  ·have G:=Lib.hid (show byteCells (bs++(nP s).take (k+1))=byteCells (bs++(nP s).take k) ++ [.int .u8 ((s/256^k%256:Nat):Int)] from by
    rw[xw s k h,←List.append_assoc,byteCells_append]
    congr 1
    simp only[byteCells,List.map_cons,List.map_nil]
    rw[gZ _ (by omega)])
   rcases(by omega:k=0∨k=1∨k=2∨k=3) with rfl | rfl | rfl | rfl
   all_goals
    go_wp2_with (at_builtin;go_must (refine dW wr rfl _ _ 50 rfl w.heap.size 5 E _ 1 Tryz.underlying50 y u o r rfl _ _ _ hown rfl _ rfl rfl (by unfold maxLen;omega) (by omega) d.size ?_);intro v' L a p)
    go_roundw
    case rel=>exact⟨_,h,by go_num,by rw[G.out];first | exact a | (rw[show((s/256^0%256:Nat):Int)=(s:Int)%256 from by omega];exact a) | (rw[show((s/256^3%256:Nat):Int)=(s:Int)/16777216 from by omega];exact a),cT d p hown (Nat.le_refl _) d.size⟩
    case measure=>simp[intOf]
  ·obtain rfl:k=4:=by omega
   go_wp2
   go_ret
   refine⟨_,rfl,?_,d⟩
   unfold hO
   rw[F.out]
   rw[List.take_of_length_le (by rw[jJ];omega)]at hown
   exact hown
theorem nZ (A g:Option Addr) (n c b d B h:Nat) (bs cs:List UInt8) (w:World) (f:Reads w B 1 A n (byteCells bs)) (a:Reads w h 1 g b (byteCells cs)):
 Calls Tryz.prog 113 #[.slice A n c,.slice g b d] w fun e w'=>e = .returned (.bool (bs == cs))∧w=w':=by
 have j:=lU f c
 have i:=lU a d
 clear f a
 go_enter Tryz.func113,Tryz.ntmps113
 go_wp2
 go_ret
 exact⟨rfl,rfl⟩
end
section
open Go.RowKit
theorem xE {w:World} {g:Nat} {t:Nat→Nat} (h:Blk w g 185 (bG t)):w.rangeAt g 0 (bG t).toList:=fun j v a=>by
 rw[Nat.zero_add,h.cell j]
 simpa using a
theorem sX {B b o:Nat} {w w':World} {cs:List Value} (h:w.rangeAt b o cs) (d:Below B w w') (a:b<B):w'.rangeAt b o cs:=fun j v c=>(d.cell (p:=⟨b,o+j,none⟩) a).trans (h j v c)
set_option maxHeartbeats 1000000 in
theorem se (t:Nat→Nat) (D:∀ i,i<256→t i<4294967296) (A:Option Addr) (m c B:Nat) (bs:List UInt8) (w:World) (h:Reads w B 1 A (m+4) (byteCells bs)) (hB:B≤w.heap.size) (E:m+4≤c) (hn:m≤900000) (s:c≤9223372036854775807) (b:Bool) (l:(hO t (bs.take m) == bs)=b):
 Calls Tryz.prog 109 #[.agg (bG t),.slice A (m+4) c] w fun e w'=>e = .returned (.tuple #[if b then .slice A m m else .slice none 0 0,.int .i64 (if b then 0 else 12)])∧Below w.heap.size w w':=by
 have r:=Lib.hid (h.preB (k:=m) (by omega))
 have y:=Lib.hid h;clear h
 have I:=Tryz.underlying185
 have F:(Tryz.prog.info? 185).map (·.size)=some (bG t).toList.length:=by rw[Array.length_toList];exact fU t
 have C:(bG t).toList.length=256:=by rw[Array.length_toList,di]
 have u:∀ v ∈ (bG t).toList,v.oneCell'=true:=by have:=oT t;rw[Array.all_eq_true']at this;intro v x;exact this v (by simpa using x)
 have H:((m+4:Nat):Int)-4=(m:Int):=by omega
 have p:m≤c:=by omega
 have q:Hid ((w.alloc (.cells (bG t) 185)).drew.rangeAt w.heap.size 0 (bG t).toList):=(xE (Blk.new w 185 (bG t)))
 have d:Hid (Below w.heap.size w (w.alloc (.cells (bG t) 185)).drew):=((Below.refl _ _).alloc (Nat.le_refl _) _).drew
 go_enter Tryz.func109,Tryz.ntmps109
 go_wp2
 go_region_held3 (fun w'=>w'.rangeAt w.heap.size 0 (bG t).toList∧Below w.heap.size w w')
  (first
   | exact⟨q.out,d.out⟩
   | exact⟨sX q.out a (by simp),d.out.trans (a.mono (by simp))⟩
   | assumption)
  (first
   | (go_at_call 173;refine(vm t D A m c B (bs.take m) _ ((r.out.alloc hB _).drew) (by simp;omega) (by omega)).mono ?_;rintro e wn ⟨v,rfl,hown,a⟩;obtain⟨G,J,rfl,n,j,o,f⟩:=iY hown;clear hown n j o)
   | (go_at_call 113;refine(nZ _ _ _ _ _ _ _ B (hO t (bs.take m)) bs _ f (((y.out.alloc hB _).drew).below (a.mono (by simp;omega)))).mono ?_;rintro e z ⟨rfl,rfl⟩;rw[l]))
 all_goals
  have g:Below w.heap.size w wn:=d.out.trans (a.mono (by simp))
  clear a f
  cases b
  ·go_wp2
   go_ret2
   exact⟨rfl,g⟩
  ·go_wp2
   go_ret2
   exact⟨rfl,g⟩
end
section
open Go.RowKit
theorem Ez (i:Nat) (h:i<256):ef i<4294967296:=tI (by omega)
def mN (n:Nat) (k:Int):List UInt8:=[UInt8.ofNat (n/256),UInt8.ofNat (n%256),UInt8.ofNat k.toNat]
def av (k:Int) (p:List UInt8):List UInt8:=hO ef (mN p.length k++p)
theorem bP (k:Int) (p:List UInt8):(av k p).length=p.length+7:=by
 unfold av mN;rw[mb];simp
theorem rV {w w':World} {base:Nat} {e:TypeId} {size n:Nat} {v:Value} {xs:List Value} (h:w.ownsRow base e size v n xs) (i:Below w.heap.size w w'):w'.ownsRow base e size v n xs:=by
 rcases h with⟨c,a | ⟨g,cap,cur,a,f,b,d⟩⟩
 ·exact⟨c,.inl a⟩
 ·refine⟨c,.inr ⟨g,cap,cur,a,f,(i.block g ?_).trans b,d⟩⟩
  exact Blk.lt (t:=e) (cs:=cur) b
theorem Am (W:World) (e:TypeId) (base:Nat) (cs:List Value) (a:base≤W.heap.size) (b:cs.length≤maxLen):(W.alloc (.cells cs.toArray e)).ownsRow base e 1 (.slice (some ⟨W.heap.size,0,none⟩) cs.length cs.length) cs.length cs:=
 ⟨by simp,.inr ⟨W.heap.size,cs.length,cs.toArray,rfl,a,Blk.new W e cs.toArray,Nat.le_refl _,b,by simp,by simp⟩⟩
theorem lG (k:Int) (w:World) (c:1≤k) (b:k≤3):Calls Tryz.prog 108 #[.int .i64 k] w fun e w'=>e = .returned (.bool true)∧w=w':=by
 have a:decide ((1:Int)≤k)=true:=by simpa using c
 have d:decide (k≤(3:Int))=true:=by simpa using b
 go_enter Tryz.func108,Tryz.ntmps108
 go_wp2
 go_ret
 exact⟨rfl,rfl⟩
theorem xW (k:Int) (w:World) (h:k<1∨3<k):Calls Tryz.prog 108 #[.int .i64 k] w fun e w'=>e = .returned (.bool false)∧w=w':=by
 rcases h with h | h
 ·have a:decide ((1:Int)≤k)=false:=by simpa using h
  go_enter Tryz.func108,Tryz.ntmps108
  go_wp2
  go_ret
  exact⟨rfl,rfl⟩
 ·have a:decide ((1:Int)≤k)=true:=by simp;omega
  have b:decide (k≤(3:Int))=false:=by simpa using h
  go_enter Tryz.func108,Tryz.ntmps108
  go_wp2
  go_ret
  exact⟨rfl,rfl⟩
theorem tc (n:Nat) (k:Int) (hn:n≤200) (b:0≤k) (a:k≤255):byteCells (mN n k) = [.int .u8 0,.int .u8 (n:Int),.int .u8 k]:=by
 unfold byteCells mN
 simp only[List.map_cons,List.map_nil]
 rw[gZ _ (by omega),gZ _ (by omega),gZ _ (by omega),show n/256=0 from by omega,show n%256=n from by omega,show((k.toNat:Nat):Int)=k from by omega]
 rfl
set_option maxHeartbeats 1000000 in
theorem DB (k:Int) (A:Option Addr) (n c B:Nat) (bs:List UInt8) (w:World) (C:1≤k) (z:k≤3) (hn:n≤200) (q:Reads w B 1 A n (byteCells bs)) (hB:B≤w.heap.size):
 Calls Tryz.prog 126 #[.int .i64 k,.slice A n c] w fun e w' => ∃ v,e = .returned (.tuple #[v,.int .i64 0])∧w'.ownsRow w.heap.size 5 1 v (n+7) (byteCells (av k bs))∧Below w.heap.size w w':=by
 have F:=Lib.hid q.lenB
 have E:=Lib.hid q;clear q
 have P:decide ((200:Int)<(n:Int))=false:=by simp;omega
 have hdiv:(n:Int)/256=0:=by omega
 have hmod:(n:Int)%256=(n:Int):=by omega
 have L:k%256=k:=by omega
 obtain⟨y,u,t,p,s⟩:=info_parts Tryz.infoU8
 go_enter Tryz.func126,Tryz.ntmps126
 go_wp2_with fail
 refine(lG k _ C z).mono ?_
 rintro e N ⟨rfl,rfl⟩
 go_wp2_with fail
 refine(oq _).mono ?_
 rintro e D ⟨rfl,g⟩
 have r:=Lib.hid (rV (Am w 5 w.heap.size [.int .u8 0,.int .u8 (n:Int),.int .u8 k] (Nat.le_refl _) (by unfold maxLen;simp)) g)
 have b:Hid (Below w.heap.size w D):=((Below.refl _ _).alloc (Nat.le_refl _) _).trans (g.mono (by simp))
 have m:=b.out.size
 clear g
 go_wp2_with (at_builtin;go_must (refine aP _ rfl _ _ 50 rfl w.heap.size 5 y _ 1 1 Tryz.underlying50 u t p s rfl (by omega) _ 3 _ rfl r.out w.heap.size A n c _ rfl ((E.out.more hB).below b.out) (byteCells_one bs) (by unfold maxLen;omega) (by omega) m ?_);intro O G a j l)
 have d:=cT b.out j r.out (Nat.le_refl _) m
 have o:=Lib.hid d
 obtain⟨I,J,rfl,K,H,M,h⟩:=iY a
 rw[←tc n k hn (by omega) (by omega),←byteCells_append]at h
 have i:=d.size
 clear a j l d b r
 refine(vm ef Ez I (3+n) J G.heap.size _ _ h (Nat.le_refl _) (by omega)).mono ?_
 rintro e Q ⟨v,rfl,f,x⟩
 go_wp2
 go_ret2
 refine⟨v,rfl,?_,o.out.trans (x.mono i)⟩
 unfold av
 rw[F.out,show n+7=3+n+4 from by omega]
 exact cQ f i
end
section
open Go.RowKit
set_option maxHeartbeats 2000000 in
theorem Ev {W:World} {g:Nat} {x0 x1 x2 x3 x4 x5 x6:Value} (fn:Func) (b:fn.results=#[.cell 4 44]) (h:Blk W g 44 #[x0,x1,x2,x3,x4,x5,x6]) (tmps:Array Value) (j:tmps[4]?.getD undef = .pointer (some ⟨g,0,none⟩)):(results fn tmps).run Tryz.prog W = .ok (.agg #[x0,x1,x2,x3,x4,x5,x6]) W:=by
 have c0:W.cell? ⟨g,0,none⟩=some x0:=h.cell 0
 have d:W.cell? ⟨g,1,none⟩=some x1:=h.cell 1
 have e:W.cell? ⟨g,2,none⟩=some x2:=h.cell 2
 have f:W.cell? ⟨g,3,none⟩=some x3:=h.cell 3
 have a:W.cell? ⟨g,4,none⟩=some x4:=h.cell 4
 have i:W.cell? ⟨g,5,none⟩=some x5:=h.cell 5
 have c:W.cell? ⟨g,6,none⟩=some x6:=h.cell 6
 simp[results,b,go_sem,j,c0,d,e,f,a,i,c]
theorem FX {W:World} {g:Nat} {t:TypeId} {p m k o l q n b a i d e c f:Value} (h:Blk W g t #[p,m,k,o,l,q,n]):Blk (((((((W.setCell ⟨g,0,none⟩ b).setCell ⟨g,1,none⟩ a).setCell ⟨g,2,none⟩ i).setCell ⟨g,3,none⟩ d).setCell ⟨g,4,none⟩ e).setCell ⟨g,5,none⟩ c).setCell ⟨g,6,none⟩ f) g t #[b,a,i,d,e,c,f]:=by
 have j:=((((((h.set_ 0 b).set_ 1 a).set_ 2 i).set_ 3 d).set_ 4 e).set_ 5 c).set_ 6 f
 simp only[sI,sZ,sS]at j
 exact j
def Fs (zs:List Int):Array Value:=#[.int .i64 (zs.getD 0 0),.int .i64 (zs.getD 1 0),.int .i64 (zs.getD 2 0)]
theorem splice3 (zs:List Int) (h:zs.length≤3):(splice [Value.int .i64 0,.int .i64 0,.int .i64 0] 0 (zs.map (Value.int .i64))).toArray=Fs zs:=by
 match zs,h with
 | [],_=>rfl
 | [a],_=>rfl
 | [a,b],_=>rfl
 | [a,b,c],_=>rfl
set_option maxHeartbeats 2000000 in
theorem uP (l:Evt) (A:Option Addr) (n c B:Nat) (zs:List Int) (w:World) (D:Reads w B 1 A n (zs.map (Value.int .i64))) (hB:B≤w.heap.size) (hn:n≤3):
 Calls Tryz.prog 263 #[.agg (evA l),.slice A n c] w fun e w'=>e = .returned (.agg (evA (kX l zs)))∧Below w.heap.size w w':=by
 have J:zs.length=n:=by simpa using D.1
 have H:=Lib.hid D
 have u:=Lib.hid J
 have i:=Lib.hid (splice3 zs (by omega))
 have G:Hid (kX l zs={ l with x:=zs.getD 0 0,y:=zs.getD 1 0,z:=zs.getD 2 0 }):=rfl
 clear D J
 obtain⟨q,a,k,t,x,y,z⟩:=l
 rw[G.out]
 clear G
 unfold Fs at i
 simp only
 generalize zs.getD 0 0=m at i ⊢
 generalize zs.getD 1 0=r at i ⊢
 generalize zs.getD 2 0=o at i ⊢
 have C:Hid ((((w.alloc (.cells #[.int .i64 q,.int .i64 a,.int .i64 k,.string t,.int .i64 x,.int .i64 y,.int .i64 z] 44)).alloc (.cells #[.int .i64 0,.int .i64 0,.int .i64 0,.string ⟨#[]⟩,.int .i64 0,.int .i64 0,.int .i64 0] 44)).alloc (.cells #[.int .i64 0,.int .i64 0,.int .i64 0] 93)).heap[w.heap.size+1+1]?=some (.cells ([.int .i64 0,.int .i64 0,.int .i64 0]:List Value).toArray 93 (0,0))):=Fa w _ _ _ _ _ _
 have N:=Lib.hid (show 0<(zs.map (Value.int .i64)).length→some (⟨w.heap.size+1+1,0,none⟩:Addr)=some ⟨w.heap.size+1+1,0,none⟩ ∧ ∃ ad,A=some ad ∧ ∀ j v,(zs.map (Value.int .i64))[j]?=some v→(((w.alloc (.cells #[.int .i64 q,.int .i64 a,.int .i64 k,.string t,.int .i64 x,.int .i64 y,.int .i64 z] 44)).alloc (.cells #[.int .i64 0,.int .i64 0,.int .i64 0,.string ⟨#[]⟩,.int .i64 0,.int .i64 0,.int .i64 0] 44)).alloc (.cells #[.int .i64 0,.int .i64 0,.int .i64 0] 93)).cell? (ad.add j)=some v from fun I=>by
  obtain⟨ad,O,h2,M⟩:=H.out.2 (by rw[List.length_map,u.out]at I;exact I)
  exact⟨rfl,ad,O,fun j v P=>by
   rw[World.cell?_alloc_lt _ _ _ (by rw[aO];simp;omega),World.cell?_alloc_lt _ _ _ (by rw[aO];simp;omega),World.cell?_alloc_lt _ _ _ (by rw[aO];omega)]
   exact M j v P⟩)
 go_enter Tryz.func263,Tryz.ntmps263
 go_wp2_with (refine wpList_copy_splice rfl (.tmp 6) (.tmp 7) 278 278 rfl 2 Tryz.underlying278 (by kernel_rfl) (some ⟨w.heap.size+1+1,0,none⟩) A 3 3 n c rfl rfl (w.heap.size+1+1) 0 [.int .i64 0,.int .i64 0,.int .i64 0] 93 C.out (zs.map (Value.int .i64)) (by rw[List.length_map,u.out];exact(Nat.min_eq_left hn).symm) N.out (by simp[u.out];omega) (by simp[Value.oneCell']) (w.heap.size+1+1) _ (Below.refl _ _) (Nat.le_refl _) ?_)
 intro f L s
 have Q:=Lib.hid (show Blk f (w.heap.size+1+1) 93 #[.int .i64 m,.int .i64 r,.int .i64 o] from by have:=L.out;rw[i.out]at this;exact this)
 have g:Hid (Blk f w.heap.size 44 #[.int .i64 q,.int .i64 a,.int .i64 k,.string t,.int .i64 x,.int .i64 y,.int .i64 z]):=(Ex w _ _ _ _ _ _).below s (by omega)
 have d:Hid (Blk f (w.heap.size+1) 44 _):=(EP w _ _ _ _ _ _).below s (by omega)
 have E:Hid (Below w.heap.size w f):=((((Below.refl w.heap.size w).alloc (Nat.le_refl _) _).alloc (by simp) _).alloc (by simp;omega) _).trans (s.mono (by omega))
 clear L s
 clear i u H
 go_wp2_with fail
 refine wp_region_noPanic ?_
 refine wp_region_held_drew (S:=fun W'=>Blk W' (w.heap.size+1+1) 93 #[.int .i64 m,.int .i64 r,.int .i64 o]) (by kernel_rfl) (Q.out.drew) (fun b=>?_)
 have T:f.cell? ⟨w.heap.size,4,none⟩=some (.int .i64 x):=g.out.cell 4
 have f5:f.cell? ⟨w.heap.size,5,none⟩=some (.int .i64 y):=g.out.cell 5
 have f6:f.cell? ⟨w.heap.size,6,none⟩=some (.int .i64 z):=g.out.cell 6
 have Y:f.frozen? ⟨w.heap.size,4,none⟩=false:=g.out.frozen 4
 have z5:f.frozen? ⟨w.heap.size,5,none⟩=false:=g.out.frozen 5
 have z6:f.frozen? ⟨w.heap.size,6,none⟩=false:=g.out.frozen 6
 refine tS 0 b ?_
 refine tS 1 b ?_ (hy:=by(intro W h;(try dsimp only at h);have F:W.cell? ⟨w.heap.size+1+1,0,none⟩=some (.int .i64 m):=h.cell 0;go_simp;try with_reducible rfl))
 refine tS 2 b ?_
 refine tS 3 b ?_ (hy:=by(intro W h;(try dsimp only at h);have F:W.cell? ⟨w.heap.size+1+1,1,none⟩=some (.int .i64 r):=h.cell 1;go_simp;try with_reducible rfl))
 refine tS 4 b ?_
 refine tS 5 b ?_ (hy:=by(intro W h;(try dsimp only at h);have F:W.cell? ⟨w.heap.size+1+1,2,none⟩=some (.int .i64 o):=h.cell 2;go_simp;try with_reducible rfl))
 refine tS 6 b ?_
 refine wpAnyH_ready (rs:=[7]) (by kernel_rfl) (by simp) ?_
 refine AllReadyH.cons rfl (fun K hK=>?_) AllReadyH.nil
 go_simp
 refine hK.out _ _ (b.far (p:=⟨w.heap.size,4,none⟩) (by simp;omega) (.int .i64 m)) (fun b=>?_)
 clear hK K
 try simp only[Act.put,sI,sZ,sS]
 refine tS 8 b ?_
 refine wpAnyH_ready (rs:=[9]) (by kernel_rfl) (by simp) ?_
 refine AllReadyH.cons rfl (fun K hK=>?_) AllReadyH.nil
 go_simp
 refine hK.out _ _ (b.far (p:=⟨w.heap.size,5,none⟩) (by simp;omega) (.int .i64 r)) (fun b=>?_)
 clear hK K
 try simp only[Act.put,sI,sZ,sS]
 refine tS 10 b ?_
 refine wpAnyH_ready (rs:=[11]) (by kernel_rfl) (by simp) ?_
 refine AllReadyH.cons rfl (fun K hK=>?_) AllReadyH.nil
 go_simp
 refine hK.out _ _ (b.far (p:=⟨w.heap.size,6,none⟩) (by simp;omega) (.int .i64 o)) (fun b=>?_)
 clear hK K
 try simp only[Act.put,sI,sZ,sS]
 refine wpAnyH_done (by kernel_rfl) ?_ _
 refine NoPanic.normal ?_
 have g0:f.cell? ⟨w.heap.size,0,none⟩=some (.int .i64 q):=g.out.cell 0
 have g1:f.cell? ⟨w.heap.size,1,none⟩=some (.int .i64 a):=g.out.cell 1
 have Z:f.cell? ⟨w.heap.size,2,none⟩=some (.int .i64 k):=g.out.cell 2
 have g3:f.cell? ⟨w.heap.size,3,none⟩=some (.string t):=g.out.cell 3
 have V:f.cell? ⟨w.heap.size+1,0,none⟩=some _:=d.out.cell 0
 have R:f.frozen? ⟨w.heap.size+1,0,none⟩=false:=d.out.frozen 0
 have r1:f.cell? ⟨w.heap.size+1,1,none⟩=some _:=d.out.cell 1
 have t1:f.frozen? ⟨w.heap.size+1,1,none⟩=false:=d.out.frozen 1
 have r2:f.cell? ⟨w.heap.size+1,2,none⟩=some _:=d.out.cell 2
 have t2:f.frozen? ⟨w.heap.size+1,2,none⟩=false:=d.out.frozen 2
 have r3:f.cell? ⟨w.heap.size+1,3,none⟩=some _:=d.out.cell 3
 have t3:f.frozen? ⟨w.heap.size+1,3,none⟩=false:=d.out.frozen 3
 have r4:f.cell? ⟨w.heap.size+1,4,none⟩=some _:=d.out.cell 4
 have t4:f.frozen? ⟨w.heap.size+1,4,none⟩=false:=d.out.frozen 4
 have r5:f.cell? ⟨w.heap.size+1,5,none⟩=some _:=d.out.cell 5
 have X:f.frozen? ⟨w.heap.size+1,5,none⟩=false:=d.out.frozen 5
 have U:f.cell? ⟨w.heap.size+1,6,none⟩=some _:=d.out.cell 6
 have t6:f.frozen? ⟨w.heap.size+1,6,none⟩=false:=d.out.frozen 6
 go_wp2
 refine bodyPost_ret (Ev _ Tryz.results263 ((FX (((d.out.far (p:=⟨w.heap.size,4,none⟩) (by simp) (.int .i64 m)).far (p:=⟨w.heap.size,5,none⟩) (by simp) (.int .i64 r)).far (p:=⟨w.heap.size,6,none⟩) (by simp) (.int .i64 o))).drew) _ rfl) rfl ⟨rfl,?_⟩
 refine Below.drew ?_
 iterate 10 refine Below.setCell ?_ (by simp) _
 exact E.out
end
section
open Go.RowKit
def gu (x:UInt8):Bool:=decide (x.toNat<128)
theorem wh (x:UInt8) (w:World):Calls Tryz.prog 231 #[.int .u8 (x.toNat:Int)] w fun e w'=>e = .returned (.bool (gu x))∧w=w':=by
 have h:decide ((x.toNat:Int)<128)=gu x:=by unfold gu;rw[decide_eq_decide];omega
 have H:=Lib.hid h;clear h
 go_enter Tryz.func231,Tryz.ntmps231
 go_wp2
 go_ret
 refine⟨?_,rfl⟩
 rw[←H.out];rfl
theorem qL (A:Option Addr) (n c B:Nat) (bs:List UInt8) (w:World) (b:Reads w B 1 A n (byteCells bs)) (hn:n≤1000000):
 Calls Tryz.prog 230 #[.slice A n c,.func (.func 231) #[] #[]] w fun e w'=>e = .returned (.int .i64 (firstIdx gu bs))∧w=w':=by
 have l:=b.lenB
 have p:=Lib.hid l;clear l
 go_enter Tryz.func230,Tryz.ntmps230
 go_wp2
 go_loop [8] (fun i => ∃ k:Nat,k≤n∧i = .int .i64 k∧Hid (∀ (j:Nat) y,j<k→bs[j]?=some y→gu y=false)) (fun i=>n-(intOf i).toNat)
 case atStart=>exact⟨0,Nat.zero_le _,rfl,fun j y q=>by omega⟩
 case round=>
  obtain⟨k,s,rfl,f⟩:=hrel
  by_cases a:k<n
  ·obtain⟨ad,x,rfl,t,g,r⟩:=b.byte_at a
   have m:=Lib.hid g
   clear g b
   by_cases o:gu x=false
   ·go_wp2_with (go_at_call 231;refine(wh _ _).mono ?_;rintro e w' ⟨rfl,rfl⟩)
    go_round
    case rel=>
     refine⟨k+1,by omega,by go_num,fun j y q hy=>?_⟩
     rcases Nat.lt_or_ge j k with h | h
     ·exact f.out j y h hy
     ·obtain rfl:j=k:=by omega
      rw[m.out]at hy
      cases hy
      exact o
    case measure=>simp[intOf];omega
   ·have d:gu x=true:=by simpa using o
    go_wp2_with (go_at_call 231;refine(wh _ _).mono ?_;rintro e w' ⟨rfl,rfl⟩)
    go_ret
    exact⟨dV (mj _ _ k _ f.out m.out d).symm,rfl⟩
  ·go_wp2
   go_ret
   refine⟨dV (firstIdx_none _ _ (fun j y hy=>f.out j y ?_ hy)).symm,rfl⟩
   have:j<bs.length:=(List.getElem?_eq_some_iff.1 hy).1
   rw[p.out]at this
   omega
def Cu (w W:World) (cs rs:Array Value):Prop:=Blk W w.heap.size 252 cs∧Blk W (w.heap.size+1) 252 rs∧Below w.heap.size w W
theorem Cu.start (w:World) (cs rs:Array Value):Cu w ((w.alloc (.cells cs 252)).alloc (.cells rs 252)) cs rs:=⟨vG w _ _ cs rs,rB w _ _ cs rs,((Below.refl _ _).alloc (Nat.le_refl _) _).alloc (by simp) _⟩
theorem Cu.next {w W W':World} {cs rs:Array Value} (h:Cu w W cs rs) (a:Below W.heap.size W W'):Cu w W' cs rs:=⟨h.1.below a h.1.lt,h.2.1.below a h.2.1.lt,h.2.2.trans (a.mono h.2.2.size)⟩
theorem Cu.size {w W:World} {cs rs:Array Value} (h:Cu w W cs rs):w.heap.size≤W.heap.size:=h.2.2.size
theorem Cu.cells {w W:World} {a b c x y z:Value} (h:Cu w W #[a,b,c] #[x,y,z]):W.cell? ⟨w.heap.size,0,none⟩=some a∧W.cell? ⟨w.heap.size,1,none⟩=some b∧W.cell? ⟨w.heap.size,2,none⟩=some c∧W.cell? ⟨w.heap.size+1,0,none⟩=some x∧W.cell? ⟨w.heap.size+1,1,none⟩=some y∧W.cell? ⟨w.heap.size+1,2,none⟩=some z ∧
 W.frozen? ⟨w.heap.size,0,none⟩=false∧W.frozen? ⟨w.heap.size,1,none⟩=false∧W.frozen? ⟨w.heap.size,2,none⟩=false∧W.frozen? ⟨w.heap.size+1,0,none⟩=false∧W.frozen? ⟨w.heap.size+1,1,none⟩=false∧W.frozen? ⟨w.heap.size+1,2,none⟩=false:=
 ⟨h.1.cell 0,h.1.cell 1,h.1.cell 2,h.2.1.cell 0,h.2.1.cell 1,h.2.1.cell 2,h.1.frozen 0,h.1.frozen 1,h.1.frozen 2,h.2.1.frozen 0,h.2.1.frozen 1,h.2.1.frozen 2⟩
theorem Cu.reads {w W:World} {cs rs:Array Value} (h:Cu w W cs rs) {A:Option Addr} {n B:Nat} {xs:List Value} (a:Reads w B 1 A n xs) (hB:B≤w.heap.size):Reads W B 1 A n xs:=a.below (h.2.2.mono hB)
theorem yA (A:Option Addr) (n c:Nat) (at_:Int)  (w:World) (h:at_<0∨(n:Int)<at_):Calls Tryz.prog 176 #[.agg #[.slice A n c,.int .i64 at_,.int .i64 0]] w fun e w'=>e = .returned (.tuple #[.agg #[.slice A n c,.int .i64 at_,.int .i64 1],.int .u64 0])∧Below w.heap.size w w':=by
 go_enter Tryz.func176,Tryz.ntmps176
 go_wp2_with fail
 refine(td A n c at_ 0 _ (by omega)).mono ?_
 rintro e x ⟨rfl,g⟩
 have s:=Lib.hid ((Cu.start w #[.slice A n c,.int .i64 at_,.int .i64 0] #[.slice none 0 0,.int .i64 0,.int .i64 0]).next g)
 clear g
 obtain⟨k0,q,l,b,f,d,j,o,k,m,p,i⟩:=s.out.cells
 go_wp2_with fail
 clear k0 q l b f d j o k m p i
 refine(cY A n c at_ 1 _).mono ?_
 rintro e u ⟨rfl,a⟩
 have r:=Lib.hid (s.out.next a)
 clear a
 obtain⟨k0,q,l,b,f,d,j,o,k,m,p,i⟩:=r.out.cells
 go_wp2
 have t:=r.out.2.2
 exact bodyPost_ret (v := .tuple #[.agg #[.slice A n c,.int .i64 at_,.int .i64 1],.int .u64 0]) (by simp[results,Tryz.results176,go_sem,b,f,d]) rfl ⟨rfl,(by repeat (first | exact((Below.refl _ _).alloc (Nat.le_refl _) _).alloc (by simp) _ | assumption | refine below_drewN ?_ _ | refine Below.setCell ?_ (by simp) _ | refine Below.drew ?_))⟩
theorem Bi (A:Option Addr) (n c:Nat) (at_:Int) (err:Int) (w:World) (h:err≠0):Calls Tryz.prog 176 #[.agg #[.slice A n c,.int .i64 at_,.int .i64 err]] w fun e w'=>e = .returned (.tuple #[.agg #[.slice A n c,.int .i64 at_,.int .i64 err],.int .u64 0])∧Below w.heap.size w w':=by
 go_enter Tryz.func176,Tryz.ntmps176
 go_wp2_with fail
 refine(td A n c at_ err _ (.inr (.inr h))).mono ?_
 rintro e x ⟨rfl,g⟩
 have s:=Lib.hid ((Cu.start w #[.slice A n c,.int .i64 at_,.int .i64 err] #[.slice none 0 0,.int .i64 0,.int .i64 0]).next g)
 clear g
 obtain⟨k0,q,l,b,f,d,j,o,k,m,p,i⟩:=s.out.cells
 go_wp2_with fail
 clear k0 q l b f d j o k m p i
 refine(Bl A n c at_ err 1 _ h).mono ?_
 rintro e u ⟨rfl,a⟩
 have r:=Lib.hid (s.out.next a)
 clear a
 obtain⟨k0,q,l,b,f,d,j,o,k,m,p,i⟩:=r.out.cells
 go_wp2
 have t:=r.out.2.2
 exact bodyPost_ret (v := .tuple #[.agg #[.slice A n c,.int .i64 at_,.int .i64 err],.int .u64 0]) (by simp[results,Tryz.results176,go_sem,b,f,d]) rfl ⟨rfl,(by repeat (first | exact((Below.refl _ _).alloc (Nat.le_refl _) _).alloc (by simp) _ | assumption | refine below_drewN ?_ _ | refine Below.setCell ?_ (by simp) _ | refine Below.drew ?_))⟩
theorem bW (A:Option Addr) (n c B:Nat) (bs:List UInt8) (w:World) (l:Int) (b:firstIdx gu bs=l) (a:Reads w B 1 A n (byteCells bs)) (hn:n≤1000000):
 Calls Tryz.prog 230 #[.slice A n c,.func (.func 231) #[] #[]] w fun e w'=>e = .returned (.int .i64 l)∧w=w':=by
 subst b
 exact qL A n c B bs w a hn
set_option maxHeartbeats 1000000 in
theorem vu (ad:Addr) (a m b:Nat) (bs:List UInt8) (B:Nat) (w:World) (z:Reads w B 1 (some ad) (a+m) (byteCells bs)) (hB:B≤w.heap.size) (K:m≤b) (N:0<m) (L:m≤10000) (E:a+b≤9223372036854775807) (q:Nat) (n:q=if m<10 then m else 10) (g:m<10) (hnone:firstIdx gu ((bs.drop a).take q) = -1):Calls Tryz.prog 176 #[.agg #[.slice (some ad) (a+m) (a+b),.int .i64 (a:Int),.int .i64 0]] w fun e w'=>e = .returned (.tuple #[.agg #[.slice (some ad) (a+m) (a+b),.int .i64 (a:Int),.int .i64 10],.int .u64 0])∧Below w.heap.size w w':=by
 have G:=Lib.hid hnone;clear hnone
 have F:¬ b=0:=by omega
 have I:q≤m:=by rw[n];split<;>omega
 have c:=Lib.hid (show Reads w B 1 (some (ad.add a)) q (byteCells ((bs.drop a).take q)) from by
  have h:=(z.sufB (k:=a) (cap:=a+b) (by omega) (by omega)).preB (k:=q) (by omega)
  rw[if_neg (by omega),Option.map_some]at h
  exact h)
 clear z
 obtain⟨ad',l⟩:∃ ad',ad.add a=ad':=⟨_,rfl⟩
 rw[l]at c
 obtain rfl:m=q:=by rw[n,if_pos g]
 clear n
 go_enter Tryz.func176,Tryz.ntmps176
 go_wp2_with fail
 refine(cP (some ad) _ (a+b) a _ (by omega) (by omega)).mono ?_
 rintro e M ⟨rfl,p⟩
 have o:=Lib.hid ((Cu.start w #[.slice (some ad) _ (a+b),.int .i64 a,.int .i64 0] #[.slice none 0 0,.int .i64 0,.int .i64 0]).next p)
 clear p
 obtain⟨k0,C,u,f,j,i,s,y,t,x,A,r⟩:=o.out.cells
 go_wp2_with fail
 refine(bW (some ad') _ b B _ _ (-1) G.out (o.out.reads c.out hB) (by omega)).mono ?_
 rintro e H ⟨rfl,rfl⟩
 go_wp2_with fail
 clear k0 C u f j i s y t x A r
 refine(cY (some ad) _ (a+b) a 10 _).mono ?_
 rintro e H ⟨rfl,d⟩
 have D:=Lib.hid (o.out.next d)
 clear d
 obtain⟨k0,C,u,f,j,i,s,y,t,x,A,r⟩:=D.out.cells
 go_wp2
 have J:=D.out.2.2
 exact bodyPost_ret (v := .tuple #[.agg #[.slice (some ad) (a+m) (a+b),.int .i64 (a:Int),.int .i64 10],.int .u64 0]) (by simp[results,Tryz.results176,go_sem,f,j,i]) rfl ⟨rfl,(by repeat (first | exact((Below.refl _ _).alloc (Nat.le_refl _) _).alloc (by simp) _ | assumption | refine below_drewN ?_ _ | refine Below.setCell ?_ (by simp) _ | refine Below.drew ?_))⟩
set_option maxHeartbeats 1000000 in
theorem zv (ad:Addr) (a m b:Nat) (bs:List UInt8) (B:Nat) (w:World) (F:Reads w B 1 (some ad) (a+m) (byteCells bs)) (hB:B≤w.heap.size) (M:m≤b) (O:0<m) (N:m≤10000) (H:a+b≤9223372036854775807) (q:Nat) (y:q=if m<10 then m else 10) (G:10≤m) (hnone:firstIdx gu ((bs.drop a).take q) = -1):Calls Tryz.prog 176 #[.agg #[.slice (some ad) (a+m) (a+b),.int .i64 (a:Int),.int .i64 0]] w fun e w'=>e = .returned (.tuple #[.agg #[.slice (some ad) (a+m) (a+b),.int .i64 (a:Int),.int .i64 11],.int .u64 0])∧Below w.heap.size w w':=by
 have E:=Lib.hid hnone;clear hnone
 have I:¬ b=0:=by omega
 have L:q≤m:=by rw[y];split<;>omega
 have g:=Lib.hid (show Reads w B 1 (some (ad.add a)) q (byteCells ((bs.drop a).take q)) from by
  have h:=(F.sufB (k:=a) (cap:=a+b) (by omega) (by omega)).preB (k:=q) (by omega)
  rw[if_neg (by omega),Option.map_some]at h
  exact h)
 clear F
 obtain⟨ad',C⟩:∃ ad',ad.add a=ad':=⟨_,rfl⟩
 rw[C]at g
 rcases(by omega:m=10∨10<m) with rfl | K
 ·obtain rfl:q=10:=by rw[y];rfl
  clear y
  go_enter Tryz.func176,Tryz.ntmps176
  go_wp2_with fail
  refine(cP (some ad) _ (a+b) a _ (by omega) (by omega)).mono ?_
  rintro e J ⟨rfl,l⟩
  have j:=Lib.hid ((Cu.start w #[.slice (some ad) _ (a+b),.int .i64 a,.int .i64 0] #[.slice none 0 0,.int .i64 0,.int .i64 0]).next l)
  clear l
  obtain⟨k0,x,r,d,i,f,o,t,p,s,u,n⟩:=j.out.cells
  go_wp2_with fail
  refine(bW (some ad') _ b B _ _ (-1) E.out (j.out.reads g.out hB) (by omega)).mono ?_
  rintro e A ⟨rfl,rfl⟩
  go_wp2_with fail
  clear k0 x r d i f o t p s u n
  refine(cY (some ad) _ (a+b) a 11 _).mono ?_
  rintro e A ⟨rfl,c⟩
  have z:=Lib.hid (j.out.next c)
  clear c
  obtain⟨k0,x,r,d,i,f,o,t,p,s,u,n⟩:=z.out.cells
  go_wp2
  have D:=z.out.2.2
  exact bodyPost_ret (v := .tuple #[.agg #[.slice (some ad) (a+10) (a+b),.int .i64 (a:Int),.int .i64 11],.int .u64 0]) (by simp[results,Tryz.results176,go_sem,d,i,f]) rfl ⟨rfl,(by repeat (first | exact((Below.refl _ _).alloc (Nat.le_refl _) _).alloc (by simp) _ | assumption | refine below_drewN ?_ _ | refine Below.setCell ?_ (by simp) _ | refine Below.drew ?_))⟩
 ·obtain rfl:q=10:=by rw[y,if_neg (by omega)]
  clear y
  go_enter Tryz.func176,Tryz.ntmps176
  go_wp2_with fail
  refine(cP (some ad) _ (a+b) a _ (by omega) (by omega)).mono ?_
  rintro e J ⟨rfl,l⟩
  have j:=Lib.hid ((Cu.start w #[.slice (some ad) _ (a+b),.int .i64 a,.int .i64 0] #[.slice none 0 0,.int .i64 0,.int .i64 0]).next l)
  clear l
  obtain⟨k0,x,r,d,i,f,o,t,p,s,u,n⟩:=j.out.cells
  go_wp2_with fail
  refine(bW (some ad') _ b B _ _ (-1) E.out (j.out.reads g.out hB) (by omega)).mono ?_
  rintro e A ⟨rfl,rfl⟩
  go_wp2_with fail
  clear k0 x r d i f o t p s u n
  refine(cY (some ad) _ (a+b) a 11 _).mono ?_
  rintro e A ⟨rfl,c⟩
  have z:=Lib.hid (j.out.next c)
  clear c
  obtain⟨k0,x,r,d,i,f,o,t,p,s,u,n⟩:=z.out.cells
  go_wp2
  have D:=z.out.2.2
  exact bodyPost_ret (v := .tuple #[.agg #[.slice (some ad) (a+m) (a+b),.int .i64 (a:Int),.int .i64 11],.int .u64 0]) (by simp[results,Tryz.results176,go_sem,d,i,f]) rfl ⟨rfl,(by repeat (first | exact((Below.refl _ _).alloc (Nat.le_refl _) _).alloc (by simp) _ | assumption | refine below_drewN ?_ _ | refine Below.setCell ?_ (by simp) _ | refine Below.drew ?_))⟩
set_option maxHeartbeats 1000000 in
theorem xF (ad:Addr) (a m c:Nat) (bs:List UInt8) (B:Nat) (w:World) (Y:Reads w B 1 (some ad) (a+m) (byteCells bs)) (hB:B≤w.heap.size) (ag:m≤c) (h0:0<m) (hm:m≤10000) (Z:a+c≤9223372036854775807) (q:Nat) (J:q=if m<10 then m else 10) (k:Nat) (x:UInt8) (G:k<q) (W:bs[a+k]?=some x) (I:firstIdx gu ((bs.drop a).take q)=(k:Int)) (L:(k=9∧1<x.toNat)∨(0<k∧x.toNat=0)):Calls Tryz.prog 176 #[.agg #[.slice (some ad) (a+m) (a+c),.int .i64 (a:Int),.int .i64 0]] w fun e w'=>e = .returned (.tuple #[.agg #[.slice (some ad) (a+m) (a+c),.int .i64 (a:Int),.int .i64 11],.int .u64 0])∧Below w.heap.size w w':=by
 have T:=Lib.hid I;clear I
 have ab:¬ c=0:=by omega
 have ac:q≤m:=by rw[J];split<;>omega
 have A:=Lib.hid (show Reads w B 1 (some (ad.add a)) q (byteCells ((bs.drop a).take q)) from by
  have h:=(Y.sufB (k:=a) (cap:=a+c) (by omega) (by omega)).preB (k:=q) (by omega)
  rw[if_neg (by omega),Option.map_some]at h
  exact h)
 clear Y
 obtain⟨ad',U⟩:∃ ad',ad.add a=ad':=⟨_,rfl⟩
 rw[U]at A
 have O:((bs.drop a).take q)[k]?=some x:=by rw[List.getElem?_take,if_pos G,List.getElem?_drop];exact W
 have V:=Lib.hid O
 clear W O
 have ae:=x.toNat_lt
 have F:((k:Int) == 9)=decide (k=9):=by rw[Bool.eq_iff_iff,beq_iff_eq,decide_eq_true_iff];omega
 have M:decide ((1:Int)<(x.toNat:Int))=decide (1<x.toNat):=by rw[decide_eq_decide];omega
 have N:((x.toNat:Int) == 0)=decide (x.toNat=0):=by rw[Bool.eq_iff_iff,beq_iff_eq,decide_eq_true_iff];omega
 have K:decide ((0:Int)<(k:Int))=decide (0<k):=by rw[decide_eq_decide];omega
 have i1:(0:Int)≤(k:Int):=by omega
 rcases(by omega:m<10∨m=10∨10<m) with Q | rfl | Q
 ·obtain rfl:m=q:=by rw[J,if_pos Q]
  clear J
  go_enter Tryz.func176,Tryz.ntmps176
  go_wp2_with fail
  refine(cP (some ad) _ (a+c) a _ (by omega) (by omega)).mono ?_
  rintro e X ⟨rfl,H⟩
  have y:=Lib.hid ((Cu.start w #[.slice (some ad) _ (a+c),.int .i64 a,.int .i64 0] #[.slice none 0 0,.int .i64 0,.int .i64 0]).next H)
  clear H
  obtain⟨k0,u,p,d,i,f,n,s,o,r,t,l⟩:=y.out.cells
  go_wp2_with fail
  refine(bW (some ad') _ c B _ _ (k:Int) T.out (y.out.reads A.out hB) (by omega)).mono ?_
  rintro e C ⟨rfl,rfl⟩
  obtain⟨_,_,E,_,hy,P⟩:=(y.out.reads A.out hB).byte_at G
  cases E
  rw[V.out]at hy
  cases hy
  by_cases g:k=9∧1<x.toNat
  ·rw[decide_eq_true g.1]at F
   rw[decide_eq_true g.2]at M
   clear N K L g
   go_wp2_with fail
   clear k0 u p d i f n s o r t l
   refine(cY (some ad) _ (a+c) a 11 _).mono ?_
   rintro e C ⟨rfl,b⟩
   have j:=Lib.hid (y.out.next b)
   clear b
   obtain⟨k0,u,p,d,i,f,n,s,o,r,t,l⟩:=j.out.cells
   go_wp2
   have z:=j.out.2.2
   exact bodyPost_ret (v := .tuple #[.agg #[.slice (some ad) (a+m) (a+c),.int .i64 (a:Int),.int .i64 11],.int .u64 0]) (by simp[results,Tryz.results176,go_sem,d,i,f]) rfl ⟨rfl,(by repeat (first | exact((Below.refl _ _).alloc (Nat.le_refl _) _).alloc (by simp) _ | assumption | refine below_drewN ?_ _ | refine Below.setCell ?_ (by simp) _ | refine Below.drew ?_))⟩
  ·have D:0<k∧x.toNat=0:=by omega
   have S:0<k:=D.1
   rw[decide_eq_true D.2]at N
   have R:decide ((1:Int)<(x.toNat:Int))=false:=by simp;omega
   clear M K L g D
   by_cases g:k=9
   ·rw[decide_eq_true g]at F
    clear g
    go_wp2_with fail
    clear k0 u p d i f n s o r t l
    refine(cY (some ad) _ (a+c) a 11 _).mono ?_
    rintro e C ⟨rfl,b⟩
    have j:=Lib.hid (y.out.next b)
    clear b
    obtain⟨k0,u,p,d,i,f,n,s,o,r,t,l⟩:=j.out.cells
    go_wp2
    have z:=j.out.2.2
    exact bodyPost_ret (v := .tuple #[.agg #[.slice (some ad) (a+m) (a+c),.int .i64 (a:Int),.int .i64 11],.int .u64 0]) (by simp[results,Tryz.results176,go_sem,d,i,f]) rfl ⟨rfl,(by repeat (first | exact((Below.refl _ _).alloc (Nat.le_refl _) _).alloc (by simp) _ | assumption | refine below_drewN ?_ _ | refine Below.setCell ?_ (by simp) _ | refine Below.drew ?_))⟩
   ·rw[decide_eq_false g]at F
    clear g
    go_wp2_with fail
    clear k0 u p d i f n s o r t l
    refine(cY (some ad) _ (a+c) a 11 _).mono ?_
    rintro e C ⟨rfl,b⟩
    have j:=Lib.hid (y.out.next b)
    clear b
    obtain⟨k0,u,p,d,i,f,n,s,o,r,t,l⟩:=j.out.cells
    go_wp2
    have z:=j.out.2.2
    exact bodyPost_ret (v := .tuple #[.agg #[.slice (some ad) (a+m) (a+c),.int .i64 (a:Int),.int .i64 11],.int .u64 0]) (by simp[results,Tryz.results176,go_sem,d,i,f]) rfl ⟨rfl,(by repeat (first | exact((Below.refl _ _).alloc (Nat.le_refl _) _).alloc (by simp) _ | assumption | refine below_drewN ?_ _ | refine Below.setCell ?_ (by simp) _ | refine Below.drew ?_))⟩
 ·obtain rfl:q=10:=by rw[J];rfl
  clear J
  go_enter Tryz.func176,Tryz.ntmps176
  go_wp2_with fail
  refine(cP (some ad) _ (a+c) a _ (by omega) (by omega)).mono ?_
  rintro e X ⟨rfl,H⟩
  have y:=Lib.hid ((Cu.start w #[.slice (some ad) _ (a+c),.int .i64 a,.int .i64 0] #[.slice none 0 0,.int .i64 0,.int .i64 0]).next H)
  clear H
  obtain⟨k0,u,p,d,i,f,n,s,o,r,t,l⟩:=y.out.cells
  go_wp2_with fail
  refine(bW (some ad') _ c B _ _ (k:Int) T.out (y.out.reads A.out hB) (by omega)).mono ?_
  rintro e C ⟨rfl,rfl⟩
  obtain⟨_,_,E,_,hy,P⟩:=(y.out.reads A.out hB).byte_at G
  cases E
  rw[V.out]at hy
  cases hy
  by_cases g:k=9∧1<x.toNat
  ·rw[decide_eq_true g.1]at F
   rw[decide_eq_true g.2]at M
   clear N K L g
   go_wp2_with fail
   clear k0 u p d i f n s o r t l
   refine(cY (some ad) _ (a+c) a 11 _).mono ?_
   rintro e C ⟨rfl,b⟩
   have j:=Lib.hid (y.out.next b)
   clear b
   obtain⟨k0,u,p,d,i,f,n,s,o,r,t,l⟩:=j.out.cells
   go_wp2
   have z:=j.out.2.2
   exact bodyPost_ret (v := .tuple #[.agg #[.slice (some ad) (a+10) (a+c),.int .i64 (a:Int),.int .i64 11],.int .u64 0]) (by simp[results,Tryz.results176,go_sem,d,i,f]) rfl ⟨rfl,(by repeat (first | exact((Below.refl _ _).alloc (Nat.le_refl _) _).alloc (by simp) _ | assumption | refine below_drewN ?_ _ | refine Below.setCell ?_ (by simp) _ | refine Below.drew ?_))⟩
  ·have D:0<k∧x.toNat=0:=by omega
   have S:0<k:=D.1
   rw[decide_eq_true D.2]at N
   have R:decide ((1:Int)<(x.toNat:Int))=false:=by simp;omega
   clear M K L g D
   by_cases g:k=9
   ·rw[decide_eq_true g]at F
    clear g
    go_wp2_with fail
    clear k0 u p d i f n s o r t l
    refine(cY (some ad) _ (a+c) a 11 _).mono ?_
    rintro e C ⟨rfl,b⟩
    have j:=Lib.hid (y.out.next b)
    clear b
    obtain⟨k0,u,p,d,i,f,n,s,o,r,t,l⟩:=j.out.cells
    go_wp2
    have z:=j.out.2.2
    exact bodyPost_ret (v := .tuple #[.agg #[.slice (some ad) (a+10) (a+c),.int .i64 (a:Int),.int .i64 11],.int .u64 0]) (by simp[results,Tryz.results176,go_sem,d,i,f]) rfl ⟨rfl,(by repeat (first | exact((Below.refl _ _).alloc (Nat.le_refl _) _).alloc (by simp) _ | assumption | refine below_drewN ?_ _ | refine Below.setCell ?_ (by simp) _ | refine Below.drew ?_))⟩
   ·rw[decide_eq_false g]at F
    clear g
    go_wp2_with fail
    clear k0 u p d i f n s o r t l
    refine(cY (some ad) _ (a+c) a 11 _).mono ?_
    rintro e C ⟨rfl,b⟩
    have j:=Lib.hid (y.out.next b)
    clear b
    obtain⟨k0,u,p,d,i,f,n,s,o,r,t,l⟩:=j.out.cells
    go_wp2
    have z:=j.out.2.2
    exact bodyPost_ret (v := .tuple #[.agg #[.slice (some ad) (a+10) (a+c),.int .i64 (a:Int),.int .i64 11],.int .u64 0]) (by simp[results,Tryz.results176,go_sem,d,i,f]) rfl ⟨rfl,(by repeat (first | exact((Below.refl _ _).alloc (Nat.le_refl _) _).alloc (by simp) _ | assumption | refine below_drewN ?_ _ | refine Below.setCell ?_ (by simp) _ | refine Below.drew ?_))⟩
 ·obtain rfl:q=10:=by rw[J,if_neg (by omega)]
  clear J
  go_enter Tryz.func176,Tryz.ntmps176
  go_wp2_with fail
  refine(cP (some ad) _ (a+c) a _ (by omega) (by omega)).mono ?_
  rintro e X ⟨rfl,H⟩
  have y:=Lib.hid ((Cu.start w #[.slice (some ad) _ (a+c),.int .i64 a,.int .i64 0] #[.slice none 0 0,.int .i64 0,.int .i64 0]).next H)
  clear H
  obtain⟨k0,u,p,d,i,f,n,s,o,r,t,l⟩:=y.out.cells
  go_wp2_with fail
  refine(bW (some ad') _ c B _ _ (k:Int) T.out (y.out.reads A.out hB) (by omega)).mono ?_
  rintro e C ⟨rfl,rfl⟩
  obtain⟨_,_,E,_,hy,P⟩:=(y.out.reads A.out hB).byte_at G
  cases E
  rw[V.out]at hy
  cases hy
  by_cases g:k=9∧1<x.toNat
  ·rw[decide_eq_true g.1]at F
   rw[decide_eq_true g.2]at M
   clear N K L g
   go_wp2_with fail
   clear k0 u p d i f n s o r t l
   refine(cY (some ad) _ (a+c) a 11 _).mono ?_
   rintro e C ⟨rfl,b⟩
   have j:=Lib.hid (y.out.next b)
   clear b
   obtain⟨k0,u,p,d,i,f,n,s,o,r,t,l⟩:=j.out.cells
   go_wp2
   have z:=j.out.2.2
   exact bodyPost_ret (v := .tuple #[.agg #[.slice (some ad) (a+m) (a+c),.int .i64 (a:Int),.int .i64 11],.int .u64 0]) (by simp[results,Tryz.results176,go_sem,d,i,f]) rfl ⟨rfl,(by repeat (first | exact((Below.refl _ _).alloc (Nat.le_refl _) _).alloc (by simp) _ | assumption | refine below_drewN ?_ _ | refine Below.setCell ?_ (by simp) _ | refine Below.drew ?_))⟩
  ·have D:0<k∧x.toNat=0:=by omega
   have S:0<k:=D.1
   rw[decide_eq_true D.2]at N
   have R:decide ((1:Int)<(x.toNat:Int))=false:=by simp;omega
   clear M K L g D
   by_cases g:k=9
   ·rw[decide_eq_true g]at F
    clear g
    go_wp2_with fail
    clear k0 u p d i f n s o r t l
    refine(cY (some ad) _ (a+c) a 11 _).mono ?_
    rintro e C ⟨rfl,b⟩
    have j:=Lib.hid (y.out.next b)
    clear b
    obtain⟨k0,u,p,d,i,f,n,s,o,r,t,l⟩:=j.out.cells
    go_wp2
    have z:=j.out.2.2
    exact bodyPost_ret (v := .tuple #[.agg #[.slice (some ad) (a+m) (a+c),.int .i64 (a:Int),.int .i64 11],.int .u64 0]) (by simp[results,Tryz.results176,go_sem,d,i,f]) rfl ⟨rfl,(by repeat (first | exact((Below.refl _ _).alloc (Nat.le_refl _) _).alloc (by simp) _ | assumption | refine below_drewN ?_ _ | refine Below.setCell ?_ (by simp) _ | refine Below.drew ?_))⟩
   ·rw[decide_eq_false g]at F
    clear g
    go_wp2_with fail
    clear k0 u p d i f n s o r t l
    refine(cY (some ad) _ (a+c) a 11 _).mono ?_
    rintro e C ⟨rfl,b⟩
    have j:=Lib.hid (y.out.next b)
    clear b
    obtain⟨k0,u,p,d,i,f,n,s,o,r,t,l⟩:=j.out.cells
    go_wp2
    have z:=j.out.2.2
    exact bodyPost_ret (v := .tuple #[.agg #[.slice (some ad) (a+m) (a+c),.int .i64 (a:Int),.int .i64 11],.int .u64 0]) (by simp[results,Tryz.results176,go_sem,d,i,f]) rfl ⟨rfl,(by repeat (first | exact((Below.refl _ _).alloc (Nat.le_refl _) _).alloc (by simp) _ | assumption | refine below_drewN ?_ _ | refine Below.setCell ?_ (by simp) _ | refine Below.drew ?_))⟩
end
section
open Go.RowKit Go.Shelf
attribute [local go_sem] Oper.semAt_some
def kU {α:Type} (f:Nat→α) (k:Nat):List α:=(List.range k).map f
theorem nt {α:Type} (f:Nat→α) (k:Nat):kU f (k+1)=kU f k ++ [f k]:=by simp[kU,List.range_succ]
theorem tq {α:Type} (f:Nat→α) (k:Nat):(kU f k).length=k:=by simp[kU]
def gL (bs:List UInt8) (len j:Nat):Nat×UInt8:=(len-1-j,bs[len-1-j]?.getD 0)
def zD (x:Nat×UInt8):Array Value:=#[.int .i64 (x.1:Int),.int .u8 (x.2.toNat:Int)]
def KpB (n₀ Bs:Nat) (W W':World):Prop:=Below n₀ W W'∧W'.cell? ⟨Bs,0,none⟩=W.cell? ⟨Bs,0,none⟩
set_option maxHeartbeats 2000000 in
theorem AH (F:Fence) (n:Nat) (z:F.fn 259) (h:F.round=none) (hn:1≤n) (l g n₀:Nat) (A:Option Addr) (len cap:Nat) (bs:List UInt8) (hlen:len≤1000) (J w:List (Nat×UInt8)→World→Prop)
 (hY:∀ pre x W,J pre W→pre.length<len→YieldAt F (n-1) Tryz.prog l (zD x) W fun e W'=>
  (e = .returned (.bool true)∧J (pre ++ [x]) W'∧KpB n₀ g W W')∨(e = .returned (.bool false)∧w (pre ++ [x]) W'))
 (W:World) (p:W.cell? ⟨g,0,none⟩=some (.slice A len cap)) (s:Reads W n₀ 1 A len (byteCells bs)) (D:J [] W):
 CallsIn F n Tryz.prog 259 #[.func (.yield l) #[] #[],.pointer (some ⟨g,0,none⟩)] W fun e W'=>(∃ v,e = .returned v) ∧
  ((∃ ys,ys=kU (gL bs len) len∧J ys W')∨(∃ pre,(∃ k,k≤len∧pre=kU (gL bs len) k)∧w pre W')):=by
 refine callsIn_of_wp Tryz.func259 rfl z ?_ h
 simp only[Tryz.ntmps259,List.size_toArray,List.length_cons,List.length_nil,Nat.reduceAdd,Nat.reduceSub,Array.replicate_succ,Array.replicate_zero,List.push_toArray,List.append_toArray,List.nil_append,List.cons_append]
 gi_wp2
 gi_loopw [3] (fun i wr => ∃ k:Nat,k≤len∧i = .int .i64 ((len:Int)-1-(k:Int))∧Hid (J (kU (gL bs len) k) wr)∧KpB n₀ g W wr)
  (fun i _=>(intOf i+1).toNat)
 case atStart=>exact⟨0,Nat.zero_le _,by simp,D,Below.refl _ _,rfl⟩
 case round=>
  obtain⟨k,G,rfl,d,a⟩:=hrel
  have q:=a.2.trans p
  have B:=Lib.hid (s.below a.1)
  have t:=Lib.hid a
  clear a s
  by_cases o:k<len
  ·obtain⟨j,u⟩:∃ j,len=j+1+k:=⟨len-1-k,by omega⟩
   rw[show(len:Int)-1-(k:Int)=(j:Int) from by omega]
   obtain⟨ad,x,rfl,H,r,E⟩:=B.out.byte_at (k:=j) (by omega)
   have c:=Lib.hid (show gL bs len k=(j,x) from by unfold gL;rw[show len-1-k=j from by omega,r];rfl)
   have C:=Lib.hid u
   obtain⟨fn,tmps,assign,body,hy,hR⟩:=hY _ (j,x) wr d.out (by rw[tq];exact o)
   unfold zD at hy
   dsimp only at hy
   have y:j<len:=by omega
   clear r u
   gi_wp2
   refine hR.mono ?_
   rintro e I (⟨rfl,m,b⟩ | ⟨rfl,f⟩)
   ·gi_wp2
    go_roundw
    case rel=>exact⟨k+1,by omega,by rw[show(len:Int)-1-((k+1:Nat):Int)=(j:Int)-1 from by have:=C.out;omega],(by rw[nt,c.out];exact m),t.out.1.trans b.1,b.2.trans t.out.2⟩
    case measure=>simp[intOf]
   ·gi_wp2
    refine bodyPost_ret (results_none rfl _ _ _) rfl ?_
    exact⟨⟨_,rfl⟩,.inr ⟨_,⟨k+1,by omega,by rw[nt,c.out]⟩,f⟩⟩
  ·obtain rfl:k=len:=by omega
   rw[show(k:Int)-1-(k:Int) = -1 from by omega]
   gi_wp2
   go_end0
   exact⟨⟨_,rfl⟩,.inl ⟨_,rfl,d.out⟩⟩
theorem ov (A:Option Addr) (len cap:Nat) (w:World):
 Calls Tryz.prog 232 #[.slice A len cap] w fun e w'=>e = .returned (.func (.func 259) #[] #[.pointer (some ⟨w.heap.size,0,none⟩)])∧w'=w.alloc (.cells #[.slice A len cap] 50):=by
 go_enter Tryz.func232,Tryz.ntmps232
 go_wp2
 go_ret
 exact⟨rfl,rfl⟩
theorem pG (F:Fence) (n:Nat) (e:F.fn 259) (b:F.round=none) (hn:1≤n) (a n₀:Nat) (A:Option Addr) (len cap:Nat) (bs:List UInt8) (hlen:len≤1000) (w:World) (c:a<w.heap.size) (hn₀:n₀≤w.heap.size)
 (d:w.cell? ⟨a,0,none⟩=some (.slice A len cap)) (f:Reads w n₀ 1 A len (byteCells bs)):
 SeqStopsK F n Tryz.prog 259 #[.pointer (some ⟨a,0,none⟩)] zD (KpB n₀ a) (fun ys=>ys=kU (gL bs len) len) (fun pre => ∃ k,k≤len∧pre=kU (gL bs len) k) len w:=fun l J h W hW _ _ hY g=>
 AH F n e b hn l a n₀ A len cap bs hlen J h hY W ((hW.cell (p:=⟨a,0,none⟩) c).trans d) (f.below (hW.mono hn₀)) g
theorem Eg {n₀ a:Nat} {A B C:World} (h:KpB n₀ a A B) (k:KpB n₀ a B C):KpB n₀ a A C:=⟨h.1.trans k.1,k.2.trans h.2⟩
theorem Ef {n₀ a:Nat} {w:World} (hn₀:n₀≤w.heap.size) (b:a<w.heap.size):∀ (W:World) (l:Nat) (o o':Obj),w.heap.size≤l→W.heap[l]?=some o→o.isCells=false→o.isWalk=false→KpB n₀ a W (W.putObj l o'):=fun W l o o' e f c d=>
 ⟨belowK_b hn₀ W l o o' e f c d,(belowK_b (n₀:=a+1) (w:=w) b W l o o' e f c d).cell (p:=⟨a,0,none⟩) (Nat.lt_succ_self _)⟩
end
section
open Go.RowKit Go.Shelf
attribute [local go_sem] Oper.semAt_some
def jk:List (Nat×UInt8)→Nat:=List.foldl (fun s x=>(s*128)%18446744073709551616+x.2.toNat%128) 0
theorem kM (pre:List (Nat×UInt8)) (x:Nat×UInt8):jk (pre ++ [x])=(jk pre*128)%18446744073709551616+x.2.toNat%128:=by simp[jk]
theorem oe (pre:List (Nat×UInt8)):jk pre<18446744073709551616:=by
 rcases List.eq_nil_or_concat pre with rfl | ⟨l,x,rfl⟩
 ·simp[jk]
 ·rw[List.concat_eq_append,kM];omega
theorem wE (s x:Nat) (a:s<18446744073709551616):bits .or .u64 (IntKind.u64.wrap ((s:Int)*128)) ((x:Int)%128)=(((s*128)%18446744073709551616+x%128:Nat):Int):=by
 rw[IntKind.wrap_u64,show((s:Int)*128)%18446744073709551616=((s*128%18446744073709551616:Nat):Int) from by omega,show(x:Int)%128=((x%128:Nat):Int) from by omega,u64_or_nat _ _ (by omega) (by omega)]
 have e:s*128%18446744073709551616=2^7*(s*128%18446744073709551616/128):=by omega
 rw[e,←Nat.two_pow_add_eq_or_of_lt (i:=7) (by omega)]
theorem qi (bs:List UInt8) (L:Nat) (hL:L≤bs.length) (g:gK (bQ (bs.take L))<18446744073709551616):jk (kU (gL bs L) L)=gK (bQ (bs.take L)):=by
 have hmono:∀ (l:List Nat) (i:Nat),gK (l.drop i)≤gK l:=by
  intro l
  induction l with
  | nil=>intro i;simp
  | cons y l ih=>
    intro i
    cases i with
    | zero=>simp
    | succ i=>simp only[List.drop_succ_cons,gK];have:=ih i;omega
 have d:∀ k,k≤L→jk (kU (gL bs L) k)=gK ((bQ (bs.take L)).drop (L-k)):=by
  intro k
  induction k with
  | zero=>intro _;rw[Nat.sub_zero,List.drop_of_length_le (by rw[dz,List.length_take];omega)];rfl
  | succ k ih=>
    intro c
    have a:L-1-k<bs.length:=by omega
    rw[nt,kM,ih (by omega)]
    have e:(bQ (bs.take L)).drop (L-(k+1))=(bs[L-1-k]).toNat::(bQ (bs.take L)).drop (L-k):=by
     rw[show L-k=L-(k+1)+1 from by omega,List.drop_eq_getElem_cons (by rw[dz,List.length_take];omega)]
     congr 1
     simp only[bQ,List.getElem_map,List.getElem_take]
     congr 2
     omega
    have f:(gL bs L k).2=bs[L-1-k]:=by unfold gL;simp[a]
    have b:=hmono (bQ (bs.take L)) (L-(k+1))
    rw[e]at b ⊢
    simp only[gK]at b ⊢
    rw[f,Nat.mod_eq_of_lt (by omega)]
    omega
 rw[d L (Nat.le_refl _)]
 simp
theorem Ca (bs:List UInt8) (k:Nat) (x:UInt8) (g:k≤9) (c:bs[k]?=some x) (h:¬ ((k=9∧1<x.toNat)∨(0<k∧x.toNat=0))):gK (bQ (bs.take (k+1)))<18446744073709551616:=by
 by_cases h9:k=9
 ·subst h9
  have d:=(List.getElem?_eq_some_iff.1 c).1
  have e:bs.take (9+1)=bs.take 9 ++ [x]:=by rw[List.take_add_one,c];rfl
  rw[e,nG,show bQ [x] = [x.toNat] from rfl,yg]
  have a:=vW (bQ (bs.take 9))
  rw[dz,List.length_take,Nat.min_eq_left (by omega)]at a ⊢
  have b:x.toNat%128≤1:=by omega
  have f:128^9*(x.toNat%128)≤128^9*1:=Nat.mul_le_mul_left _ b
  omega
 ·have a:=vW (bQ (bs.take (k+1)))
  rw[dz,List.length_take]at a
  have b:(128:Nat)^(min (k+1) bs.length)≤128^9:=Nat.pow_le_pow_right (by omega) (by omega)
  have f:=Nat.lt_of_lt_of_le a b
  omega
set_option maxHeartbeats 4000000 in
theorem DS (ad:Addr) (a m d:Nat) (bs:List UInt8) (B:Nat) (w:World) (I:Reads w B 1 (some ad) (a+m) (byteCells bs)) (hB:B≤w.heap.size) (bc:m≤d) (h0:0<m) (hm:m≤10000) (aw:a+d≤9223372036854775807) (q:Nat) (y:q=if m<10 then m else 10) (o:m<10∨10<m) (k:Nat) (x:UInt8) (f:k=0∨(0<k∧k≠9)∨k=9) (z:k<q) (R:bs[a+k]?=some x) (t:firstIdx gu ((bs.drop a).take q)=(k:Int)) (P:¬ ((k=9∧1<x.toNat)∨(0<k∧x.toNat=0))):Calls Tryz.prog 176 #[.agg #[.slice (some ad) (a+m) (a+d),.int .i64 (a:Int),.int .i64 0]] w fun e w'=>e = .returned (.tuple #[.agg #[.slice (some ad) (a+m) (a+d),.int .i64 ((a:Int)+((k:Int)+1)),.int .i64 0],.int .u64 ((gK (bQ ((bs.drop a).take (k+1))):Nat):Int)])∧Below w.heap.size w w':=by
 have HF:=Lib.hid t;clear t
 have ac:q≤10:=by rw[y];split<;>omega
 have ba:¬ d=0:=by omega
 have ao:q≤m:=by rw[y];split<;>omega
 have j:=Lib.hid (show Reads w B 1 (some (ad.add a)) q (byteCells ((bs.drop a).take q)) from by
  have h:=(I.sufB (k:=a) (cap:=a+d) (by omega) (by omega)).preB (k:=q) (by omega)
  rw[if_neg (by omega),Option.map_some]at h
  exact h)
 clear I
 obtain⟨ad',Z⟩:∃ ad',ad.add a=ad':=⟨_,rfl⟩
 rw[Z]at j
 have L:((bs.drop a).take q)[k]?=some x:=by rw[List.getElem?_take,if_pos z,List.getElem?_drop];exact R
 have HX:=Lib.hid L
 have U:=Lib.hid (show Reads w B 1 (some ad') (k+1) (byteCells ((bs.drop a).take (k+1))) from by
  have h:=j.out.preB (k:=k+1) (by omega)
  rw[List.take_take,Nat.min_eq_left (by omega)]at h
  exact h)
 have N:=Lib.hid (show jk (kU (gL (List.take (k+1) (List.drop a bs)) (k+1)) (k+1))=gK (bQ (List.take (k+1) (List.drop a bs))) from by
  have G:(bs.drop a)[k]?=some x:=by rw[List.getElem?_drop];exact R
  have ar:=(List.getElem?_eq_some_iff.1 G).1
  have hv:=Ca (bs.drop a) k x (by omega) G P
  have h:=qi ((bs.drop a).take (k+1)) (k+1) (by rw[List.length_take];omega) (by rw[List.take_take,Nat.min_self];exact hv)
  rw[List.take_take,Nat.min_self]at h
  exact h)
 clear R L
 have ag:=x.toNat_lt
 have i1:(0:Int)≤(k:Int):=by omega
 have ab:k≤9:=by omega
 have X:m=q∨q=10:=by
  rcases o with h | h
  ·left;rw[y,if_pos h]
  ·right;rw[y,if_neg (by omega)]
 have u:m=q→m<10:=by
  rintro rfl
  split at y<;>omega
 have i:q=10→10<m:=by
  rintro rfl
  split at y<;>omega
 clear y o
 rcases X with rfl | rfl
 all_goals first
  | have o:=u rfl
  | have o:=i rfl
 all_goals clear u i
 all_goals rcases f with f | ⟨f,V⟩ | f
 all_goals first
  | (exfalso;omega)
  | (have b9:((k:Int) == 9)=false:=by(rw[beq_eq_false_iff_ne];omega)
     have C:¬ 0<k:=by omega
     clear P f)
  | (have b9:((k:Int) == 9)=false:=by(rw[beq_eq_false_iff_ne];omega)
     have C:0<k:=by omega
     have bz:((x.toNat:Int) == 0)=false:=by(rw[beq_eq_false_iff_ne];omega)
     clear P f V)
  | (have b9:((k:Int) == 9)=true:=by(rw[beq_iff_eq];omega)
     have C:0<k:=by omega
     have bx:decide ((1:Int)<(x.toNat:Int))=false:=by(simp;omega)
     have bz:((x.toNat:Int) == 0)=false:=by(rw[beq_eq_false_iff_ne];omega)
     clear P f)
 all_goals
  refine(callsIn_wide (n:=5)).1 ?_
  refine callsIn_of_wp_marks Tryz.func176 rfl trivial ?_ rfl
  simp only[Tryz.ntmps176,List.size_toArray,List.length_cons,List.length_nil,Nat.reduceAdd,Nat.reduceSub,Array.replicate_succ,Array.replicate_zero,List.push_toArray,List.append_toArray,List.nil_append,List.cons_append]
  gi_wp2_with fail
  refine⟨trivial,?_⟩
  refine(callsIn_wide.2 (cP (some ad) _ (a+d) a _ (by omega) (by omega))).mono ?_
  rintro e b ⟨rfl,hb⟩
  have r:=Lib.hid ((Cu.start w #[.slice (some ad) _ (a+d),.int .i64 a,.int .i64 0] #[.slice none 0 0,.int .i64 0,.int .i64 0]).next hb)
  clear hb
  obtain⟨k0,k1,k2,r0,r1,r2,f0,f1,f2,g0,g1,g2⟩:=r.out.cells
  gi_wp2_with fail
  refine⟨trivial,?_⟩
  refine(callsIn_wide.2 (bW (some ad') _ d B _ _ (k:Int) HF.out (r.out.reads j.out hB) (by omega))).mono ?_
  rintro e w2 ⟨rfl,rfl⟩
  obtain⟨_,_,E,_,hy,al⟩:=(r.out.reads j.out hB).byte_at z
  cases E
  rw[HX.out]at hy
  cases hy
  gi_wp2_with fail
  refine⟨trivial,?_⟩
  refine(callsIn_wide.2 (ov (some ad') (k+1) d _)).mono ?_
  rintro e w3 ⟨rfl,rfl⟩
  gi_wp2_with fail
  have bN:=Boxed.new b 253 (.int .u64 0)
  have bS:=Boxed.new (b.alloc (.cells #[.int .u64 0] 253)) 50 (.slice (some ad') (k+1) d)
  rw[World.size_alloc]at bS
  have H:Below b.heap.size b ((b.alloc (.cells #[.int .u64 0] 253)).alloc (.cells #[.slice (some ad') (k+1) d] 50)):=((Below.refl _ b).alloc (Nat.le_refl _) _).alloc (by simp) _
  have Q:B≤b.heap.size:=Nat.le_trans hB r.out.size
  clear k0 k1 k2 r0 r1 r2 f0 f1 f2 g0 g1 g2
  refine wpIn_rangeFunc_ownF rfl (by omega) (gf:=259) (lb:=#[.pointer (some ⟨b.heap.size+1,0,none⟩)]) rfl trivial (enters_of Tryz.func259 (by kernel_rfl) rfl)
   (pG Fence.wide 4 trivial rfl (by omega) (b.heap.size+1) b.heap.size (some ad') (k+1) d ((bs.drop a).take (k+1)) (by omega) _ (by simp) (by simp;omega) bS.cell ((((r.out.reads U.out hB).more Q)).below H)) Eg (Ef (by simp;omega) (by simp)) (Below.refl _ _) (fun _=>rfl)
   (fun pre W=>(W.cell? ⟨b.heap.size,0,none⟩=some (.int .u64 (jk pre:Int))∧W.frozen? ⟨b.heap.size,0,none⟩=false)∧Below b.heap.size b W)
   (fun _ _ _=>False)
   (OwnFrom.and (Own.from (fun s A B row M hg I=>⟨cell_kept M.1 hg I,(frozen_kept M.1 hg I).trans M.2⟩) _) (ownFrom_below (Nat.le_refl _) (by simp;omega)))
   (fun _ _ _ _ _ M _ _=>M)
   ⟨⟨(bN.alloc _).cell,(bN.alloc _).frozen⟩,H⟩
   ?_ ?_ ?_ ?_ ?_
  rotate_left
  ·skip
   intro l x W K hK
   unfold zD
   gi_wp2
   exact hK
  ·skip
   rintro l pre x' W ⟨⟨hc,O⟩,v⟩ ae
   have am:=wE (jk pre) x'.2.toNat (oe pre)
   have ap:=oe pre
   gi_wp2
   have S:((jk (pre ++ [x']):Nat):Int)=(jk pre:Int)*128%18446744073709551616+(x'.2.toNat:Int)%128:=by rw[kM];omega
   exact⟨KeepsOthers.setCell _ _ _,⟨(Below.refl _ W).setCell (p:=⟨b.heap.size,0,none⟩) (Nat.le_refl _) _,World.cell?_setCell_other W ⟨b.heap.size,0,none⟩ ⟨b.heap.size+1,0,none⟩ _ (by simp)⟩,⟨by rw[S];exact World.cell?_setCell_same' _ _ _ (by rw[hc];rfl),by rw[World.frozen?_setCell];exact O⟩,v.setCell (p:=⟨b.heap.size,0,none⟩) (Nat.le_refl _) _⟩
  ·skip
   rintro D ys W hD rfl ⟨⟨hc,O⟩,v⟩ hK
   have C2:=Lib.hid (r.out.next v)
   obtain⟨k0,k1,k2,r0,r1,r2,f0,f1,f2,g0,g1,g2⟩:=C2.out.cells
   have bb:=r.out.1.lt
   have Y:=r.out.2.1.lt
   have bd:b.heap.size+2≤D:=by simpa using hD
   gi_wp2
   gi_region
   all_goals
    gi_wp2
    have T:Blk ((((W.setCell ⟨w.heap.size,1,none⟩ (.int .i64 ((a:Int)+((k:Int)+1)))).setCell ⟨w.heap.size+1,0,none⟩ (.slice (some ad) (a+m) (a+d))).setCell ⟨w.heap.size+1,1,none⟩ (.int .i64 ((a:Int)+((k:Int)+1)))).setCell ⟨w.heap.size+1,2,none⟩ (.int .i64 0)).drew (w.heap.size+1) 252 #[.slice (some ad) (a+m) (a+d),.int .i64 ((a:Int)+((k:Int)+1)),.int .i64 0]:=
     (((((C2.out.2.1.far (p:=⟨w.heap.size,1,none⟩) (by simp) _).set_ 0 _).set_ 1 _).set_ 2 _).drew)
    have hBW:Below w.heap.size w ((((W.setCell ⟨w.heap.size,1,none⟩ (.int .i64 ((a:Int)+((k:Int)+1)))).setCell ⟨w.heap.size+1,0,none⟩ (.slice (some ad) (a+m) (a+d))).setCell ⟨w.heap.size+1,1,none⟩ (.int .i64 ((a:Int)+((k:Int)+1)))).setCell ⟨w.heap.size+1,2,none⟩ (.int .i64 0)).drew:=
     ((((C2.out.2.2.setCell (by simp) _).setCell (by simp) _).setCell (by simp) _).setCell (by simp) _).drew
    have J:((((W.setCell ⟨w.heap.size,1,none⟩ (.int .i64 ((a:Int)+((k:Int)+1)))).setCell ⟨w.heap.size+1,0,none⟩ (.slice (some ad) (a+m) (a+d))).setCell ⟨w.heap.size+1,1,none⟩ (.int .i64 ((a:Int)+((k:Int)+1)))).setCell ⟨w.heap.size+1,2,none⟩ (.int .i64 0)).drew.heap[D]?=some (.deferred (some [])):=
     (Below.heap_setCell _ _ _ D (by simp;omega)).trans ((Below.heap_setCell _ _ _ D (by simp;omega)).trans ((Below.heap_setCell _ _ _ D (by simp;omega)).trans ((Below.heap_setCell _ _ _ D (by simp;omega)).trans hK)))
    refine⟨by simp,.inl ⟨_,_,rfl,run_takeDeferred J,?_⟩⟩
    generalize ((((W.setCell ⟨w.heap.size,1,none⟩ (.int .i64 ((a:Int)+((k:Int)+1)))).setCell ⟨w.heap.size+1,0,none⟩ (.slice (some ad) (a+m) (a+d))).setCell ⟨w.heap.size+1,1,none⟩ (.int .i64 ((a:Int)+((k:Int)+1)))).setCell ⟨w.heap.size+1,2,none⟩ (.int .i64 0)).drew=W4 at *
    have F:=belowK_b (n₀:=b.heap.size) (w:=b) (Nat.le_refl _) W4 D (.deferred (some [])) (.deferred none) (by omega) J rfl rfl
    have g:=T.below F Y
    have q0:=g.cell 0
    have q1:=g.cell 1
    have q2:=g.cell 2
    simp only[List.getElem?_toArray,List.getElem?_cons_zero,List.getElem?_cons_succ]at q0 q1 q2
    refine⟨.tuple #[.agg #[.slice (some ad) (a+m) (a+d),.int .i64 ((a:Int)+((k:Int)+1)),.int .i64 0],.int .u64 ((jk (kU (gL (List.take (k+1) (List.drop a bs)) (k+1)) (k+1)):Nat):Int)],?_,?_,hBW.trans (F.mono r.out.size)⟩
    ·simp[results,Tryz.results176,go_sem,q0,q1,q2]
    ·rw[N.out]
  ·skip
   rintro D c pre W _ _ h _
   exact h.elim
set_option maxHeartbeats 4000000 in
theorem Dq (ad:Addr) (a m d:Nat) (bs:List UInt8) (B:Nat) (w:World) (C:Reads w B 1 (some ad) (a+m) (byteCells bs)) (hB:B≤w.heap.size) (bc:m≤d) (h0:0<m) (hm:m≤10000) (aw:a+d≤9223372036854775807) (q:Nat) (M:q=if m<10 then m else 10) (T:m=10) (k:Nat) (x:UInt8) (f:k=0∨(0<k∧k≠9)∨k=9) (t:k<q) (O:bs[a+k]?=some x) (o:firstIdx gu ((bs.drop a).take q)=(k:Int)) (L:¬ ((k=9∧1<x.toNat)∨(0<k∧x.toNat=0))):Calls Tryz.prog 176 #[.agg #[.slice (some ad) (a+m) (a+d),.int .i64 (a:Int),.int .i64 0]] w fun e w'=>e = .returned (.tuple #[.agg #[.slice (some ad) (a+m) (a+d),.int .i64 ((a:Int)+((k:Int)+1)),.int .i64 0],.int .u64 ((gK (bQ ((bs.drop a).take (k+1))):Nat):Int)])∧Below w.heap.size w w':=by
 have HF:=Lib.hid o;clear o
 have ac:q≤10:=by rw[M];split<;>omega
 have ba:¬ d=0:=by omega
 have ao:q≤m:=by rw[M];split<;>omega
 have i:=Lib.hid (show Reads w B 1 (some (ad.add a)) q (byteCells ((bs.drop a).take q)) from by
  have h:=(C.sufB (k:=a) (cap:=a+d) (by omega) (by omega)).preB (k:=q) (by omega)
  rw[if_neg (by omega),Option.map_some]at h
  exact h)
 clear C
 obtain⟨ad',V⟩:∃ ad',ad.add a=ad':=⟨_,rfl⟩
 rw[V]at i
 have G:((bs.drop a).take q)[k]?=some x:=by rw[List.getElem?_take,if_pos t,List.getElem?_drop];exact O
 have HX:=Lib.hid G
 have R:=Lib.hid (show Reads w B 1 (some ad') (k+1) (byteCells ((bs.drop a).take (k+1))) from by
  have h:=i.out.preB (k:=k+1) (by omega)
  rw[List.take_take,Nat.min_eq_left (by omega)]at h
  exact h)
 have I:=Lib.hid (show jk (kU (gL (List.take (k+1) (List.drop a bs)) (k+1)) (k+1))=gK (bQ (List.take (k+1) (List.drop a bs))) from by
  have y:(bs.drop a)[k]?=some x:=by rw[List.getElem?_drop];exact O
  have ar:=(List.getElem?_eq_some_iff.1 y).1
  have hv:=Ca (bs.drop a) k x (by omega) y L
  have h:=qi ((bs.drop a).take (k+1)) (k+1) (by rw[List.length_take];omega) (by rw[List.take_take,Nat.min_self];exact hv)
  rw[List.take_take,Nat.min_self]at h
  exact h)
 clear O G
 have ag:=x.toNat_lt
 have i1:(0:Int)≤(k:Int):=by omega
 have ab:k≤9:=by omega
 subst T
 obtain rfl:q=10:=by rw[M];rfl
 clear M
 all_goals rcases f with f | ⟨f,S⟩ | f
 all_goals first
  | (exfalso;omega)
  | (have b9:((k:Int) == 9)=false:=by(rw[beq_eq_false_iff_ne];omega)
     have u:¬ 0<k:=by omega
     clear L f)
  | (have b9:((k:Int) == 9)=false:=by(rw[beq_eq_false_iff_ne];omega)
     have u:0<k:=by omega
     have bz:((x.toNat:Int) == 0)=false:=by(rw[beq_eq_false_iff_ne];omega)
     clear L f S)
  | (have b9:((k:Int) == 9)=true:=by(rw[beq_iff_eq];omega)
     have u:0<k:=by omega
     have bx:decide ((1:Int)<(x.toNat:Int))=false:=by(simp;omega)
     have bz:((x.toNat:Int) == 0)=false:=by(rw[beq_eq_false_iff_ne];omega)
     clear L f)
 all_goals
  refine(callsIn_wide (n:=5)).1 ?_
  refine callsIn_of_wp_marks Tryz.func176 rfl trivial ?_ rfl
  simp only[Tryz.ntmps176,List.size_toArray,List.length_cons,List.length_nil,Nat.reduceAdd,Nat.reduceSub,Array.replicate_succ,Array.replicate_zero,List.push_toArray,List.append_toArray,List.nil_append,List.cons_append]
  gi_wp2_with fail
  refine⟨trivial,?_⟩
  refine(callsIn_wide.2 (cP (some ad) _ (a+d) a _ (by omega) (by omega))).mono ?_
  rintro e b ⟨rfl,hb⟩
  have j:=Lib.hid ((Cu.start w #[.slice (some ad) _ (a+d),.int .i64 a,.int .i64 0] #[.slice none 0 0,.int .i64 0,.int .i64 0]).next hb)
  clear hb
  obtain⟨k0,k1,Z,r0,r1,r2,f0,f1,f2,g0,g1,g2⟩:=j.out.cells
  gi_wp2_with fail
  refine⟨trivial,?_⟩
  refine(callsIn_wide.2 (bW (some ad') _ d B _ _ (k:Int) HF.out (j.out.reads i.out hB) (by omega))).mono ?_
  rintro e w2 ⟨rfl,rfl⟩
  obtain⟨_,_,E,_,hy,al⟩:=(j.out.reads i.out hB).byte_at t
  cases E
  rw[HX.out]at hy
  cases hy
  gi_wp2_with fail
  refine⟨trivial,?_⟩
  refine(callsIn_wide.2 (ov (some ad') (k+1) d _)).mono ?_
  rintro e w3 ⟨rfl,rfl⟩
  gi_wp2_with fail
  have bN:=Boxed.new b 253 (.int .u64 0)
  have bS:=Boxed.new (b.alloc (.cells #[.int .u64 0] 253)) 50 (.slice (some ad') (k+1) d)
  rw[World.size_alloc]at bS
  have z:Below b.heap.size b ((b.alloc (.cells #[.int .u64 0] 253)).alloc (.cells #[.slice (some ad') (k+1) d] 50)):=((Below.refl _ b).alloc (Nat.le_refl _) _).alloc (by simp) _
  have N:B≤b.heap.size:=Nat.le_trans hB j.out.size
  clear k0 k1 Z r0 r1 r2 f0 f1 f2 g0 g1 g2
  refine wpIn_rangeFunc_ownF rfl (by omega) (gf:=259) (lb:=#[.pointer (some ⟨b.heap.size+1,0,none⟩)]) rfl trivial (enters_of Tryz.func259 (by kernel_rfl) rfl)
   (pG Fence.wide 4 trivial rfl (by omega) (b.heap.size+1) b.heap.size (some ad') (k+1) d ((bs.drop a).take (k+1)) (by omega) _ (by simp) (by simp;omega) bS.cell ((((j.out.reads R.out hB).more N)).below z)) Eg (Ef (by simp;omega) (by simp)) (Below.refl _ _) (fun _=>rfl)
   (fun pre W=>(W.cell? ⟨b.heap.size,0,none⟩=some (.int .u64 (jk pre:Int))∧W.frozen? ⟨b.heap.size,0,none⟩=false)∧Below b.heap.size b W)
   (fun _ _ _=>False)
   (OwnFrom.and (Own.from (fun s A B row H hg C=>⟨cell_kept H.1 hg C,(frozen_kept H.1 hg C).trans H.2⟩) _) (ownFrom_below (Nat.le_refl _) (by simp;omega)))
   (fun _ _ _ _ _ H _ _=>H)
   ⟨⟨(bN.alloc _).cell,(bN.alloc _).frozen⟩,z⟩
   ?_ ?_ ?_ ?_ ?_
  rotate_left
  ·skip
   intro l x W K hK
   unfold zD
   gi_wp2
   exact hK
  ·skip
   rintro l pre x' W ⟨⟨hc,J⟩,r⟩ ae
   have am:=wE (jk pre) x'.2.toNat (oe pre)
   have ap:=oe pre
   gi_wp2
   have P:((jk (pre ++ [x']):Nat):Int)=(jk pre:Int)*128%18446744073709551616+(x'.2.toNat:Int)%128:=by rw[kM];omega
   exact⟨KeepsOthers.setCell _ _ _,⟨(Below.refl _ W).setCell (p:=⟨b.heap.size,0,none⟩) (Nat.le_refl _) _,World.cell?_setCell_other W ⟨b.heap.size,0,none⟩ ⟨b.heap.size+1,0,none⟩ _ (by simp)⟩,⟨by rw[P];exact World.cell?_setCell_same' _ _ _ (by rw[hc];rfl),by rw[World.frozen?_setCell];exact J⟩,r.setCell (p:=⟨b.heap.size,0,none⟩) (Nat.le_refl _) _⟩
  ·skip
   rintro D ys W hD rfl ⟨⟨hc,J⟩,r⟩ hK
   have X:=Lib.hid (j.out.next r)
   obtain⟨k0,k1,Z,r0,r1,r2,f0,f1,f2,g0,g1,g2⟩:=X.out.cells
   have bb:=j.out.1.lt
   have U:=j.out.2.1.lt
   have bd:b.heap.size+2≤D:=by simpa using hD
   gi_wp2
   gi_region
   all_goals
    gi_wp2
    have Q:Blk ((((W.setCell ⟨w.heap.size,1,none⟩ (.int .i64 ((a:Int)+((k:Int)+1)))).setCell ⟨w.heap.size+1,0,none⟩ (.slice (some ad) (a+10) (a+d))).setCell ⟨w.heap.size+1,1,none⟩ (.int .i64 ((a:Int)+((k:Int)+1)))).setCell ⟨w.heap.size+1,2,none⟩ (.int .i64 0)).drew (w.heap.size+1) 252 #[.slice (some ad) (a+10) (a+d),.int .i64 ((a:Int)+((k:Int)+1)),.int .i64 0]:=
     (((((X.out.2.1.far (p:=⟨w.heap.size,1,none⟩) (by simp) _).set_ 0 _).set_ 1 _).set_ 2 _).drew)
    have hBW:Below w.heap.size w ((((W.setCell ⟨w.heap.size,1,none⟩ (.int .i64 ((a:Int)+((k:Int)+1)))).setCell ⟨w.heap.size+1,0,none⟩ (.slice (some ad) (a+10) (a+d))).setCell ⟨w.heap.size+1,1,none⟩ (.int .i64 ((a:Int)+((k:Int)+1)))).setCell ⟨w.heap.size+1,2,none⟩ (.int .i64 0)).drew:=
     ((((X.out.2.2.setCell (by simp) _).setCell (by simp) _).setCell (by simp) _).setCell (by simp) _).drew
    have F:((((W.setCell ⟨w.heap.size,1,none⟩ (.int .i64 ((a:Int)+((k:Int)+1)))).setCell ⟨w.heap.size+1,0,none⟩ (.slice (some ad) (a+10) (a+d))).setCell ⟨w.heap.size+1,1,none⟩ (.int .i64 ((a:Int)+((k:Int)+1)))).setCell ⟨w.heap.size+1,2,none⟩ (.int .i64 0)).drew.heap[D]?=some (.deferred (some [])):=
     (Below.heap_setCell _ _ _ D (by simp;omega)).trans ((Below.heap_setCell _ _ _ D (by simp;omega)).trans ((Below.heap_setCell _ _ _ D (by simp;omega)).trans ((Below.heap_setCell _ _ _ D (by simp;omega)).trans hK)))
    refine⟨by simp,.inl ⟨_,_,rfl,run_takeDeferred F,?_⟩⟩
    generalize ((((W.setCell ⟨w.heap.size,1,none⟩ (.int .i64 ((a:Int)+((k:Int)+1)))).setCell ⟨w.heap.size+1,0,none⟩ (.slice (some ad) (a+10) (a+d))).setCell ⟨w.heap.size+1,1,none⟩ (.int .i64 ((a:Int)+((k:Int)+1)))).setCell ⟨w.heap.size+1,2,none⟩ (.int .i64 0)).drew=W4 at *
    have v:=belowK_b (n₀:=b.heap.size) (w:=b) (Nat.le_refl _) W4 D (.deferred (some [])) (.deferred none) (by omega) F rfl rfl
    have g:=Q.below v U
    have Y:=g.cell 0
    have q1:=g.cell 1
    have q2:=g.cell 2
    simp only[List.getElem?_toArray,List.getElem?_cons_zero,List.getElem?_cons_succ]at Y q1 q2
    refine⟨.tuple #[.agg #[.slice (some ad) (a+10) (a+d),.int .i64 ((a:Int)+((k:Int)+1)),.int .i64 0],.int .u64 ((jk (kU (gL (List.take (k+1) (List.drop a bs)) (k+1)) (k+1)):Nat):Int)],?_,?_,hBW.trans (v.mono j.out.size)⟩
    ·simp[results,Tryz.results176,go_sem,Y,q1,q2]
    ·rw[I.out]
  ·skip
   rintro D c pre W _ _ h _
   exact h.elim
end
section
open Go.RowKit
theorem AV (A:Option Addr) (a c:Nat) (w:World) (y:a+c≤9223372036854775807):Calls Tryz.prog 176 #[.agg #[.slice A a (a+c),.int .i64 (a:Int),.int .i64 0]] w fun e w'=>e = .returned (.tuple #[.agg #[.slice A a (a+c),.int .i64 (a:Int),.int .i64 10],.int .u64 0])∧Below w.heap.size w w':=by
 by_cases x:c=0
 ·subst x
  rw[Nat.add_zero]
  go_enter Tryz.func176,Tryz.ntmps176
  go_wp2_with fail
  refine(cP A a a a _ (by omega) (by omega)).mono ?_
  rintro e u ⟨rfl,h⟩
  have r:=Lib.hid ((Cu.start w #[.slice A a a,.int .i64 a,.int .i64 0] #[.slice none 0 0,.int .i64 0,.int .i64 0]).next h)
  clear h
  obtain⟨k0,p,l,d,g,f,j,n,k,m,o,i⟩:=r.out.cells
  go_wp2_with fail
  refine(bW _ 0 _ 0 [] _ (-1) rfl Reads.none_ (by omega)).mono ?_
  rintro e s ⟨rfl,rfl⟩
  go_wp2_with fail
  clear k0 p l d g f j n k m o i
  refine(cY A a a a 10 _).mono ?_
  rintro e s ⟨rfl,b⟩
  have q:=Lib.hid (r.out.next b)
  clear b
  obtain⟨k0,p,l,d,g,f,j,n,k,m,o,i⟩:=q.out.cells
  go_wp2
  have t:=q.out.2.2
  exact bodyPost_ret (v := .tuple #[.agg #[.slice A a a,.int .i64 (a:Int),.int .i64 10],.int .u64 0]) (by simp[results,Tryz.results176,go_sem,d,g,f]) rfl ⟨rfl,(by repeat (first | exact((Below.refl _ _).alloc (Nat.le_refl _) _).alloc (by simp) _ | assumption | refine below_drewN ?_ _ | refine Below.setCell ?_ (by simp) _ | refine Below.drew ?_))⟩
 ·rcases A with _ | ad
  ·go_enter Tryz.func176,Tryz.ntmps176
   go_wp2_with fail
   refine(cP none a (a+c) a _ (by omega) (by omega)).mono ?_
   rintro e u ⟨rfl,h⟩
   have r:=Lib.hid ((Cu.start w #[.slice none a (a+c),.int .i64 a,.int .i64 0] #[.slice none 0 0,.int .i64 0,.int .i64 0]).next h)
   clear h
   obtain⟨k0,p,l,d,g,f,j,n,k,m,o,i⟩:=r.out.cells
   go_wp2_with fail
   refine(bW _ 0 _ 0 [] _ (-1) rfl Reads.none_ (by omega)).mono ?_
   rintro e s ⟨rfl,rfl⟩
   go_wp2_with fail
   clear k0 p l d g f j n k m o i
   refine(cY none a (a+c) a 10 _).mono ?_
   rintro e s ⟨rfl,b⟩
   have q:=Lib.hid (r.out.next b)
   clear b
   obtain⟨k0,p,l,d,g,f,j,n,k,m,o,i⟩:=q.out.cells
   go_wp2
   have t:=q.out.2.2
   exact bodyPost_ret (v := .tuple #[.agg #[.slice none a (a+c),.int .i64 (a:Int),.int .i64 10],.int .u64 0]) (by simp[results,Tryz.results176,go_sem,d,g,f]) rfl ⟨rfl,(by repeat (first | exact((Below.refl _ _).alloc (Nat.le_refl _) _).alloc (by simp) _ | assumption | refine below_drewN ?_ _ | refine Below.setCell ?_ (by simp) _ | refine Below.drew ?_))⟩
  ·go_enter Tryz.func176,Tryz.ntmps176
   go_wp2_with fail
   refine(cP (some ad) a (a+c) a _ (by omega) (by omega)).mono ?_
   rintro e u ⟨rfl,h⟩
   have r:=Lib.hid ((Cu.start w #[.slice (some ad) a (a+c),.int .i64 a,.int .i64 0] #[.slice none 0 0,.int .i64 0,.int .i64 0]).next h)
   clear h
   obtain⟨k0,p,l,d,g,f,j,n,k,m,o,i⟩:=r.out.cells
   go_wp2_with fail
   refine(bW _ 0 _ 0 [] _ (-1) rfl Reads.none_ (by omega)).mono ?_
   rintro e s ⟨rfl,rfl⟩
   go_wp2_with fail
   clear k0 p l d g f j n k m o i
   refine(cY (some ad) a (a+c) a 10 _).mono ?_
   rintro e s ⟨rfl,b⟩
   have q:=Lib.hid (r.out.next b)
   clear b
   obtain⟨k0,p,l,d,g,f,j,n,k,m,o,i⟩:=q.out.cells
   go_wp2
   have t:=q.out.2.2
   exact bodyPost_ret (v := .tuple #[.agg #[.slice (some ad) a (a+c),.int .i64 (a:Int),.int .i64 10],.int .u64 0]) (by simp[results,Tryz.results176,go_sem,d,g,f]) rfl ⟨rfl,(by repeat (first | exact((Below.refl _ _).alloc (Nat.le_refl _) _).alloc (by simp) _ | assumption | refine below_drewN ?_ _ | refine Below.setCell ?_ (by simp) _ | refine Below.drew ?_))⟩
def cq (bs:List UInt8) (at_ err:Int):Int×Int×Nat:=
 if 0≤at_∧at_≤(bs.length:Int)∧err=0 then
  if(cL 0 (bQ (bs.drop at_.toNat))).1=0 then(at_+((cL 0 (bQ (bs.drop at_.toNat))).2.2:Nat),0,(cL 0 (bQ (bs.drop at_.toNat))).2.1)
  else(at_,((cL 0 (bQ (bs.drop at_.toNat))).1:Nat),0)
 else(at_,if err=0 then 1 else err,0)
theorem AF (bs:List UInt8) (at_ err:Int) (h:err≠0):cq bs at_ err=(at_,err,0):=by
 unfold cq;rw[if_neg (by omega),if_neg h]
theorem BI (bs:List UInt8) (at_:Int) (h:at_<0∨(bs.length:Int)<at_):cq bs at_ 0=(at_,1,0):=by
 unfold cq;rw[if_neg (by omega),if_pos rfl]
theorem wK (bs:List UInt8) (a:Nat) (h:a≤bs.length):cq bs (a:Int) 0=if(cL 0 (bQ (bs.drop a))).1=0 then((a:Int)+((cL 0 (bQ (bs.drop a))).2.2:Nat),0,(cL 0 (bQ (bs.drop a))).2.1) else((a:Int),(((cL 0 (bQ (bs.drop a))).1:Nat):Int),0):=by
 unfold cq;rw[if_pos (by omega),Int.toNat_natCast]
theorem natB_getElem? (l:List UInt8) (j:Nat):(bQ l)[j]?=l[j]?.map UInt8.toNat:=by simp[bQ]
theorem jg (A:Option Addr) (n c:Nat) (at_ err:Int) (bs:List UInt8) (B:Nat) (w:World) (s:Reads w B 1 A n (byteCells bs)) (hB:B≤w.heap.size) (Q:n≤c) (d:c≤9223372036854775807) (hn:n≤10000):
 Calls Tryz.prog 176 #[.agg #[.slice A n c,.int .i64 at_,.int .i64 err]] w fun e w'=>e = .returned (.tuple #[.agg #[.slice A n c,.int .i64 (cq bs at_ err).1,.int .i64 (cq bs at_ err).2.1],.int .u64 ((cq bs at_ err).2.2:Int)])∧Below w.heap.size w w':=by
 have U:=s.lenB
 by_cases N:err=0
 ·subst N
  by_cases T:at_<0∨(n:Int)<at_
  ·rw[BI bs at_ (by omega)]
   exact yA A n c at_ w T
  ·obtain⟨a,rfl⟩:∃ a:Nat,at_=(a:Int):=⟨at_.toNat,by omega⟩
   obtain⟨m,rfl⟩:∃ m,n=a+m:=⟨n-a,by omega⟩
   obtain⟨cm,rfl⟩:∃ cm,c=a+cm:=⟨c-a,by omega⟩
   rw[wK bs a (by omega)]
   by_cases I:m=0
   ·subst I
    have hnil:bs.drop a = []:=List.drop_eq_nil_iff.2 (by omega)
    rw[hnil]
    exact AV A a cm w d
   ·obtain⟨ad,rfl,_⟩:=s.2 (by omega)
    obtain⟨q,o⟩:∃ q,q=if m<10 then m else 10:=⟨_,rfl⟩
    have L:q≤m:=by rw[o];split<;>omega
    have P:q≤10:=by rw[o];split<;>omega
    have g:(bs.drop a).length=m:=by rw[List.length_drop];omega
    have M:((bs.drop a).take q).length=q:=by rw[List.length_take,g,Nat.min_eq_left L]
    by_cases hnone:firstIdx gu ((bs.drop a).take q) = -1
    ·have hall:∀ (j:Nat) x,j<q→(bQ (bs.drop a))[j]?=some x→128≤x:=by
      intro j x u f
      rw[natB_getElem?,Option.map_eq_some_iff]at f
      obtain⟨y,hy,rfl⟩:=f
      have O:=mH gu ((bs.drop a).take q)
      rw[hnone]at O
      have v:gu y=false:=by
       have D:((bs.drop a).take q).any gu=false:=O.symm
       rw[List.any_eq_false]at D
       have S:=D y (List.mem_of_getElem? (i:=j) (by rw[List.getElem?_take,if_pos u];exact hy))
       simpa using S
      unfold gu at v
      simpa using v
     by_cases b:m<10
     ·have K:q=m:=by rw[o,if_pos b]
      rw[sQ (bQ (bs.drop a)) 0 (fun x f=>by
       obtain⟨j,u,e⟩:=List.mem_iff_getElem.1 f
       exact hall j x (by rw[dz,g]at u;omega) (by rw[List.getElem?_eq_getElem u,e])) (by rw[dz,g];omega)]
      exact vu ad a m cm bs B w s hB (by omega) (by omega) (by omega) d q o b hnone
     ·have K:q=10:=by rw[o,if_neg b]
      rw[uM (bQ (bs.drop a)) 0 (by omega) (fun j x u f=>hall j x (by omega) f) (by rw[dz,g];omega)]
      exact zv ad a m cm bs B w s hB (by omega) (by omega) (by omega) d q o (by omega) hnone
    ·obtain⟨k,H⟩:∃ k:Nat,firstIdx gu ((bs.drop a).take q)=(k:Int):=⟨(firstIdx gu ((bs.drop a).take q)).toNat,by have:=ny gu ((bs.drop a).take q);omega⟩
     obtain⟨x,f,G,C⟩:=uc gu _ k H
     have l:k<q:=by have h:=(List.getElem?_eq_some_iff.1 f).1;rw[M]at h;exact h
     have t:(bs.drop a)[k]?=some x:=by rw[List.getElem?_take,if_pos l]at f;exact f
     have p:bs[a+k]?=some x:=by rw[List.getElem?_drop]at t;exact t
     have r:x.toNat<128:=by unfold gu at G;simpa using G
     have J:=xB (bQ (bs.drop a)) (kL _) 0 k x.toNat (by omega) (fun j y u hy=>by
      rw[natB_getElem?,Option.map_eq_some_iff]at hy
      obtain⟨z,R,rfl⟩:=hy
      have D:=C j z u (by rw[List.getElem?_take,if_pos (by omega)];exact R)
      unfold gu at D
      simpa using D) (by rw[natB_getElem?,t];rfl) r
     rw[Nat.zero_add]at J
     by_cases E:(k=9∧1<x.toNat)∨(0<k∧x.toNat=0)
     ·rw[J,if_pos E]
      exact xF ad a m cm bs B w s hB (by omega) (by omega) (by omega) d q o k x l p H E
     ·rw[J,if_neg E,←qo]
      have F:k=0∨(0<k∧k≠9)∨k=9:=by omega
      rcases(by omega:(m<10∨10<m)∨m=10) with b | b
      ·exact DS ad a m cm bs B w s hB (by omega) (by omega) (by omega) d q o b k x F l p H E
      ·exact Dq ad a m cm bs B w s hB (by omega) (by omega) (by omega) d q o b k x F l p H E
 ·rw[AF bs at_ err N]
  exact Bi A n c at_ err w N
end
section
open Go.RowKit
def dw (bs:List UInt8) (at_ err:Int) (most:Nat):Int×Int×Nat:=
 if most<(cq bs at_ err).2.2 then((cq bs at_ err).1,11,0) else cq bs at_ err
theorem lZ (bs:List UInt8) (at_ err:Int) (most:Nat):(dw bs at_ err most).2.2≤most:=by
 unfold dw
 by_cases h:most<(cq bs at_ err).2.2
 ·rw[if_pos h];exact Nat.zero_le _
 ·rw[if_neg h];omega
theorem BX {W:World} {g:Nat} {x0 x1 x2 u:Value} (h:Blk W g 252 #[x0,x1,x2]) (tmps:Array Value) (b:tmps[4]?.getD undef = .pointer (some ⟨g,0,none⟩)) (c:tmps[5]?.getD undef=u):(results Tryz.f260 tmps).run Tryz.prog W = .ok (.tuple #[.agg #[x0,x1,x2],u]) W:=by
 have c0:W.cell? ⟨g,0,none⟩=some x0:=h.cell 0
 have d:W.cell? ⟨g,1,none⟩=some x1:=h.cell 1
 have a:W.cell? ⟨g,2,none⟩=some x2:=h.cell 2
 simp[results,Tryz.results260,go_sem,b,c,c0,d,a]
set_option maxHeartbeats 2000000 in
theorem EB (A:Option Addr) (n c:Nat) (at_ err:Int) (bs:List UInt8) (B:Nat) (w:World) (hr:Reads w B 1 A n (byteCells bs)) (hB:B≤w.heap.size) (V:n≤c) (X:c≤9223372036854775807) (hn:n≤10000) (most:Nat) (hm:most≤1099511627776):
 Calls Tryz.prog 260 #[.agg #[.slice A n c,.int .i64 at_,.int .i64 err],.int .u64 (most:Int)] w fun e w'=>e = .returned (.tuple #[.agg #[.slice A n c,.int .i64 (dw bs at_ err most).1,.int .i64 (dw bs at_ err most).2.1],.int .i64 ((dw bs at_ err most).2.2:Int)])∧Below w.heap.size w w':=by
 have hX:XOk [] w:=fun _ h=>by cases h
 have Y:=fun W=>Lib.hid (jg A n c at_ err bs B W)
 have Q:Hid (dw bs at_ err most=if most<(cq bs at_ err).2.2 then((cq bs at_ err).1,11,0) else cq bs at_ err):=rfl
 have HR:=Lib.hid hr
 generalize dw bs at_ err most=r at Q ⊢
 generalize cq bs at_ err=u at Y Q
 obtain⟨x,y,v⟩:=u
 simp only at Y Q
 clear hr
 have z:Hid (an w [] [] ((w.alloc (.cells #[.slice A n c,.int .i64 at_,.int .i64 err] 252)).alloc (.cells #[.slice none 0 0,.int .i64 0,.int .i64 0] 252)) [.box (w.heap.size+1) 252 #[.slice none 0 0,.int .i64 0,.int .i64 0],.box (w.heap.size) 252 #[.slice A n c,.int .i64 at_,.int .i64 err]] []):=(((an.start w hX).alloc_at 252 #[.slice A n c,.int .i64 at_,.int .i64 err] (w.heap.size) (by simp)).alloc_at 252 #[.slice none 0 0,.int .i64 0,.int .i64 0] (w.heap.size+1) (by simp))
 by_cases hv:most<v
 ·skip
  rw[if_pos hv]at Q
  have U:=Q.out
  subst U
  clear Q
  have Z:(most:Int)<(v:Int):=by omega
  go_enter Tryz.func260,Tryz.ntmps260
  go_wp2_with fail
  with_reducible refine((Y _).out (HR.out.below (z.out.below.mono hB)) (Nat.le_trans hB z.out.size) V X hn).mono ?_
  rintro e d ⟨rfl,P⟩
  have a:Hid (an w [] [] d [.box (w.heap.size+1) 252 #[.slice none 0 0,.int .i64 0,.int .i64 0],.box (w.heap.size) 252 #[.slice A n c,.int .i64 at_,.int .i64 err]] []):=(z.out.on P)
  clear z
  clear P
  have s:d.cell? ⟨w.heap.size,0,none⟩=some (.slice A n c):=a.out.cell 1 rfl 0
  have o:d.frozen? ⟨w.heap.size,0,none⟩=false:=a.out.frozen 1 rfl 0
  have t:d.cell? ⟨w.heap.size,1,none⟩=some (.int .i64 at_):=a.out.cell 1 rfl 1
  have m:d.frozen? ⟨w.heap.size,1,none⟩=false:=a.out.frozen 1 rfl 1
  have p:d.cell? ⟨w.heap.size,2,none⟩=some (.int .i64 err):=a.out.cell 1 rfl 2
  have q:d.frozen? ⟨w.heap.size,2,none⟩=false:=a.out.frozen 1 rfl 2
  have l:d.cell? ⟨w.heap.size+1,0,none⟩=some (.slice none 0 0):=a.out.cell 0 rfl 0
  have g:d.frozen? ⟨w.heap.size+1,0,none⟩=false:=a.out.frozen 0 rfl 0
  have k:d.cell? ⟨w.heap.size+1,1,none⟩=some (.int .i64 0):=a.out.cell 0 rfl 1
  have f:d.frozen? ⟨w.heap.size+1,1,none⟩=false:=a.out.frozen 0 rfl 1
  have i:d.cell? ⟨w.heap.size+1,2,none⟩=some (.int .i64 0):=a.out.cell 0 rfl 2
  have j:d.frozen? ⟨w.heap.size+1,2,none⟩=false:=a.out.frozen 0 rfl 2
  go_upto_region 3 with(fail)
  clear s o t m p q l g k f i j
  have b:Hid (an w [] [] (((d.setCell ⟨w.heap.size,0,none⟩ (.slice A n c)).setCell ⟨w.heap.size,1,none⟩ (.int .i64 x)).setCell ⟨w.heap.size,2,none⟩ (.int .i64 y)) [.box (w.heap.size+1) 252 #[.slice none 0 0,.int .i64 0,.int .i64 0],.box (w.heap.size) 252 #[.slice A n c,.int .i64 x,.int .i64 y]] []):=(((a.out.set_ 1 rfl 0 (.slice A n c)).set_ 1 rfl 1 (.int .i64 x)).set_ 1 rfl 2 (.int .i64 y))
  clear a
  generalize ((d.setCell ⟨w.heap.size,0,none⟩ (.slice A n c)).setCell ⟨w.heap.size,1,none⟩ (.int .i64 x)).setCell ⟨w.heap.size,2,none⟩ (.int .i64 y)=C at b ⊢
  have E:C.cell? ⟨w.heap.size,0,none⟩=some (.slice A n c):=b.out.cell 1 rfl 0
  have L:C.frozen? ⟨w.heap.size,0,none⟩=false:=b.out.frozen 1 rfl 0
  have K:C.cell? ⟨w.heap.size,1,none⟩=some (.int .i64 x):=b.out.cell 1 rfl 1
  have I:C.frozen? ⟨w.heap.size,1,none⟩=false:=b.out.frozen 1 rfl 1
  have G:C.cell? ⟨w.heap.size,2,none⟩=some (.int .i64 y):=b.out.cell 1 rfl 2
  have N:C.frozen? ⟨w.heap.size,2,none⟩=false:=b.out.frozen 1 rfl 2
  have J:C.cell? ⟨w.heap.size+1,0,none⟩=some (.slice none 0 0):=b.out.cell 0 rfl 0
  have O:C.frozen? ⟨w.heap.size+1,0,none⟩=false:=b.out.frozen 0 rfl 0
  have D:C.cell? ⟨w.heap.size+1,1,none⟩=some (.int .i64 0):=b.out.cell 0 rfl 1
  have M:C.frozen? ⟨w.heap.size+1,1,none⟩=false:=b.out.frozen 0 rfl 1
  have H:C.cell? ⟨w.heap.size+1,2,none⟩=some (.int .i64 0):=b.out.cell 0 rfl 2
  have F:C.frozen? ⟨w.heap.size+1,2,none⟩=false:=b.out.frozen 0 rfl 2
  go_wp2
  clear E L K I G N J O D M H F
  have S:Hid (an w [] [] (C.setCell ⟨w.heap.size,2,none⟩ (.int .i64 11)) [.box (w.heap.size+1) 252 #[.slice none 0 0,.int .i64 0,.int .i64 0],.box (w.heap.size) 252 #[.slice A n c,.int .i64 x,.int .i64 11]] []):=b.out.set_ 1 rfl 2 (.int .i64 11)
  clear b
  have R:Hid (an w [] [] ((((C.setCell ⟨w.heap.size,2,none⟩ (.int .i64 11)).setCell ⟨w.heap.size+1,0,none⟩ (.slice A n c)).setCell ⟨w.heap.size+1,1,none⟩ (.int .i64 x)).setCell ⟨w.heap.size+1,2,none⟩ (.int .i64 11)) [.box (w.heap.size+1) 252 #[.slice A n c,.int .i64 x,.int .i64 11],.box (w.heap.size) 252 #[.slice A n c,.int .i64 x,.int .i64 11]] []):=(((S.out.set_ 0 rfl 0 (.slice A n c)).set_ 0 rfl 1 (.int .i64 x)).set_ 0 rfl 2 (.int .i64 11))
  clear S
  exact bodyPost_ret (BX (R.out.blk 0 rfl) _ rfl rfl) rfl ⟨rfl,R.out.below⟩
 ·skip
  rw[if_neg hv]at Q
  have U:=Q.out
  subst U
  clear Q
  have Z:¬ (most:Int)<(v:Int):=by omega
  have ab:(v:Int)≤(most:Int):=by omega
  have hw:IntKind.i64.wrap (v:Int)=(v:Int):=IntWalk.i64_in _ (by omega)
  go_enter Tryz.func260,Tryz.ntmps260
  go_wp2_with fail
  with_reducible refine((Y _).out (HR.out.below (z.out.below.mono hB)) (Nat.le_trans hB z.out.size) V X hn).mono ?_
  rintro e d ⟨rfl,P⟩
  have a:Hid (an w [] [] d [.box (w.heap.size+1) 252 #[.slice none 0 0,.int .i64 0,.int .i64 0],.box (w.heap.size) 252 #[.slice A n c,.int .i64 at_,.int .i64 err]] []):=(z.out.on P)
  clear z
  clear P
  have s:d.cell? ⟨w.heap.size,0,none⟩=some (.slice A n c):=a.out.cell 1 rfl 0
  have o:d.frozen? ⟨w.heap.size,0,none⟩=false:=a.out.frozen 1 rfl 0
  have t:d.cell? ⟨w.heap.size,1,none⟩=some (.int .i64 at_):=a.out.cell 1 rfl 1
  have m:d.frozen? ⟨w.heap.size,1,none⟩=false:=a.out.frozen 1 rfl 1
  have p:d.cell? ⟨w.heap.size,2,none⟩=some (.int .i64 err):=a.out.cell 1 rfl 2
  have q:d.frozen? ⟨w.heap.size,2,none⟩=false:=a.out.frozen 1 rfl 2
  have l:d.cell? ⟨w.heap.size+1,0,none⟩=some (.slice none 0 0):=a.out.cell 0 rfl 0
  have g:d.frozen? ⟨w.heap.size+1,0,none⟩=false:=a.out.frozen 0 rfl 0
  have k:d.cell? ⟨w.heap.size+1,1,none⟩=some (.int .i64 0):=a.out.cell 0 rfl 1
  have f:d.frozen? ⟨w.heap.size+1,1,none⟩=false:=a.out.frozen 0 rfl 1
  have i:d.cell? ⟨w.heap.size+1,2,none⟩=some (.int .i64 0):=a.out.cell 0 rfl 2
  have j:d.frozen? ⟨w.heap.size+1,2,none⟩=false:=a.out.frozen 0 rfl 2
  go_wp2
  clear s o t m p q l g k f i j
  have b:Hid (an w [] [] (((d.setCell ⟨w.heap.size,0,none⟩ (.slice A n c)).setCell ⟨w.heap.size,1,none⟩ (.int .i64 x)).setCell ⟨w.heap.size,2,none⟩ (.int .i64 y)) [.box (w.heap.size+1) 252 #[.slice none 0 0,.int .i64 0,.int .i64 0],.box (w.heap.size) 252 #[.slice A n c,.int .i64 x,.int .i64 y]] []):=(((a.out.set_ 1 rfl 0 (.slice A n c)).set_ 1 rfl 1 (.int .i64 x)).set_ 1 rfl 2 (.int .i64 y))
  clear a
  have T:Hid (an w [] [] ((((((d.setCell ⟨w.heap.size,0,none⟩ (.slice A n c)).setCell ⟨w.heap.size,1,none⟩ (.int .i64 x)).setCell ⟨w.heap.size,2,none⟩ (.int .i64 y)).setCell ⟨w.heap.size+1,0,none⟩ (.slice A n c)).setCell ⟨w.heap.size+1,1,none⟩ (.int .i64 x)).setCell ⟨w.heap.size+1,2,none⟩ (.int .i64 y)) [.box (w.heap.size+1) 252 #[.slice A n c,.int .i64 x,.int .i64 y],.box (w.heap.size) 252 #[.slice A n c,.int .i64 x,.int .i64 y]] []):=(((b.out.set_ 0 rfl 0 (.slice A n c)).set_ 0 rfl 1 (.int .i64 x)).set_ 0 rfl 2 (.int .i64 y))
  clear b
  exact bodyPost_ret (BX (T.out.blk 0 rfl) _ rfl rfl) rfl ⟨rfl,T.out.below⟩
end
section
open Go.RowKit
theorem kg (bs:List UInt8) (at_ err:Int):(cq bs at_ err).2.2<18446744073709551616:=by
 unfold cq
 split
 ·split
  ·rename_i h
   have a:=lD (bQ (bs.drop at_.toNat)) (kL _) 0 (cL 0 (bQ (bs.drop at_.toNat))).2.1 (cL 0 (bQ (bs.drop at_.toNat))).2.2 (by omega) (Prod.ext h rfl)
   simpa using a.2.2.1
  ·simp
 ·simp
end
section
open Go.RowKit
theorem xk (ad:Addr) (a m b k:Nat) (bs:List UInt8) (B:Nat) (w:World) (M:Reads w B 1 (some ad) (a+m) (byteCells bs)) (hB:B≤w.heap.size) (D:m≤b) (A:a+b≤9223372036854775807) (G:0<k) (E:k≤m):Calls Tryz.prog 278 #[.agg #[.slice (some ad) (a+m) (a+b),.int .i64 (a:Int),.int .i64 0],.int .i64 k] w fun e w'=>e = .returned (.tuple #[.agg #[.slice (some ad) (a+m) (a+b),.int .i64 ((a:Int)+(k:Int)),.int .i64 0],.slice (some (ad.add a)) k k])∧Below w.heap.size w w':=by
 have J:(a:Int)+(k:Int)≤(a:Int)+(b:Int):=by omega
 have K:(0:Int)≤(a:Int)+(k:Int):=by omega
 have I:((a:Int)+(k:Int)).toNat=a+k:=by omega
 have F:a+k-a=k:=by omega
 have H:¬ k=0:=by omega
 have N:(a:Int)≤(a:Int)+(k:Int):=by omega
 go_enter Tryz.func278,Tryz.ntmps278
 go_wp2_with fail
 refine(cP (some ad) _ (a+b) a _ (by omega) (by omega)).mono ?_
 rintro e L ⟨rfl,c⟩
 have x:=Lib.hid ((Cu.start w #[.slice (some ad) _ (a+b),.int .i64 a,.int .i64 0] #[.slice none 0 0,.int .i64 0,.int .i64 0]).next c)
 clear c
 obtain⟨k0,q,l,d,g,f,i,o,j,n,p,h⟩:=x.out.cells
 go_wp2_with fail
 clear k0 q l d g f i o j n p h
 refine(iQ (some ad) _ (a+b) a _ (by omega) (by omega) (by omega)).mono ?_
 rintro e t ⟨rfl,c⟩
 have r:=Lib.hid (x.out.next c)
 clear c
 obtain⟨k0,q,l,d,g,f,i,o,j,n,p,h⟩:=r.out.cells
 have C:(((a+m:Nat):Int))-(a:Int)=(m:Int):=by omega
 have z:decide ((m:Int)<(k:Int))=false:=by simp;omega
 have y:decide ((k:Int)<0)=false:=by simp
 go_wp2
 clear k0 q l d g f i o j n p h
 have u:Hid (Cu w (t.setCell ⟨w.heap.size,1,none⟩ (.int .i64 ((a:Int)+(k:Int)))) #[.slice (some ad) (a+m) (a+b),.int .i64 ((a:Int)+(k:Int)),.int .i64 0] #[.slice none 0 0,.int .i64 0,.int .i64 0]):=⟨r.out.1.set_ 1 _,r.out.2.1.far (by simp) _,r.out.2.2.setCell (by simp) _⟩
 generalize t.setCell ⟨w.heap.size,1,none⟩ (.int .i64 ((a:Int)+(k:Int)))=w3 at *
 obtain⟨k0,q,l,d,g,f,i,o,j,n,p,h⟩:=u.out.cells
 go_region_held3 (fun w'=>w'.cell? ⟨w.heap.size,0,none⟩=some (.slice (some ad) (a+m) (a+b))∧w'.cell? ⟨w.heap.size,1,none⟩=some (.int .i64 ((a:Int)+(k:Int)))∧w'.cell? ⟨w.heap.size,2,none⟩=some (.int .i64 0)) (go_keep) (fail)
 go_wp2
 have s:=u.out.2.2
 exact bodyPost_ret (v := .tuple #[.agg #[.slice (some ad) (a+m) (a+b),.int .i64 ((a:Int)+(k:Int)),.int .i64 0],.slice (some (ad.add a)) k k]) (by simp[results,Tryz.results278,go_sem,d,g,f]) rfl ⟨rfl,(by repeat (first | refine Below.setCell ?_ (by simp) _ | refine Below.drew ?_ | refine below_drewN ?_ _ | exact s))⟩
theorem yU (A:Option Addr) (a m b:Nat) (bs:List UInt8) (B:Nat) (w:World) (F:Reads w B 1 A (a+m) (byteCells bs)) (hB:B≤w.heap.size) (D:m≤b) (z:a+b≤9223372036854775807):Calls Tryz.prog 278 #[.agg #[.slice A (a+m) (a+b),.int .i64 (a:Int),.int .i64 0],.int .i64 0] w fun e w'=>e = .returned (.tuple #[.agg #[.slice A (a+m) (a+b),.int .i64 (a:Int),.int .i64 0],.slice A 0 0])∧Below w.heap.size w w':=by
 have E:(a:Int)≤(a:Int)+(b:Int):=by omega
 rcases A with _ | ad
 ·go_enter Tryz.func278,Tryz.ntmps278
  go_wp2_with fail
  refine(cP none _ (a+b) a _ (by omega) (by omega)).mono ?_
  rintro e C ⟨rfl,c⟩
  have u:=Lib.hid ((Cu.start w #[.slice none _ (a+b),.int .i64 a,.int .i64 0] #[.slice none 0 0,.int .i64 0,.int .i64 0]).next c)
  clear c
  obtain⟨k0,p,k,d,g,f,i,n,j,l,o,h⟩:=u.out.cells
  go_wp2_with fail
  clear k0 p k d g f i n j l o h
  refine(iQ none _ (a+b) a _ (by omega) (by omega) (by omega)).mono ?_
  rintro e s ⟨rfl,c⟩
  have q:=Lib.hid (u.out.next c)
  clear c
  obtain⟨k0,p,k,d,g,f,i,n,j,l,o,h⟩:=q.out.cells
  have y:(((a+m:Nat):Int))-(a:Int)=(m:Int):=by omega
  have x:decide ((m:Int)<0)=false:=by simp
  go_wp2
  clear k0 p k d g f i n j l o h
  have t:Hid (Cu w (s.setCell ⟨w.heap.size,1,none⟩ (.int .i64 (a:Int))) #[.slice none (a+m) (a+b),.int .i64 (a:Int),.int .i64 0] #[.slice none 0 0,.int .i64 0,.int .i64 0]):=⟨q.out.1.set_ 1 _,q.out.2.1.far (by simp) _,q.out.2.2.setCell (by simp) _⟩
  generalize s.setCell ⟨w.heap.size,1,none⟩ (.int .i64 (a:Int))=w3 at *
  obtain⟨k0,p,k,d,g,f,i,n,j,l,o,h⟩:=t.out.cells
  go_region_held3 (fun w'=>w'.cell? ⟨w.heap.size,0,none⟩=some (.slice none (a+m) (a+b))∧w'.cell? ⟨w.heap.size,1,none⟩=some (.int .i64 (a:Int))∧w'.cell? ⟨w.heap.size,2,none⟩=some (.int .i64 0)) (go_keep) (fail)
  go_wp2
  have r:=t.out.2.2
  exact bodyPost_ret (v := .tuple #[.agg #[.slice none (a+m) (a+b),.int .i64 (a:Int),.int .i64 0],.slice none 0 0]) (by simp[results,Tryz.results278,go_sem,d,g,f]) rfl ⟨rfl,(by repeat (first | refine Below.setCell ?_ (by simp) _ | refine Below.drew ?_ | refine below_drewN ?_ _ | exact r))⟩
 ·go_enter Tryz.func278,Tryz.ntmps278
  go_wp2_with fail
  refine(cP (some ad) _ (a+b) a _ (by omega) (by omega)).mono ?_
  rintro e C ⟨rfl,c⟩
  have u:=Lib.hid ((Cu.start w #[.slice (some ad) _ (a+b),.int .i64 a,.int .i64 0] #[.slice none 0 0,.int .i64 0,.int .i64 0]).next c)
  clear c
  obtain⟨k0,p,k,d,g,f,i,n,j,l,o,h⟩:=u.out.cells
  go_wp2_with fail
  clear k0 p k d g f i n j l o h
  refine(iQ (some ad) _ (a+b) a _ (by omega) (by omega) (by omega)).mono ?_
  rintro e s ⟨rfl,c⟩
  have q:=Lib.hid (u.out.next c)
  clear c
  obtain⟨k0,p,k,d,g,f,i,n,j,l,o,h⟩:=q.out.cells
  have y:(((a+m:Nat):Int))-(a:Int)=(m:Int):=by omega
  have x:decide ((m:Int)<0)=false:=by simp
  go_wp2
  clear k0 p k d g f i n j l o h
  have t:Hid (Cu w (s.setCell ⟨w.heap.size,1,none⟩ (.int .i64 (a:Int))) #[.slice (some ad) (a+m) (a+b),.int .i64 (a:Int),.int .i64 0] #[.slice none 0 0,.int .i64 0,.int .i64 0]):=⟨q.out.1.set_ 1 _,q.out.2.1.far (by simp) _,q.out.2.2.setCell (by simp) _⟩
  generalize s.setCell ⟨w.heap.size,1,none⟩ (.int .i64 (a:Int))=w3 at *
  obtain⟨k0,p,k,d,g,f,i,n,j,l,o,h⟩:=t.out.cells
  go_region_held3 (fun w'=>w'.cell? ⟨w.heap.size,0,none⟩=some (.slice (some ad) (a+m) (a+b))∧w'.cell? ⟨w.heap.size,1,none⟩=some (.int .i64 (a:Int))∧w'.cell? ⟨w.heap.size,2,none⟩=some (.int .i64 0)) (go_keep) (fail)
  go_wp2
  have r:=t.out.2.2
  exact bodyPost_ret (v := .tuple #[.agg #[.slice (some ad) (a+m) (a+b),.int .i64 (a:Int),.int .i64 0],.slice (some ad) 0 0]) (by simp[results,Tryz.results278,go_sem,d,g,f]) rfl ⟨rfl,(by repeat (first | refine Below.setCell ?_ (by simp) _ | refine Below.drew ?_ | refine below_drewN ?_ _ | exact r))⟩
end
section
open Go.RowKit
theorem EX (A:Option Addr) (n c a k:Nat) (bs:List UInt8) (B:Nat) (w:World) (f:Reads w B 1 A n (byteCells bs)) (hB:B≤w.heap.size) (g:n≤c) (b:c≤9223372036854775807) (j:a+k≤n):
 Calls Tryz.prog 278 #[.agg #[.slice A n c,.int .i64 (a:Int),.int .i64 0],.int .i64 k] w fun e w' => ∃ A',e = .returned (.tuple #[.agg #[.slice A n c,.int .i64 ((a:Int)+(k:Int)),.int .i64 0],.slice A' k k])∧Reads w' B 1 A' k (byteCells ((bs.drop a).take k))∧Below w.heap.size w w':=by
 obtain⟨m,rfl⟩:∃ m,n=a+m:=⟨n-a,by omega⟩
 obtain⟨cm,rfl⟩:∃ cm,c=a+cm:=⟨c-a,by omega⟩
 rcases Nat.eq_zero_or_pos k with rfl | i
 ·refine(yU A a m cm bs B w f hB (by omega) b).mono ?_
  rintro e w' ⟨rfl,d⟩
  exact⟨A,by simp,by simpa [byteCells] using Reads.none_,d⟩
 ·obtain⟨ad,rfl,_⟩:=f.2 (by omega)
  refine(xk ad a m cm k bs B w f hB (by omega) b i (by omega)).mono ?_
  rintro e w' ⟨rfl,d⟩
  refine⟨_,rfl,?_,d⟩
  have h:=((f.below (d.mono hB)).sufB (k:=a) (cap:=a+cm) (by omega) (by omega)).preB (k:=k) (by omega)
  rw[if_neg (by omega),Option.map_some]at h
  exact h
def kS (bs:List UInt8) (at_ err most:Int):Int×Int×List UInt8:=
 if(cq bs at_ err).2.1≠0 then((cq bs at_ err).1,(cq bs at_ err).2.1,[])
 else if most<0∨most<((cq bs at_ err).2.2:Int) then(at_,9,[])
 else if(bs.length:Int)-(cq bs at_ err).1<((cq bs at_ err).2.2:Int) then(at_,10,[])
 else((cq bs at_ err).1+((cq bs at_ err).2.2:Nat),0,(bs.drop (cq bs at_ err).1.toNat).take (cq bs at_ err).2.2)
theorem iq (bs:List UInt8) (at_ err x:Int) (v:Nat) (h:cq bs at_ err=(x,0,v)):err=0∧0≤x∧x≤(bs.length:Int)∧0≤at_∧at_≤x:=by
 unfold cq at h
 split at h
 ·rename_i d
  split at h
  ·rename_i a
   have b:=lD (bQ (bs.drop at_.toNat)) (kL _) 0 (cL 0 (bQ (bs.drop at_.toNat))).2.1 (cL 0 (bQ (bs.drop at_.toNat))).2.2 (by omega) (Prod.ext a rfl)
   have c:=b.1
   rw[dz,List.length_drop]at c
   simp only[Prod.mk.injEq]at h
   omega
  ·rename_i a
   simp only[Prod.mk.injEq]at h
   omega
 ·simp only[Prod.mk.injEq]at h
  split at h<;>omega
set_option maxHeartbeats 1000000 in
theorem Cv (A:Option Addr) (n c:Nat) (at_ err:Int) (bs:List UInt8) (B:Nat) (w:World) (k:Reads w B 1 A n (byteCells bs)) (hB:B≤w.heap.size) (d:n≤c) (f:c≤9223372036854775807) (hn:n≤10000) (most:Int) (x y:Int) (v:Nat) (g:cq bs at_ err=(x,y,v)) (hy:y≠0):
 Calls Tryz.prog 261 #[.agg #[.slice A n c,.int .i64 at_,.int .i64 err],.int .i64 most] w fun e w'=>e = .returned (.tuple #[.agg #[.slice A n c,.int .i64 x,.int .i64 y],.string ⟨#[]⟩])∧Below w.heap.size w w':=by
 have o:=kg bs at_ err
 have q:=k.lenB
 have j:=Lib.hid (fun W (h:Reads W B 1 A n (byteCells bs)) (h':B≤W.heap.size)=>jg A n c at_ err bs B W h h' d f hn)
 have t:=Lib.hid k
 rw[g]at j o
 simp only at j o
 have J:(y != 0)=true:=by rw[bne_iff_ne];exact hy
 have C:=Lib.hid g
 clear k g
 go_enter Tryz.func261,Tryz.ntmps261
 go_wp2_with fail
 have b:=Lib.hid (Cu.start w #[.slice A n c,.int .i64 at_,.int .i64 err] #[.slice none 0 0,.int .i64 0,.int .i64 0])
 refine(j.out _ (b.out.reads t.out hB) (by simp;omega)).mono ?_
 rintro e H ⟨rfl,m⟩
 have a:=Lib.hid (b.out.next m)
 clear m b
 obtain⟨k0,M,G,p,u,r,E,K,F,I,L,D⟩:=a.out.cells
 have z:=a.out.1.lt
 have i:=a.out.2.1.lt
 have s:=a.out.size
 go_wp2
 have l:=a.out.2.2
 exact bodyPost_ret (v := .tuple #[.agg #[.slice A n c,.int .i64 x,.int .i64 y],.string ⟨#[]⟩]) (by simp[results,Tryz.results261,go_sem,p,u,r,i]) rfl ⟨rfl,(by repeat (first | refine Below.setCell ?_ (by simp;try omega) _ | refine Below.drew ?_ | refine below_drewN ?_ _ | refine Below.alloc ?_ (by simp;try omega) _ | exact l))⟩
set_option maxHeartbeats 1000000 in
theorem Bz (A:Option Addr) (n c:Nat) (at_:Int) (bs:List UInt8) (B:Nat) (w:World) (o:Reads w B 1 A n (byteCells bs)) (hB:B≤w.heap.size) (i:n≤c) (k:c≤9223372036854775807) (hn:n≤10000) (most:Int) (O:most≤9223372036854775807) (x:Int) (v:Nat) (f:cq bs at_ 0=(x,0,v)) (J:most<0):
 Calls Tryz.prog 261 #[.agg #[.slice A n c,.int .i64 at_,.int .i64 0],.int .i64 most] w fun e w'=>e = .returned (.tuple #[.agg #[.slice A n c,.int .i64 at_,.int .i64 9],.string ⟨#[]⟩])∧Below w.heap.size w w':=by
 have C:=kg bs at_ 0
 have a:=o.lenB
 obtain⟨_,P,r,_,_⟩:=iq bs at_ 0 x v f
 rw[a]at r
 have m:=Lib.hid (fun W (h:Reads W B 1 A n (byteCells bs)) (h':B≤W.heap.size)=>jg A n c at_ 0 bs B W h h' i k hn)
 have N:=Lib.hid o
 rw[f]at m C
 simp only at m C
 have U:decide (most<0)=true:=by simpa using J
 have R:=Lib.hid f
 have I:=Lib.hid a
 clear o f a
 go_enter Tryz.func261,Tryz.ntmps261
 go_wp2_with fail
 have g:=Lib.hid (Cu.start w #[.slice A n c,.int .i64 at_,.int .i64 0] #[.slice none 0 0,.int .i64 0,.int .i64 0])
 refine(m.out _ (g.out.reads N.out hB) (by simp;omega)).mono ?_
 rintro e M ⟨rfl,s⟩
 have d:=Lib.hid (g.out.next s)
 clear s g
 obtain⟨k0,H,z,j,p,l,u,E,y,D,G,t⟩:=d.out.cells
 have Q:=d.out.1.lt
 have L:=d.out.2.1.lt
 have K:=d.out.size
 have S:=Lib.hid (d.out.next ((Below.refl _ M).alloc (Nat.le_refl _) (.cells #[.slice A n c,.int .i64 x,.int .i64 0] 252)))
 go_wp2_with fail
 clear k0 H z j p l u E y D G t
 refine(cY A n c at_ 9 _).mono ?_
 rintro e T ⟨rfl,b⟩
 have F:=Lib.hid (S.out.next b)
 clear b
 obtain⟨k0,H,z,j,p,l,u,E,y,D,G,t⟩:=F.out.cells
 go_wp2
 have q:=F.out.2.2
 exact bodyPost_ret (v := .tuple #[.agg #[.slice A n c,.int .i64 at_,.int .i64 9],.string ⟨#[]⟩]) (by simp[results,Tryz.results261,go_sem,j,p,l]) rfl ⟨rfl,(by repeat (first | refine Below.setCell ?_ (by simp;try omega) _ | refine Below.drew ?_ | refine below_drewN ?_ _ | refine Below.alloc ?_ (by simp;try omega) _ | exact q))⟩
set_option maxHeartbeats 1000000 in
theorem yh (A:Option Addr) (n c:Nat) (at_:Int) (bs:List UInt8) (B:Nat) (w:World) (o:Reads w B 1 A n (byteCells bs)) (hB:B≤w.heap.size) (i:n≤c) (k:c≤9223372036854775807) (hn:n≤10000) (most:Int) (P:most≤9223372036854775807) (x:Int) (v:Nat) (f:cq bs at_ 0=(x,0,v)) (K:0≤most) (s:most<(v:Int)):
 Calls Tryz.prog 261 #[.agg #[.slice A n c,.int .i64 at_,.int .i64 0],.int .i64 most] w fun e w'=>e = .returned (.tuple #[.agg #[.slice A n c,.int .i64 at_,.int .i64 9],.string ⟨#[]⟩])∧Below w.heap.size w w':=by
 have D:=kg bs at_ 0
 have a:=o.lenB
 obtain⟨_,Q,r,_,_⟩:=iq bs at_ 0 x v f
 rw[a]at r
 have m:=Lib.hid (fun W (h:Reads W B 1 A n (byteCells bs)) (h':B≤W.heap.size)=>jg A n c at_ 0 bs B W h h' i k hn)
 have O:=Lib.hid o
 rw[f]at m D
 simp only at m D
 have V:decide (most<0)=false:=by simpa using K
 have dv:decide (most<(v:Int))=true:=by simpa using s
 have S:=Lib.hid f
 have J:=Lib.hid a
 clear o f a
 go_enter Tryz.func261,Tryz.ntmps261
 go_wp2_with fail
 have g:=Lib.hid (Cu.start w #[.slice A n c,.int .i64 at_,.int .i64 0] #[.slice none 0 0,.int .i64 0,.int .i64 0])
 refine(m.out _ (g.out.reads O.out hB) (by simp;omega)).mono ?_
 rintro e N ⟨rfl,t⟩
 have d:=Lib.hid (g.out.next t)
 clear t g
 obtain⟨k0,I,C,j,p,l,y,F,z,E,H,u⟩:=d.out.cells
 have R:=d.out.1.lt
 have M:=d.out.2.1.lt
 have L:=d.out.size
 have T:=Lib.hid (d.out.next ((Below.refl _ N).alloc (Nat.le_refl _) (.cells #[.slice A n c,.int .i64 x,.int .i64 0] 252)))
 go_wp2_with fail
 clear k0 I C j p l y F z E H u
 refine(cY A n c at_ 9 _).mono ?_
 rintro e U ⟨rfl,b⟩
 have G:=Lib.hid (T.out.next b)
 clear b
 obtain⟨k0,I,C,j,p,l,y,F,z,E,H,u⟩:=G.out.cells
 go_wp2
 have q:=G.out.2.2
 exact bodyPost_ret (v := .tuple #[.agg #[.slice A n c,.int .i64 at_,.int .i64 9],.string ⟨#[]⟩]) (by simp[results,Tryz.results261,go_sem,j,p,l]) rfl ⟨rfl,(by repeat (first | refine Below.setCell ?_ (by simp;try omega) _ | refine Below.drew ?_ | refine below_drewN ?_ _ | refine Below.alloc ?_ (by simp;try omega) _ | exact q))⟩
set_option maxHeartbeats 1000000 in
theorem uz (A:Option Addr) (n c:Nat) (at_:Int) (bs:List UInt8) (B:Nat) (w:World) (F:Reads w B 1 A n (byteCells bs)) (hB:B≤w.heap.size) (C:n≤c) (D:c≤9223372036854775807) (hn:n≤10000) (most:Int) (S:most≤9223372036854775807) (x:Int) (v:Nat) (r:cq bs at_ 0=(x,0,v)) (N:0≤most) (H:(v:Int)≤most) (T:(n:Int)-x<(v:Int)):
 Calls Tryz.prog 261 #[.agg #[.slice A n c,.int .i64 at_,.int .i64 0],.int .i64 most] w fun e w'=>e = .returned (.tuple #[.agg #[.slice A n c,.int .i64 at_,.int .i64 10],.string ⟨#[]⟩])∧Below w.heap.size w w':=by
 have K:=kg bs at_ 0
 have a:=F.lenB
 obtain⟨_,I,i,_,_⟩:=iq bs at_ 0 x v r
 rw[a]at i
 have E:=Lib.hid (fun W (h:Reads W B 1 A n (byteCells bs)) (h':B≤W.heap.size)=>jg A n c at_ 0 bs B W h h' C D hn)
 have R:=Lib.hid F
 rw[r]at E K
 simp only at E K
 have dm:decide (most<0)=false:=by simpa using N
 have dv:decide (most<(v:Int))=false:=by simpa using H
 have dl:decide ((n:Int)-x<(v:Int))=true:=by simp;omega
 have V:=Lib.hid r
 have M:=Lib.hid a
 clear F r a
 go_enter Tryz.func261,Tryz.ntmps261
 go_wp2_with fail
 have z:=Lib.hid (Cu.start w #[.slice A n c,.int .i64 at_,.int .i64 0] #[.slice none 0 0,.int .i64 0,.int .i64 0])
 refine(E.out _ (z.out.reads R.out hB) (by simp;omega)).mono ?_
 rintro e Q ⟨rfl,J⟩
 have k:=Lib.hid (z.out.next J)
 clear J z
 obtain⟨k0,y,q,b,g,d,o,t,p,s,u,m⟩:=k.out.cells
 have U:=k.out.1.lt
 have P:=k.out.2.1.lt
 have O:=k.out.size
 have X:=Lib.hid (k.out.next ((Below.refl _ Q).alloc (Nat.le_refl _) (.cells #[.slice A n c,.int .i64 x,.int .i64 0] 252)))
 go_wp2_with fail
 clear k0 y q b g d o t p s u m
 refine(iQ A n c x _ I i (by omega)).mono ?_
 rintro e Y ⟨rfl,f⟩
 have l:=Lib.hid (X.out.next f)
 clear f
 obtain⟨k0,y,q,b,g,d,o,t,p,s,u,m⟩:=l.out.cells
 go_wp2_with fail
 clear k0 y q b g d o t p s u m
 refine(cY A n c at_ 10 _).mono ?_
 rintro e Z ⟨rfl,j⟩
 have L:=Lib.hid (l.out.next j)
 clear j
 obtain⟨k0,y,q,b,g,d,o,t,p,s,u,m⟩:=L.out.cells
 go_wp2
 have G:=L.out.2.2
 exact bodyPost_ret (v := .tuple #[.agg #[.slice A n c,.int .i64 at_,.int .i64 10],.string ⟨#[]⟩]) (by simp[results,Tryz.results261,go_sem,b,g,d]) rfl ⟨rfl,(by repeat (first | refine Below.setCell ?_ (by simp;try omega) _ | refine Below.drew ?_ | refine below_drewN ?_ _ | refine Below.alloc ?_ (by simp;try omega) _ | exact G))⟩
end
section
open Go.RowKit
set_option maxHeartbeats 2000000 in
theorem CU (A:Option Addr) (n c:Nat) (at_:Int) (bs:List UInt8) (B:Nat) (w:World) (hr:Reads w B 1 A n (byteCells bs)) (hB:B≤w.heap.size) (H:n≤c) (L:c≤9223372036854775807) (hn:n≤10000) (most:Int) (ag:most≤9223372036854775807) (a v:Nat) (hu:cq bs at_ 0=((a:Int),0,v)) (hm:0≤most) (ab:(v:Int)≤most) (X:a+v≤n):
 Calls Tryz.prog 261 #[.agg #[.slice A n c,.int .i64 at_,.int .i64 0],.int .i64 most] w fun e w'=>e = .returned (.tuple #[.agg #[.slice A n c,.int .i64 ((a:Int)+(v:Int)),.int .i64 0],.string ⟨((bs.drop a).take v).toArray⟩])∧Below w.heap.size w w':=by
 have hv:=kg bs at_ 0
 have ac:(0:Int)≤(a:Int):=by omega
 have T:(a:Int)≤(n:Int):=by omega
 have R:=Lib.hid (fun W (h:Reads W B 1 A n (byteCells bs)) (h':B≤W.heap.size)=>jg A n c at_ 0 bs B W h h' H L hn)
 have HR:=Lib.hid hr
 rw[hu]at R hv
 simp only at R hv
 have dm:decide (most<0)=false:=by simpa using hm
 have dv:decide (most<(v:Int))=false:=by simpa using ab
 have dl:decide ((n:Int)-(a:Int)<(v:Int))=false:=by simp;omega
 clear hr hu
 go_enter Tryz.func261,Tryz.ntmps261
 go_wp2_with fail
 have Q:=Lib.hid (Cu.start w #[.slice A n c,.int .i64 at_,.int .i64 0] #[.slice none 0 0,.int .i64 0,.int .i64 0])
 refine(R.out _ (Q.out.reads HR.out hB) (by simp;omega)).mono ?_
 rintro e d ⟨rfl,hb⟩
 have G:=Lib.hid (Q.out.next hb)
 clear hb Q
 obtain⟨k0,D,s,o,m,r,z,x,C,t,u,y⟩:=G.out.cells
 have am:=G.out.1.lt
 have ae:=G.out.2.1.lt
 have ad:=G.out.size
 have C2:=Lib.hid (G.out.next ((Below.refl _ d).alloc (Nat.le_refl _) (.cells #[.slice A n c,.int .i64 (a:Int),.int .i64 0] 252)))
 have HH:=Lib.hid (Blk.new d 252 #[.slice A n c,.int .i64 (a:Int),.int .i64 0])
 go_wp2_with fail
 clear k0 D s o m r z x C t u y
 refine(iQ A n c a _ ac T (by omega)).mono ?_
 rintro e j ⟨rfl,p⟩
 have l:=Lib.hid (C2.out.next p)
 have f:=Lib.hid (HH.out.below p HH.out.lt)
 clear p
 obtain⟨k0,D,s,o,m,r,z,x,C,t,u,y⟩:=l.out.cells
 obtain⟨E,I,N,Z,t1,V⟩:j.cell? ⟨d.heap.size,0,none⟩=some (.slice A n c)∧j.cell? ⟨d.heap.size,1,none⟩=some (.int .i64 (a:Int))∧j.cell? ⟨d.heap.size,2,none⟩=some (.int .i64 0)∧j.frozen? ⟨d.heap.size,0,none⟩=false∧j.frozen? ⟨d.heap.size,1,none⟩=false∧j.frozen? ⟨d.heap.size,2,none⟩=false:=⟨f.out.cell 0,f.out.cell 1,f.out.cell 2,f.out.frozen 0,f.out.frozen 1,f.out.frozen 2⟩
 go_wp2_with fail
 clear k0 D s o m r z x C t u y
 clear E I N Z t1 V
 refine(EX A n c a v bs B _ (l.out.reads HR.out hB) (Nat.le_trans hB l.out.size) H L X).mono ?_
 rintro e k ⟨A',rfl,F,q⟩
 have O:=Lib.hid (l.out.next q)
 have i:=Lib.hid (f.out.below q f.out.lt)
 have U:=Lib.hid F
 clear q F
 obtain⟨k0,D,s,o,m,r,z,x,C,t,u,y⟩:=O.out.cells
 obtain⟨E,I,N,Z,t1,V⟩:k.cell? ⟨d.heap.size,0,none⟩=some (.slice A n c)∧k.cell? ⟨d.heap.size,1,none⟩=some (.int .i64 (a:Int))∧k.cell? ⟨d.heap.size,2,none⟩=some (.int .i64 0)∧k.frozen? ⟨d.heap.size,0,none⟩=false∧k.frozen? ⟨d.heap.size,1,none⟩=false∧k.frozen? ⟨d.heap.size,2,none⟩=false:=⟨i.out.cell 0,i.out.cell 1,i.out.cell 2,i.out.frozen 0,i.out.frozen 1,i.out.frozen 2⟩
 go_wp2_with fail
 clear k0 D s o m r z x C t u y
 clear E I N Z t1 V
 have P:Hid (Cu w (((k.setCell ⟨d.heap.size,0,none⟩ (.slice A n c)).setCell ⟨d.heap.size,1,none⟩ (.int .i64 ((a:Int)+(v:Int)))).setCell ⟨d.heap.size,2,none⟩ (.int .i64 0)) #[.slice A n c,.int .i64 at_,.int .i64 0] #[.slice none 0 0,.int .i64 0,.int .i64 0]):=⟨((O.out.1.far (by simp;omega) _).far (by simp;omega) _).far (by simp;omega) _,((O.out.2.1.far (by simp;omega) _).far (by simp;omega) _).far (by simp;omega) _,((O.out.2.2.setCell (by simp;omega) _).setCell (by simp;omega) _).setCell (by simp;omega) _⟩
 have M:Hid (Blk (((k.setCell ⟨d.heap.size,0,none⟩ (.slice A n c)).setCell ⟨d.heap.size,1,none⟩ (.int .i64 ((a:Int)+(v:Int)))).setCell ⟨d.heap.size,2,none⟩ (.int .i64 0)) d.heap.size 252 #[.slice A n c,.int .i64 ((a:Int)+(v:Int)),.int .i64 0]):=((i.out.set_ 0 _).set_ 1 _).set_ 2 _
 have J:Hid (Reads (((k.setCell ⟨d.heap.size,0,none⟩ (.slice A n c)).setCell ⟨d.heap.size,1,none⟩ (.int .i64 ((a:Int)+(v:Int)))).setCell ⟨d.heap.size,2,none⟩ (.int .i64 0)) B 1 A' v (byteCells ((bs.drop a).take v))):=((U.out.setCell (by simp;omega) _).setCell (by simp;omega) _).setCell (by simp;omega) _
 generalize ((k.setCell ⟨d.heap.size,0,none⟩ (.slice A n c)).setCell ⟨d.heap.size,1,none⟩ (.int .i64 ((a:Int)+(v:Int)))).setCell ⟨d.heap.size,2,none⟩ (.int .i64 0)=w4 at P M J ⊢
 obtain⟨k0,D,s,o,m,r,z,x,C,t,u,y⟩:=P.out.cells
 refine wp_region_noPanic ?_
 refine wp_region_held_drew (S:=fun W=>Blk W d.heap.size 252 #[.slice A n c,.int .i64 ((a:Int)+(v:Int)),.int .i64 0]∧Reads W B 1 A' v (byteCells ((bs.drop a).take v))) (by kernel_rfl) ⟨M.out.drew,J.out.drew⟩ (fun b=>?_)
 refine tS 0 b ?_ (hy:=by(intro W g;(try dsimp only at g);have E:=g.1.cell 0;have I:=g.1.cell 1;have N:=g.1.cell 2;simp only[List.getElem?_toArray,List.getElem?_cons_zero,List.getElem?_cons_succ]at E I N;go_simp;try with_reducible rfl))
 refine tS 1 b ?_
 refine tS 2 b ?_ (hy:=by(intro W g;(try dsimp only at g);have al:=lU g.2 v;go_simp;try with_reducible rfl))
 refine wpAnyH_ready (rs:=[3]) (by kernel_rfl) (by simp) ?_
 refine AllReadyH.cons rfl (fun K hK=>?_) AllReadyH.nil
 go_simp
 refine hK.out _ _ (by refine⟨?_,?_⟩<;>repeat (first | exact b.1 | exact b.2 | refine Blk.drew ?_ | refine Blk.far ?_ (by simp;omega) _ | refine Reads.drew ?_ | refine Reads.setCell ?_ (by simp;omega) _)) (fun b=>?_)
 clear hK K
 try simp only[Act.put,sI,sZ,sS]
 refine tS 4 b ?_
 refine wpAnyH_done (by kernel_rfl) ?_ _
 refine NoPanic.normal ?_
 go_wp2
 have Y:=P.out.2.2
 exact bodyPost_ret (v := .tuple #[.agg #[.slice A n c,.int .i64 ((a:Int)+(v:Int)),.int .i64 0],.string ⟨((bs.drop a).take v).toArray⟩]) (by simp[results,Tryz.results261,go_sem,o,m,r]) rfl ⟨rfl,(by repeat (first | refine Below.setCell ?_ (by simp;try omega) _ | refine Below.drew ?_ | refine below_drewN ?_ _ | refine Below.alloc ?_ (by simp;try omega) _ | exact Y))⟩
end
section
open Go.RowKit
theorem EA (A:Option Addr) (n c:Nat) (at_ err:Int) (bs:List UInt8) (B:Nat) (w:World) (h:Reads w B 1 A n (byteCells bs)) (hB:B≤w.heap.size) (b:n≤c) (d:c≤9223372036854775807) (hn:n≤10000) (most:Int) (f:most≤9223372036854775807):
 Calls Tryz.prog 261 #[.agg #[.slice A n c,.int .i64 at_,.int .i64 err],.int .i64 most] w fun e w'=>e = .returned (.tuple #[.agg #[.slice A n c,.int .i64 (kS bs at_ err most).1,.int .i64 (kS bs at_ err most).2.1],.string ⟨(kS bs at_ err most).2.2.toArray⟩])∧Below w.heap.size w w':=by
 have k:=h.lenB
 obtain⟨⟨x,y,v⟩,g⟩:∃ r,cq bs at_ err=r:=⟨_,rfl⟩
 have l:kS bs at_ err most=if y≠0 then(x,y,[]) else if most<0∨most<(v:Int) then(at_,9,[]) else if(bs.length:Int)-x<(v:Int) then(at_,10,[]) else(x+(v:Nat),0,(bs.drop x.toNat).take v):=by unfold kS;rw[g]
 rw[l]
 by_cases hy:y=0
 ·subst hy
  obtain⟨rfl,o,m,_,_⟩:=iq bs at_ err x v g
  rw[if_neg (by simp)]
  by_cases j:most<0∨most<(v:Int)
  ·rw[if_pos j]
   by_cases i:most<0
   ·exact Bz A n c at_ bs B w h hB b d hn most f x v g i
   ·exact yh A n c at_ bs B w h hB b d hn most f x v g (by omega) (by omega)
  ·rw[if_neg j]
   by_cases i:(bs.length:Int)-x<(v:Int)
   ·rw[if_pos i]
    exact uz A n c at_ bs B w h hB b d hn most f x v g (by omega) (by omega) (by omega)
   ·rw[if_neg i]
    obtain⟨a,rfl⟩:∃ a:Nat,x=(a:Int):=⟨x.toNat,by omega⟩
    rw[Int.toNat_natCast]
    exact CU A n c at_ bs B w h hB b d hn most f a v g (by omega) (by omega) (by omega)
 ·rw[if_pos hy]
  exact Cv A n c at_ err bs B w h hB b d hn most x y v g hy
def b6:List UInt8:=[172,2,1,2,97,98]
end
section
open Go.ChangeShapes Go.WideShapes Go.ChangeAt Go.RowKit Go.Deep
section
variable {H:Type} {enc:TypeId×Value→H}
theorem vj {w:World} {base:Nat} {fuel:Nat} {cs:List Value} {x:DataW H×List MemPlace} (h:DataW.trod enc Tryz.prog w base (fun _=>true) true fuel 44 cs=some x):
 ∃ (q:Int) (a:Int) (k:Int) (b:ByteArray) (x:Int) (y:Int) (z:Int),cs = [.int .i64 q,.int .i64 a,.int .i64 k,.string b,.int .i64 x,.int .i64 y,.int .i64 z]∧(Lit.int .i64 q).wf=true∧(Lit.int .i64 a).wf=true∧(Lit.int .i64 k).wf=true∧b.size≤maxLen∧(Lit.int .i64 x).wf=true∧(Lit.int .i64 y).wf=true∧(Lit.int .i64 z).wf=true:=by
 obtain⟨xs,n,J,_,m,d,hall⟩:=DataW.trod_struct Tryz.underlying44 h
 rw[show Tryz.prog.cellsOf 44=7 from by kernel_rfl]at m
 match cs,m with
 | [c0,c1,c2,c3,c4,c5,c6],_=>
   have c:xs.length=7:=d
   match xs,c with
   | [x0,x1,x2,x3,x4,x5,x6],_=>
     have u:DataW.trod enc Tryz.prog w base (fun _=>true) true n 2 [c0]=some x0:=by
      have h:DataW.trod enc Tryz.prog w base (fun _=>true) true n 2 ((([c0,c1,c2,c3,c4,c5,c6]:List Value).drop 0).take (Tryz.prog.cellsOf 2))=([x0,x1,x2,x3,x4,x5,x6])[0]?:=hall 0 _ rfl
      rw[show Tryz.prog.cellsOf 2=1 from by kernel_rfl]at h
      exact h
     have C:DataW.trod enc Tryz.prog w base (fun _=>true) true n 2 [c1]=some x1:=by
      have h:DataW.trod enc Tryz.prog w base (fun _=>true) true n 2 ((([c0,c1,c2,c3,c4,c5,c6]:List Value).drop 1).take (Tryz.prog.cellsOf 2))=([x0,x1,x2,x3,x4,x5,x6])[1]?:=hall 1 _ rfl
      rw[show Tryz.prog.cellsOf 2=1 from by kernel_rfl]at h
      exact h
     have v:DataW.trod enc Tryz.prog w base (fun _=>true) true n 3 [c2]=some x2:=by
      have h:DataW.trod enc Tryz.prog w base (fun _=>true) true n 3 ((([c0,c1,c2,c3,c4,c5,c6]:List Value).drop 2).take (Tryz.prog.cellsOf 3))=([x0,x1,x2,x3,x4,x5,x6])[2]?:=hall 2 _ rfl
      rw[show Tryz.prog.cellsOf 3=1 from by kernel_rfl]at h
      exact h
     have s:DataW.trod enc Tryz.prog w base (fun _=>true) true n 9 [c3]=some x3:=by
      have h:DataW.trod enc Tryz.prog w base (fun _=>true) true n 9 ((([c0,c1,c2,c3,c4,c5,c6]:List Value).drop 3).take (Tryz.prog.cellsOf 9))=([x0,x1,x2,x3,x4,x5,x6])[3]?:=hall 3 _ rfl
      rw[show Tryz.prog.cellsOf 9=1 from by kernel_rfl]at h
      exact h
     have p:DataW.trod enc Tryz.prog w base (fun _=>true) true n 2 [c4]=some x4:=by
      have h:DataW.trod enc Tryz.prog w base (fun _=>true) true n 2 ((([c0,c1,c2,c3,c4,c5,c6]:List Value).drop 4).take (Tryz.prog.cellsOf 2))=([x0,x1,x2,x3,x4,x5,x6])[4]?:=hall 4 _ rfl
      rw[show Tryz.prog.cellsOf 2=1 from by kernel_rfl]at h
      exact h
     have F:DataW.trod enc Tryz.prog w base (fun _=>true) true n 2 [c5]=some x5:=by
      have h:DataW.trod enc Tryz.prog w base (fun _=>true) true n 2 ((([c0,c1,c2,c3,c4,c5,c6]:List Value).drop 5).take (Tryz.prog.cellsOf 2))=([x0,x1,x2,x3,x4,x5,x6])[5]?:=hall 5 _ rfl
      rw[show Tryz.prog.cellsOf 2=1 from by kernel_rfl]at h
      exact h
     have G:DataW.trod enc Tryz.prog w base (fun _=>true) true n 2 [c6]=some x6:=by
      have h:DataW.trod enc Tryz.prog w base (fun _=>true) true n 2 ((([c0,c1,c2,c3,c4,c5,c6]:List Value).drop 6).take (Tryz.prog.cellsOf 2))=([x0,x1,x2,x3,x4,x5,x6])[6]?:=hall 6 _ rfl
      rw[show Tryz.prog.cellsOf 2=1 from by kernel_rfl]at h
      exact h
     obtain⟨q,o,_,E⟩:=DataW.trod_int Tryz.underlying2 u
     obtain⟨a,g,_,B⟩:=DataW.trod_int Tryz.underlying2 C
     obtain⟨k,j,_,A⟩:=DataW.trod_int Tryz.underlying3 v
     obtain⟨b,f,_,D⟩:=DataW.trod_string Tryz.underlying9 s
     obtain⟨x,i,_,I⟩:=DataW.trod_int Tryz.underlying2 p
     obtain⟨y,e,_,t⟩:=DataW.trod_int Tryz.underlying2 F
     obtain⟨z,l,_,r⟩:=DataW.trod_int Tryz.underlying2 G
     simp only[List.cons.injEq,and_true]at o g j f i e l
     subst o g j f i e l
     exact⟨q,a,k,b,x,y,z,rfl,E,B,A,D,I,t,r⟩
end
end
section
open Go.ChangeShapes Go.WideShapes Go.ChangeAt Go.RowKit Go.Deep
def aG (evs:List Evt):List Value:=evs.flatMap (fun e=>(evA e).toList)
theorem jn (e:Evt) (l:List Evt):aG (e::l)=(evA e).toList++aG l:=by simp[aG]
theorem oD (a b:List Evt):aG (a++b)=aG a++aG b:=by simp[aG]
theorem jP (evs:List Evt):(aG evs).length=evs.length*7:=by
 induction evs with
 | nil=>rfl
 | cons e l ih=>rw[jn,List.length_append,ih,List.length_cons];simp;omega
theorem Ap:∀ (evs:List Evt) (i:Nat) (e:Evt),evs[i]?=some e → ∀ j u,(evA e)[j]?=some u→(aG evs)[i*7+j]?=some u
 | [],i,e,h,_,_,_=>by simp at h
 | x::l,0,e,h,j,u,hu=>by
   simp at h;subst h
   rw[jn,Nat.zero_mul,Nat.zero_add]
   have a:j<7:=by
    rcases Nat.lt_or_ge j 7 with h | h
    ·exact h
    ·rw[Array.getElem?_eq_none (by simpa using h)]at hu;cases hu
   rw[List.getElem?_append_left (by simpa using a)]
   simpa using hu
 | x::l,i+1,e,h,j,u,hu=>by
   rw[jn,List.getElem?_append_right (by simp;omega)]
   rw[show(i+1)*7+j-(evA x).toList.length=i*7+j from by simp;omega]
   exact Ap l i e (by simpa using h) j u hu
theorem zJ {w:World} {B n i:Nat} {A:Option Addr} {evs:List Evt} (h:Reads w B 7 A n (aG evs)) (s:i<n):
 ∃ (ad:Addr) (e:Evt),A=some ad∧ad.block<B∧evs[i]?=some e∧w.cell? (ad.add (i*7))=some (.int .i64 e.q)∧w.cell? ⟨(ad.add (i*7)).block,(ad.add (i*7)).off+1,none⟩=some (.int .i64 e.a)∧w.cell? ⟨(ad.add (i*7)).block,(ad.add (i*7)).off+2,none⟩=some (.int .i64 e.k)∧w.cell? ⟨(ad.add (i*7)).block,(ad.add (i*7)).off+3,none⟩=some (.string e.cm)∧w.cell? ⟨(ad.add (i*7)).block,(ad.add (i*7)).off+4,none⟩=some (.int .i64 e.x)∧w.cell? ⟨(ad.add (i*7)).block,(ad.add (i*7)).off+5,none⟩=some (.int .i64 e.y)∧w.cell? ⟨(ad.add (i*7)).block,(ad.add (i*7)).off+6,none⟩=some (.int .i64 e.z):=by
 have t:evs.length=n:=by have:=h.1;rw[jP]at this;omega
 obtain⟨ad,rfl,p,o⟩:=h.2 (by omega)
 obtain⟨e,l⟩:∃ e,evs[i]?=some e:=⟨_,List.getElem?_eq_getElem (by omega)⟩
 have q:∀ j u,(evA e)[j]?=some u→w.cell? ((ad.add (i*7)).add j)=some u:=fun j u r=>by rw[cN];exact o _ u (Ap evs i e l j u r)
 have d:=q 1 _ rfl
 rw[gD _ 1 (by omega)]at d
 have m:=q 2 _ rfl
 rw[gD _ 2 (by omega)]at m
 have f:=q 3 _ rfl
 rw[gD _ 3 (by omega)]at f
 have c:=q 4 _ rfl
 rw[gD _ 4 (by omega)]at c
 have g:=q 5 _ rfl
 rw[gD _ 5 (by omega)]at g
 have b:=q 6 _ rfl
 rw[gD _ 6 (by omega)]at b
 exact⟨ad,e,rfl,p,l,q 0 _ rfl,d,m,f,c,g,b⟩
theorem Reads.ev_len {w:World} {B n:Nat} {A:Option Addr} {evs:List Evt} (h:Reads w B 7 A n (aG evs)):evs.length=n:=by have:=h.1;rw[jP]at this;omega
section
variable {H:Type} {enc:TypeId×Value→H}
end
end
section
open Go.RowKit
theorem uS (a b:Nat) (c:a<9223372036854775808) (e:b<9223372036854775808):bits .or .i64 (a:Int) (b:Int)=((a ||| b:Nat):Int):=by
 have f:a ||| b<2^63:=Nat.or_lt_two_pow (by omega) (by omega)
 have d:∀ a:Nat,a<9223372036854775808→(BitVec.ofInt 64 (a:Int)).toNat=a:=fun a c=>by
  rw[BitVec.ofInt_natCast,BitVec.toNat_ofNat];exact Nat.mod_eq_of_lt (by omega)
 show IntKind.i64.wrap ((BitVec.ofInt 64 (a:Int) ||| BitVec.ofInt 64 (b:Int)).toNat:Int)=_
 rw[BitVec.toNat_or,d a c,d b e,IntKind.wrap_i64]
 omega
theorem EE (a b:Nat) (c:b<256):a*256 ||| b=256*a+b:=by
 have h:=Nat.two_pow_add_eq_or_of_lt (i:=8) (b:=b) (by omega) a
 rw[show a*256=2^8*a from by omega,←h]
theorem iL (a b:UInt8):bits .or .i64 ((a.toNat:Int)*256) (b.toNat:Int)=((256*a.toNat+b.toNat:Nat):Int):=by
 have d:=a.toNat_lt
 have c:=b.toNat_lt
 rw[show(a.toNat:Int)*256=((a.toNat*256:Nat):Int) from by omega,uS _ _ (by omega) (by omega),EE _ _ c]
theorem BZ (A:Option Addr) (n c:Nat) (at_:Int) (w:World) (h:at_<0∨(n:Int)<at_):
 Calls Tryz.prog 50 #[.slice A n c,.int .i64 at_] w fun e w'=>e = .returned (.tuple #[.int .i64 3,.int .i64 0,.slice none 0 0,.int .i64 0])∧w=w':=by
 by_cases a:at_<0
 ·have b:decide (at_<0)=true:=by simpa using a
  clear h
  go_enter Tryz.func50,Tryz.ntmps50
  go_wp2
  ((try simp only[Exit.inBlock,Exit.then]);refine bodyPost_ret (cA rfl _ _ _) rfl ?_)
  exact⟨rfl,rfl⟩
 ·have b:decide (at_<0)=false:=by simpa using a
  have d:decide ((n:Int)<at_)=true:=by simp;omega
  clear h
  go_enter Tryz.func50,Tryz.ntmps50
  go_wp2
  ((try simp only[Exit.inBlock,Exit.then]);refine bodyPost_ret (cA rfl _ _ _) rfl ?_)
  exact⟨rfl,rfl⟩
theorem AT (A:Option Addr) (n c:Nat) (w:World) (b:n≤c):
 Calls Tryz.prog 50 #[.slice A n c,.int .i64 (n:Int)] w fun e w'=>e = .returned (.tuple #[.int .i64 1,.int .i64 0,.slice none 0 0,.int .i64 0])∧w=w':=by
 by_cases a:c=n
 ·subst a
  go_enter Tryz.func50,Tryz.ntmps50
  go_wp2
  ((try simp only[Exit.inBlock,Exit.then]);refine bodyPost_ret (cA rfl _ _ _) rfl ?_)
  exact⟨rfl,rfl⟩
 ·go_enter Tryz.func50,Tryz.ntmps50
  go_wp2
  ((try simp only[Exit.inBlock,Exit.then]);refine bodyPost_ret (cA rfl _ _ _) rfl ?_)
  exact⟨rfl,rfl⟩
theorem Ad (A:Option Addr) (a m b:Nat) (w:World) (k:0<m) (j:m<7) (f:m≤b) (h:a+b≤9223372036854775807):
 Calls Tryz.prog 50 #[.slice A (a+m) (a+b),.int .i64 (a:Int)] w fun e w'=>e = .returned (.tuple #[.int .i64 2,.int .i64 0,.slice none 0 0,.int .i64 0])∧w=w':=by
 have d:¬ b=0:=by omega
 have i:decide (((a+m:Nat):Int)<(a:Int))=false:=by simp;omega
 have c:((m:Int) == 0)=false:=by rw[beq_eq_false_iff_ne];omega
 have g:decide ((m:Int)<7)=true:=by simp;omega
 go_enter Tryz.func50,Tryz.ntmps50
 go_wp2
 ((try simp only[Exit.inBlock,Exit.then]);refine bodyPost_ret (cA rfl _ _ _) rfl ?_)
 exact⟨rfl,rfl⟩
theorem Ch (ad:Addr) (a m n:Nat) (bs:List UInt8) (l g t:UInt8) (B:Nat) (w:World) (N:7≤m) (H:m≤10000) (z:m≤n) (G:a+n≤9223372036854775807)
 (h:Reads w B 1 (some ad) (a+m) (byteCells bs)) (hB:B≤w.heap.size) (u:bs[a]?=some l) (v:bs[a+1]?=some g) (x:bs[a+2]?=some t) (q:Nat) (s:256*l.toNat+g.toNat=q) (K:200<q):
 Calls Tryz.prog 50 #[.slice (some ad) (a+m) (a+n),.int .i64 (a:Int)] w fun e w'=>e = .returned (.tuple #[.int .i64 3,.int .i64 0,.slice none 0 0,.int .i64 0])∧Below w.heap.size w w':=by
 obtain⟨ad',i⟩:∃ ad',ad.add a=ad':=⟨_,rfl⟩
 obtain⟨f,_,j,_,d,c0⟩:=h.byte_at (k:=a) (by omega)
 cases j
 rw[u]at d;cases d
 obtain⟨f,_,j,_,c,o⟩:=h.byte_at (k:=a+1) (by omega)
 cases j
 rw[v]at c;cases c
 obtain⟨f,_,j,_,b,p⟩:=h.byte_at (k:=a+2) (by omega)
 cases j
 rw[x]at b;cases b
 rw[i]at c0
 rw[←cN,i]at o p
 have J:=Lib.hid h
 clear h u v x
 have F:w.cell? ⟨ad'.block,ad'.off+1,none⟩=some (.int .u8 (g.toNat:Int)):=o
 have C:w.cell? ⟨ad'.block,ad'.off+2,none⟩=some (.int .u8 (t.toNat:Int)):=p
 clear o p
 have r:=iL l g
 rw[s]at r
 have d:=l.toNat_lt
 have c:=g.toNat_lt
 have b:=t.toNat_lt
 have D:q<65536:=by omega
 have I:=Lib.hid s
 clear s
 have A:¬ n=0:=by omega
 have M:decide (((a+m:Nat):Int)<(a:Int))=false:=by simp;omega
 have y:((m:Int) == 0)=false:=by rw[beq_eq_false_iff_ne];omega
 have E:decide ((m:Int)<7)=false:=by simp;omega
 have L:decide ((200:Int)<(q:Int))=true:=by simp;omega
 go_enter Tryz.func50,Tryz.ntmps50
 go_wp2
 go_quiet (fail)
 go_wp2
 ((try simp only[Exit.inBlock,Exit.then]);refine bodyPost_ret (cA rfl _ _ _) rfl ?_)
 exact⟨rfl,below_drewN (Below.refl _ _) _⟩
theorem yR (ad:Addr) (a m n:Nat) (bs:List UInt8) (l g t:UInt8) (B:Nat) (w:World) (P:7≤m) (J:m≤10000) (A:m≤n) (H:a+n≤9223372036854775807)
 (h:Reads w B 1 (some ad) (a+m) (byteCells bs)) (hB:B≤w.heap.size) (u:bs[a]?=some l) (v:bs[a+1]?=some g) (x:bs[a+2]?=some t) (q:Nat) (s:256*l.toNat+g.toNat=q) (M:q≤200) (z:m<q+7):
 Calls Tryz.prog 50 #[.slice (some ad) (a+m) (a+n),.int .i64 (a:Int)] w fun e w'=>e = .returned (.tuple #[.int .i64 2,.int .i64 0,.slice none 0 0,.int .i64 0])∧Below w.heap.size w w':=by
 obtain⟨ad',i⟩:∃ ad',ad.add a=ad':=⟨_,rfl⟩
 obtain⟨f,_,j,_,d,c0⟩:=h.byte_at (k:=a) (by omega)
 cases j
 rw[u]at d;cases d
 obtain⟨f,_,j,_,c,o⟩:=h.byte_at (k:=a+1) (by omega)
 cases j
 rw[v]at c;cases c
 obtain⟨f,_,j,_,b,p⟩:=h.byte_at (k:=a+2) (by omega)
 cases j
 rw[x]at b;cases b
 rw[i]at c0
 rw[←cN,i]at o p
 have L:=Lib.hid h
 clear h u v x
 have G:w.cell? ⟨ad'.block,ad'.off+1,none⟩=some (.int .u8 (g.toNat:Int)):=o
 have D:w.cell? ⟨ad'.block,ad'.off+2,none⟩=some (.int .u8 (t.toNat:Int)):=p
 clear o p
 have r:=iL l g
 rw[s]at r
 have d:=l.toNat_lt
 have c:=g.toNat_lt
 have b:=t.toNat_lt
 have E:q<65536:=by omega
 have K:=Lib.hid s
 clear s
 have C:¬ n=0:=by omega
 have O:decide (((a+m:Nat):Int)<(a:Int))=false:=by simp;omega
 have y:((m:Int) == 0)=false:=by rw[beq_eq_false_iff_ne];omega
 have F:decide ((m:Int)<7)=false:=by simp;omega
 have N:decide ((200:Int)<(q:Int))=false:=by simp;omega
 have I:decide ((m:Int)<(q:Int)+7)=true:=by simp;omega
 go_enter Tryz.func50,Tryz.ntmps50
 go_wp2
 go_quiet (fail)
 go_wp2
 ((try simp only[Exit.inBlock,Exit.then]);refine bodyPost_ret (cA rfl _ _ _) rfl ?_)
 exact⟨rfl,below_drewN (Below.refl _ _) _⟩
theorem yB (ad:Addr) (a m o:Nat) (bs:List UInt8) (n g l:UInt8) (B:Nat) (w:World) (S:7≤m) (L:m≤10000) (C:m≤o) (J:a+o≤9223372036854775807)
 (h:Reads w B 1 (some ad) (a+m) (byteCells bs)) (hB:B≤w.heap.size) (u:bs[a]?=some n) (x:bs[a+1]?=some g) (y:bs[a+2]?=some l) (q:Nat) (t:256*n.toNat+g.toNat=q) (P:q≤200) (A:q+7≤m) (v:(l.toNat:Int)<1∨3<(l.toNat:Int)):
 Calls Tryz.prog 50 #[.slice (some ad) (a+m) (a+o),.int .i64 (a:Int)] w fun e w'=>e = .returned (.tuple #[.int .i64 3,.int .i64 0,.slice none 0 0,.int .i64 0])∧Below w.heap.size w w':=by
 obtain⟨ad',i⟩:∃ ad',ad.add a=ad':=⟨_,rfl⟩
 obtain⟨f,_,j,_,d,c0⟩:=h.byte_at (k:=a) (by omega)
 cases j
 rw[u]at d;cases d
 obtain⟨f,_,j,_,c,p⟩:=h.byte_at (k:=a+1) (by omega)
 cases j
 rw[x]at c;cases c
 obtain⟨f,_,j,_,b,r⟩:=h.byte_at (k:=a+2) (by omega)
 cases j
 rw[y]at b;cases b
 rw[i]at c0
 rw[←cN,i]at p r
 have O:=Lib.hid h
 clear h u x y
 have I:w.cell? ⟨ad'.block,ad'.off+1,none⟩=some (.int .u8 (g.toNat:Int)):=p
 have E:w.cell? ⟨ad'.block,ad'.off+2,none⟩=some (.int .u8 (l.toNat:Int)):=r
 clear p r
 have s:=iL n g
 rw[t]at s
 have d:=n.toNat_lt
 have c:=g.toNat_lt
 have b:=l.toNat_lt
 have F:q<65536:=by omega
 have M:=Lib.hid t
 clear t
 have D:¬ o=0:=by omega
 have R:decide (((a+m:Nat):Int)<(a:Int))=false:=by simp;omega
 have z:((m:Int) == 0)=false:=by rw[beq_eq_false_iff_ne];omega
 have G:decide ((m:Int)<7)=false:=by simp;omega
 have H:=Lib.hid v;clear v
 have Q:decide ((200:Int)<(q:Int))=false:=by simp;omega
 have K:decide ((m:Int)<(q:Int)+7)=false:=by simp;omega
 go_enter Tryz.func50,Tryz.ntmps50
 go_wp2
 go_quiet (fail)
 go_wp2_with fail
 refine(xW _ _ H.out).mono ?_
 rintro e N ⟨rfl,rfl⟩
 go_wp2
 ((try simp only[Exit.inBlock,Exit.then]);refine bodyPost_ret (cA rfl _ _ _) rfl ?_)
 exact⟨rfl,below_drewN (Below.refl _ _) _⟩
theorem yP (t:Nat→Nat) (h:∀ i,i<256→t i<4294967296) (A:Option Addr) (n m c B:Nat) (bs:List UInt8) (w:World) (b:n=m+4) (g:Reads w B 1 A n (byteCells bs)) (hB:B≤w.heap.size) (f:n≤c) (hn:n≤900000) (d:c≤9223372036854775807) (a:(hO t (bs.take m) == bs)=true):
 Calls Tryz.prog 109 #[.agg (bG t),.slice A n c] w fun e w'=>e = .returned (.tuple #[.slice A m m,.int .i64 0])∧Below w.heap.size w w':=by
 subst b
 exact se t h A m c B bs w g hB f (by omega) d true a
theorem uF (t:Nat→Nat) (h:∀ i,i<256→t i<4294967296) (A:Option Addr) (n m c B:Nat) (bs:List UInt8) (w:World) (b:n=m+4) (g:Reads w B 1 A n (byteCells bs)) (hB:B≤w.heap.size) (f:n≤c) (hn:n≤900000) (d:c≤9223372036854775807) (a:(hO t (bs.take m) == bs)=false):
 Calls Tryz.prog 109 #[.agg (bG t),.slice A n c] w fun e w'=>e = .returned (.tuple #[.slice none 0 0,.int .i64 12])∧Below w.heap.size w w':=by
 subst b
 exact se t h A m c B bs w g hB f (by omega) d false a
theorem Bh (ad:Addr) (a m cm:Nat) (bs:List UInt8) (s j r:UInt8) (B:Nat) (w:World) (h7:7≤m) (hm:m≤10000) (N:m≤cm) (ac:a+cm≤9223372036854775807)
 (n:Reads w B 1 (some ad) (a+m) (byteCells bs)) (hB:B≤w.heap.size) (F:bs[a]?=some s) (G:bs[a+1]?=some j) (J:bs[a+2]?=some r) (q:Nat) (D:256*s.toNat+j.toNat=q) (hp:q≤200) (M:q+7≤m) (y:1≤(r.toNat:Int)) (t:(r.toNat:Int)≤3) (H:(hO ef (((bs.drop a).take (q+7)).take (q+3)) == (bs.drop a).take (q+7))=false):
 Calls Tryz.prog 50 #[.slice (some ad) (a+m) (a+cm),.int .i64 (a:Int)] w fun e w'=>e = .returned (.tuple #[.int .i64 3,.int .i64 0,.slice none 0 0,.int .i64 0])∧Below w.heap.size w w':=by
 obtain⟨ad',d⟩:∃ ad',ad.add a=ad':=⟨_,rfl⟩
 obtain⟨i,_,p,_,g,c0⟩:=n.byte_at (k:=a) (by omega)
 cases p
 rw[F]at g;cases g
 obtain⟨i,_,p,_,f,x⟩:=n.byte_at (k:=a+1) (by omega)
 cases p
 rw[G]at f;cases f
 obtain⟨i,_,p,_,c,z⟩:=n.byte_at (k:=a+2) (by omega)
 cases p
 rw[J]at c;cases c
 rw[d]at c0
 rw[←cN,d]at x z
 have U:=Lib.hid n
 clear n F G J
 have Z:w.cell? ⟨ad'.block,ad'.off+1,none⟩=some (.int .u8 (j.toNat:Int)):=x
 have Q:w.cell? ⟨ad'.block,ad'.off+2,none⟩=some (.int .u8 (r.toNat:Int)):=z
 clear x z
 have A:=iL s j
 rw[D]at A
 have g:=s.toNat_lt
 have f:=j.toNat_lt
 have c:=r.toNat_lt
 have V:q<65536:=by omega
 have HQ:=Lib.hid D
 clear D
 have O:¬ cm=0:=by omega
 have hd:decide (((a+m:Nat):Int)<(a:Int))=false:=by simp;omega
 have L:((m:Int) == 0)=false:=by rw[beq_eq_false_iff_ne];omega
 have X:decide ((m:Int)<7)=false:=by simp;omega
 have R:=Lib.hid H;clear H
 have h2:decide ((200:Int)<(q:Int))=false:=by simp;omega
 have h3:decide ((m:Int)<(q:Int)+7)=false:=by simp;omega
 have E:=Lib.hid (show Reads w B 1 (some ad') (q+7) (byteCells ((bs.drop a).take (q+7))) from by
  have h:=(U.out.sufB (k:=a) (cap:=a+cm) (by omega) (by omega)).preB (k:=q+7) (by omega)
  rw[if_neg (by omega),Option.map_some,d]at h
  exact h)
 have v:q+7≤cm:=by omega
 have I:(q:Int)+7≤(cm:Int):=by omega
 have ab:(0:Int)≤(q:Int)+7:=by omega
 have P:IntKind.i64.wrap ((q:Int)+7)=(q:Int)+7:=IntWalk.i64_in _ (by omega)
 have T:((q:Int)+7).toNat=q+7:=by omega
 go_enter Tryz.func50,Tryz.ntmps50
 go_wp2
 go_quiet (fail)
 go_wp2_with fail
 refine(lG _ _ y t).mono ?_
 rintro e w1 ⟨rfl,rfl⟩
 go_wp2_with fail
 generalize hW:w.drewN _=w0
 have C:=Lib.hid (show Below w.heap.size w w0 from by rw[←hW];exact below_drewN (Below.refl _ _) _)
 clear hW
 refine wp_region_noPanic ?_
 refine wp_region_held_drew (S:=fun W=>Below w.heap.size w W) (by kernel_rfl) C.out.drew (fun b=>?_)
 refine tS 1 b ?_
 refine tS 2 b ?_
 refine tS 3 b ?_
 refine wpAnyH_ready (rs:=[0]) (by kernel_rfl) (by simp) ?_
 refine AllReadyH.cons rfl (fun K hK=>?_) AllReadyH.nil
 go_simp
 refine(oq _).mono ?_
 rintro e w2 ⟨rfl,o⟩
 refine hK.out _ _ (b.trans (o.mono (Below.size b))) (fun b=>?_)
 clear hK K
 try simp only[Act.put,sI,sZ,sS]
 refine wpAnyH_ready (rs:=[4]) (by kernel_rfl) (by simp) ?_
 refine AllReadyH.cons rfl (fun K hK=>?_) AllReadyH.nil
 go_simp
 refine(uF ef Ez (some ad') (q+7) (q+3) cm B ((bs.drop a).take (q+7)) _ rfl (E.out.below (Below.mono b hB)) (Nat.le_trans hB (Below.size b)) v (by omega) (by omega) R.out).mono ?_
 rintro e Y ⟨rfl,l⟩
 refine hK.out _ _ (b.trans (l.mono (Below.size b))) (fun b=>?_)
 clear hK K
 try simp only[Act.put,sI,sZ,sS]
 refine tS 5 b ?_
 refine tS 6 b ?_
 refine tS 7 b ?_
 refine tS 8 b ?_
 refine tS 9 b ?_
 refine wpAnyH_done (by kernel_rfl) ?_ _
 refine NoPanic.normal ?_
 have u:Hid (Below w.heap.size w Y):=b
 clear b o l
 go_wp2
 ((try simp only[Exit.inBlock,Exit.then]);refine bodyPost_ret (cA rfl _ _ _) rfl ?_)
 exact⟨rfl,u.out⟩
theorem zA (ad:Addr) (a m cm:Nat) (bs:List UInt8) (x p n:UInt8) (B:Nat) (w:World) (h7:7≤m) (hm:m≤10000) (Q:m≤cm) (ag:a+cm≤9223372036854775807)
 (s:Reads w B 1 (some ad) (a+m) (byteCells bs)) (hB:B≤w.heap.size) (H:bs[a]?=some x) (I:bs[a+1]?=some p) (N:bs[a+2]?=some n) (q:Nat) (G:256*x.toNat+p.toNat=q) (hp:q≤200) (P:q+7≤m) (C:1≤(n.toNat:Int)) (y:(n.toNat:Int)≤3) (L:(hO ef (((bs.drop a).take (q+7)).take (q+3)) == (bs.drop a).take (q+7))=true):
 Calls Tryz.prog 50 #[.slice (some ad) (a+m) (a+cm),.int .i64 (a:Int)] w fun e w' => ∃ A',e = .returned (.tuple #[.int .i64 0,.int .i64 (n.toNat:Int),.slice A' q q,.int .i64 ((q:Int)+7)])∧Reads w' B 1 A' q (byteCells ((bs.drop (a+3)).take q))∧Below w.heap.size w w':=by
 obtain⟨ad',g⟩:∃ ad',ad.add a=ad':=⟨_,rfl⟩
 obtain⟨o,_,u,_,j,c0⟩:=s.byte_at (k:=a) (by omega)
 cases u
 rw[H]at j;cases j
 obtain⟨o,_,u,_,i,A⟩:=s.byte_at (k:=a+1) (by omega)
 cases u
 rw[I]at i;cases i
 obtain⟨o,_,u,_,d,D⟩:=s.byte_at (k:=a+2) (by omega)
 cases u
 rw[N]at d;cases d
 rw[g]at c0
 rw[←cN,g]at A D
 have Y:=Lib.hid s
 clear s H I N
 have ac:w.cell? ⟨ad'.block,ad'.off+1,none⟩=some (.int .u8 (p.toNat:Int)):=A
 have U:w.cell? ⟨ad'.block,ad'.off+2,none⟩=some (.int .u8 (n.toNat:Int)):=D
 clear A D
 have E:=iL x p
 rw[G]at E
 have j:=x.toNat_lt
 have i:=p.toNat_lt
 have d:=n.toNat_lt
 have Z:q<65536:=by omega
 have HQ:=Lib.hid G
 clear G
 have R:¬ cm=0:=by omega
 have hd:decide (((a+m:Nat):Int)<(a:Int))=false:=by simp;omega
 have O:((m:Int) == 0)=false:=by rw[beq_eq_false_iff_ne];omega
 have ab:decide ((m:Int)<7)=false:=by simp;omega
 have V:=Lib.hid L;clear L
 have h2:decide ((200:Int)<(q:Int))=false:=by simp;omega
 have h3:decide ((m:Int)<(q:Int)+7)=false:=by simp;omega
 have v:=Lib.hid (show Reads w B 1 (some ad') (q+7) (byteCells ((bs.drop a).take (q+7))) from by
  have h:=(Y.out.sufB (k:=a) (cap:=a+cm) (by omega) (by omega)).preB (k:=q+7) (by omega)
  rw[if_neg (by omega),Option.map_some,g]at h
  exact h)
 have z:q+7≤cm:=by omega
 have M:(q:Int)+7≤(cm:Int):=by omega
 have ae:(0:Int)≤(q:Int)+7:=by omega
 have T:IntKind.i64.wrap ((q:Int)+7)=(q:Int)+7:=IntWalk.i64_in _ (by omega)
 have X:((q:Int)+7).toNat=q+7:=by omega
 go_enter Tryz.func50,Tryz.ntmps50
 go_wp2
 go_quiet (fail)
 go_wp2_with fail
 refine(lG _ _ C y).mono ?_
 rintro e w1 ⟨rfl,rfl⟩
 go_wp2_with fail
 generalize hW:w.drewN _=w0
 have F:=Lib.hid (show Below w.heap.size w w0 from by rw[←hW];exact below_drewN (Below.refl _ _) _)
 clear hW
 refine wp_region_noPanic ?_
 refine wp_region_held_drew (S:=fun W=>Below w.heap.size w W) (by kernel_rfl) F.out.drew (fun b=>?_)
 refine tS 1 b ?_
 refine tS 2 b ?_
 refine tS 3 b ?_
 refine wpAnyH_ready (rs:=[0]) (by kernel_rfl) (by simp) ?_
 refine AllReadyH.cons rfl (fun K hK=>?_) AllReadyH.nil
 go_simp
 refine(oq _).mono ?_
 rintro e w2 ⟨rfl,t⟩
 refine hK.out _ _ (b.trans (t.mono (Below.size b))) (fun b=>?_)
 clear hK K
 try simp only[Act.put,sI,sZ,sS]
 refine wpAnyH_ready (rs:=[4]) (by kernel_rfl) (by simp) ?_
 refine AllReadyH.cons rfl (fun K hK=>?_) AllReadyH.nil
 go_simp
 refine(yP ef Ez (some ad') (q+7) (q+3) cm B ((bs.drop a).take (q+7)) _ rfl (v.out.below (Below.mono b hB)) (Nat.le_trans hB (Below.size b)) z (by omega) (by omega) V.out).mono ?_
 rintro e J ⟨rfl,r⟩
 refine hK.out _ _ (b.trans (r.mono (Below.size b))) (fun b=>?_)
 clear hK K
 try simp only[Act.put,sI,sZ,sS]
 refine tS 5 b ?_
 refine tS 6 b ?_
 refine tS 7 b ?_
 refine tS 8 b ?_
 refine tS 9 b ?_
 refine wpAnyH_done (by kernel_rfl) ?_ _
 refine NoPanic.normal ?_
 have f:Hid (Below w.heap.size w J):=b
 clear b t r
 have c:=Lib.hid (show Reads J B 1 (if q=0 then some ad' else some (ad'.add 3)) q (byteCells ((bs.drop (a+3)).take q)) from by
  have h:=((v.out.below (f.out.mono hB)).preB (k:=q+3) (by omega)).sufB (k:=3) (cap:=q+3) (by omega) (by omega)
  rw[List.take_take,Nat.min_eq_left (by omega),←List.drop_drop]at *
  rw[show q+3-3=q from by omega]at h
  rw[show(List.take q (List.drop 3 (List.drop a bs)))=List.drop 3 (List.take (q+3) (List.drop a bs)) from by rw[List.drop_take];congr 1]
  by_cases l:q=0
  ·rw[if_pos l];rw[if_pos (by omega)]at h;exact h
  ·rw[if_neg l];rw[if_neg (by omega)]at h;exact h)
 by_cases l:q=0
 ·rw[if_pos l]at c
  go_wp2
  go_quiet (fail)
  go_wp2
  ((try simp only[Exit.inBlock,Exit.then]);refine bodyPost_ret (cA rfl _ _ _) rfl ?_)
  exact⟨some ad',by rw[l];rfl,c.out,below_drewN f.out _⟩
 ·rw[if_neg l]at c
  go_wp2
  go_quiet (fail)
  go_wp2
  ((try simp only[Exit.inBlock,Exit.then]);refine bodyPost_ret (cA rfl _ _ _) rfl ?_)
  exact⟨_,rfl,c.out,below_drewN f.out _⟩
end
section
open Go.RowKit
def kZ:List UInt8→Nat ⊕ (UInt8×List UInt8)
 | []=>.inl 1
 | [_]=>.inl 2
 | [_,_]=>.inl 2
 | x0::x1::x2::t=>
   if t.length<4 then .inl 2
   else if 200<256*x0.toNat+x1.toNat then .inl 3
   else if t.length<256*x0.toNat+x1.toNat+4 then .inl 2
   else if(x2.toNat:Int)<1∨3<(x2.toNat:Int) then .inl 3
   else if av (x2.toNat:Int) (t.take (256*x0.toNat+x1.toNat)) == (x0::x1::x2::t).take (256*x0.toNat+x1.toNat+7) then .inr (x2,t.take (256*x0.toNat+x1.toNat)) else .inl 3
def eB (bs:List UInt8) (at_:Int):Nat ⊕ (UInt8×List UInt8):=if at_<0∨(bs.length:Int)<at_ then .inl 3 else kZ (bs.drop at_.toNat)
theorem oH (a b c:UInt8) (t:List UInt8):kZ (a::b::c::t)=if t.length<4 then .inl 2
 else if 200<256*a.toNat+b.toNat then .inl 3
 else if t.length<256*a.toNat+b.toNat+4 then .inl 2
 else if(c.toNat:Int)<1∨3<(c.toNat:Int) then .inl 3
 else if av (c.toNat:Int) (t.take (256*a.toNat+b.toNat)) == (a::b::c::t).take (256*a.toNat+b.toNat+7) then .inr (c,t.take (256*a.toNat+b.toNat)) else .inl 3:=rfl
theorem AB (r:List UInt8) (h:3≤r.length):∃ x0 x1 x2 t,r=x0::x1::x2::t:=by
 match r,h with
 | x0::x1::x2::t,_=>exact⟨x0,x1,x2,t,rfl⟩
theorem ud (x0 x1 x2:UInt8) (t:List UInt8) (q:Nat) (g:256*x0.toNat+x1.toNat=q) (b:q≤t.length):av (x2.toNat:Int) (t.take q)=hO ef (((x0::x1::x2::t).take (q+7)).take (q+3)):=by
 unfold av mN
 congr 1
 rw[List.take_take,Nat.min_eq_left (by omega),List.length_take,Nat.min_eq_left b]
 have e:=x0.toNat_lt
 have f:=x1.toNat_lt
 have a:UInt8.ofNat (q/256)=x0:=by
  apply UInt8.toNat_inj.1;simp;omega
 have c:UInt8.ofNat (q%256)=x1:=by
  apply UInt8.toNat_inj.1;simp;omega
 have d:UInt8.ofNat (x2.toNat:Int).toNat=x2:=by simp
 rw[a,c,d]
 rfl
theorem jS (k:Int) (p q:List UInt8) (g:1≤k) (f:k≤3) (h:p.length≤200):kZ (av k p++q) = .inr (UInt8.ofNat k.toNat,p):=by
 have e:av k p++q=UInt8.ofNat (p.length/256)::UInt8.ofNat (p.length%256)::UInt8.ofNat k.toNat::(p++(nP (uK ef 0 (bQ (mN p.length k++p)))++q)):=by
  unfold av hO mN
  simp
 have b:((UInt8.ofNat k.toNat).toNat:Int)=k:=by rw[gZ _ (by omega)];omega
 have d:256*(UInt8.ofNat (p.length/256)).toNat+(UInt8.ofNat (p.length%256)).toNat=p.length:=by simp;omega
 have i:(p++(nP (uK ef 0 (bQ (mN p.length k++p)))++q)).length=p.length+4+q.length:=by simp[jJ];omega
 have c:(p++(nP (uK ef 0 (bQ (mN p.length k++p)))++q)).take p.length=p:=by simp
 have a:(av k p++q).take (p.length+7)=av k p:=by rw[←bP k p];simp
 rw[e]at a ⊢
 rw[oH,d,if_neg (by omega),if_neg (by omega),if_neg (by omega),b,if_neg (by omega),c,a,if_pos (by simp)]
theorem sR (r:List UInt8) (a:UInt8) (p:List UInt8) (h:kZ r = .inr (a,p)):1≤(a.toNat:Int)∧(a.toNat:Int)≤3∧p.length≤200∧p.length+7≤r.length∧r.take (p.length+7)=av (a.toNat:Int) p:=by
 unfold kZ at h
 split at h
 ·cases h
 ·cases h
 ·cases h
 ·split at h
  ·cases h
  ·split at h
   ·cases h
   ·split at h
    ·cases h
    ·split at h
     ·cases h
     ·split at h
      ·rename_i c
       simp only[Sum.inr.injEq,Prod.mk.injEq]at h
       obtain⟨rfl,rfl⟩:=h
       rename_i d b a t j f i g
       have e:(t.take (256*d.toNat+b.toNat)).length=256*d.toNat+b.toNat:=by rw[List.length_take,Nat.min_eq_left (by omega)]
       rw[e]
       refine⟨by omega,by omega,by omega,by simp;omega,?_⟩
       rw[beq_iff_eq]at c
       exact c.symm
      ·cases h
theorem yN (r:List UInt8) (k:Nat) (h:kZ r = .inl k):1≤k∧k≤3∧(k=1 ↔ r = []):=by
 unfold kZ at h
 split at h
 ·cases h;simp
 ·cases h;simp
 ·cases h;simp
 ·split at h
  ·cases h;simp
  ·split at h
   ·cases h;simp
   ·split at h
    ·cases h;simp
    ·split at h
     ·cases h;simp
     ·split at h
      ·cases h
      ·cases h;simp
theorem iW (bs:List UInt8) (a:Nat) (h:a≤bs.length):eB bs (a:Int)=kZ (bs.drop a):=by
 unfold eB;rw[if_neg (by omega),Int.toNat_natCast]
theorem qj (bs:List UInt8) (at_:Int) (k:Nat) (h:eB bs at_ = .inl k):1≤k∧k≤3∧(k=1 ↔ at_=(bs.length:Int)):=by
 unfold eB at h
 split at h
 ·cases h
  refine⟨by omega,by omega,by omega⟩
 ·obtain⟨c,a,b⟩:=yN _ _ h
  refine⟨c,a,?_⟩
  rw[b,List.drop_eq_nil_iff]
  omega
theorem jQ (bs:List UInt8) (at_:Int) (a:UInt8) (p:List UInt8) (h:eB bs at_ = .inr (a,p)):0≤at_∧at_+p.length+7≤bs.length∧1≤(a.toNat:Int)∧(a.toNat:Int)≤3∧p.length≤200∧(bs.drop at_.toNat).take (p.length+7)=av (a.toNat:Int) p:=by
 unfold eB at h
 split at h
 ·cases h
 ·obtain⟨f,b,e,d,c⟩:=sR _ _ _ h
  rw[List.length_drop]at d
  exact⟨by omega,by omega,f,b,e,c⟩
def Er (s:Nat ⊕ (UInt8×List UInt8)) (B:Nat) (w:World) (e:Ending) (w':World):Prop:=
 Below w.heap.size w w'∧match s with
 | .inl k=>e = .returned (.tuple #[.int .i64 (k:Int),.int .i64 0,.slice none 0 0,.int .i64 0])
 | .inr (x,p) => ∃ A',e = .returned (.tuple #[.int .i64 0,.int .i64 (x.toNat:Int),.slice A' p.length p.length,.int .i64 ((p.length:Int)+7)])∧Reads w' B 1 A' p.length (byteCells p)
theorem Ey (A:Option Addr) (n c:Nat) (at_:Int) (bs:List UInt8) (B:Nat) (w:World) (g:Reads w B 1 A n (byteCells bs)) (hB:B≤w.heap.size) (G:n≤c) (b:c≤9223372036854775807) (hn:n≤10000):
 Calls Tryz.prog 50 #[.slice A n c,.int .i64 at_] w (Er (eB bs at_) B w):=by
 have J:=g.lenB
 by_cases I:at_<0∨(n:Int)<at_
 ·rw[show eB bs at_ = .inl 3 from by unfold eB;rw[if_pos (by omega)]]
  refine(BZ A n c at_ w I).mono ?_
  rintro e w' ⟨rfl,rfl⟩
  exact⟨Below.refl _ _,rfl⟩
 ·obtain⟨a,rfl⟩:∃ a:Nat,at_=(a:Int):=⟨at_.toNat,by omega⟩
  obtain⟨m,rfl⟩:∃ m,n=a+m:=⟨n-a,by omega⟩
  obtain⟨cm,rfl⟩:∃ cm,c=a+cm:=⟨c-a,by omega⟩
  rw[iW bs a (by omega)]
  have f:(bs.drop a).length=m:=by rw[List.length_drop];omega
  by_cases v:m=0
  ·subst v
   rw[show bs.drop a = [] from List.eq_nil_of_length_eq_zero f]
   refine(AT A a (a+cm) w (by omega)).mono ?_
   rintro e w' ⟨rfl,rfl⟩
   exact⟨Below.refl _ _,rfl⟩
  ·by_cases D:m<7
   ·have e:kZ (bs.drop a) = .inl 2:=by
     generalize bs.drop a=r at *
     match r,f with
     | [],h=>simp at h;omega
     | [_],_=>rfl
     | [_,_],_=>rfl
     | x0::x1::x2::t,h=>rw[oH,if_pos (by simp at h;omega)]
    rw[e]
    refine(Ad A a m cm w (by omega) D (by omega) b).mono ?_
    rintro e w' ⟨rfl,rfl⟩
    exact⟨Below.refl _ _,rfl⟩
   ·obtain⟨ad,rfl,_⟩:=g.2 (by omega)
    obtain⟨x0,x1,x2,t,i⟩:=AB (bs.drop a) (by omega)
    have E:∀ j,bs[a+j]?=(bs.drop a)[j]?:=fun j=>by rw[List.getElem?_drop]
    have o:bs[a]?=some x0:=by have:=E 0;rw[i]at this;simpa using this
    have p:bs[a+1]?=some x1:=by rw[E 1,i];rfl
    have u:bs[a+2]?=some x2:=by rw[E 2,i];rfl
    have C:bs.drop (a+3)=t:=by rw[←List.drop_drop,i];rfl
    have H:t.length+3=m:=by rw[i]at f;simpa using f
    obtain⟨q,k⟩:∃ q,256*x0.toNat+x1.toNat=q:=⟨_,rfl⟩
    have e:kZ (bs.drop a)=if t.length<4 then .inl 2 else if 200<q then .inl 3 else if t.length<q+4 then .inl 2 else if(x2.toNat:Int)<1∨3<(x2.toNat:Int) then .inl 3 else if av (x2.toNat:Int) (t.take q) == (bs.drop a).take (q+7) then .inr (x2,t.take q) else .inl 3:=by
     rw[i,←k];rfl
    rw[e,if_neg (by omega)]
    clear e
    by_cases z:200<q
    ·rw[if_pos z]
     refine(Ch ad a m cm bs x0 x1 x2 B w (by omega) (by omega) (by omega) b g hB o p u q k z).mono ?_
     rintro e w' ⟨rfl,d⟩
     exact⟨d,rfl⟩
    ·rw[if_neg z]
     by_cases F:t.length<q+4
     ·rw[if_pos F]
      refine(yR ad a m cm bs x0 x1 x2 B w (by omega) (by omega) (by omega) b g hB o p u q k (by omega) (by omega)).mono ?_
      rintro e w' ⟨rfl,d⟩
      exact⟨d,rfl⟩
     ·rw[if_neg F]
      by_cases x:(x2.toNat:Int)<1∨3<(x2.toNat:Int)
      ·rw[if_pos x]
       refine(yB ad a m cm bs x0 x1 x2 B w (by omega) (by omega) (by omega) b g hB o p u q k (by omega) (by omega) x).mono ?_
       rintro e w' ⟨rfl,d⟩
       exact⟨d,rfl⟩
      ·rw[if_neg x]
       have y:=ud x0 x1 x2 t q k (by omega)
       rw[←i]at y
       by_cases l:av (x2.toNat:Int) (t.take q) == (bs.drop a).take (q+7)
       ·rw[if_pos l]
        rw[y]at l
        refine(zA ad a m cm bs x0 x1 x2 B w (by omega) (by omega) (by omega) b g hB o p u q k (by omega) (by omega) (by omega) (by omega) l).mono ?_
        rintro e w' ⟨A',rfl,hR,d⟩
        rw[C]at hR
        have s:(t.take q).length=q:=by rw[List.length_take,Nat.min_eq_left (by omega)]
        refine⟨d,A',by rw[s],by rw[s];exact hR⟩
       ·rw[if_neg l]
        rw[y,Bool.not_eq_true]at l
        refine(Bh ad a m cm bs x0 x1 x2 B w (by omega) (by omega) (by omega) b g hB o p u q k (by omega) (by omega) (by omega) (by omega) l).mono ?_
        rintro e w' ⟨rfl,d⟩
        exact⟨d,rfl⟩
end
end Go.Proofs.YtpokkciheejeiaaGreatDoor
