/- Lemmas and contracts that the proof of TopCut uses, part 8 of 16: each is a theorem for every input that its premises allow. -/
import Derived.Lib.Walk
import Derived.Lib.AppendIntMem
import Derived.Shelf.Strconv.Itoa4
import Derived.Shelf.Strings.Repeat
import Derived.Shelf.Lay
import Derived.Test.YtpokkciheejeiaaGreatDoorChecked
import Derived.Lib.ParseIntB
import Derived.Shelf.Strconv.ParseIntPublic10
import Derived.Test.YtpokkciheejeiaaGreatDoorTuG
set_option linter.unusedVariables false
set_option linter.unusedSimpArgs false
set_option maxRecDepth 100000
namespace Go.Proofs.YtpokkciheejeiaaGreatDoor
section
open Go.RowKit
theorem oA {B:Nat} {w:World} {e:TypeId} {size n:Nat} {v:Value} {xs:List Value} (h:w.ownsRow 0 e size v n xs) (d:∀ g,v.ownBlock=some g→B≤g):w.ownsRow B e size v n xs:=by
 rcases h with⟨b,a | ⟨g,cap,cur,a,i,c,f⟩⟩
 ·exact⟨b,.inl a⟩
 ·subst a
  exact⟨b,.inr ⟨g,cap,cur,rfl,d g rfl,c,f⟩⟩
theorem GP {a b c a' b':Itm} {X:List Nat}:∀ t ∈ Exs [a',b',c]++X,t ∈ Exs [b',a']++(Exs [a,b,c]++X):=by
 intro t d
 rcases List.mem_append.1 d with d | d
 ·obtain⟨z,f,e⟩:=bh.1 d
  simp only[List.mem_cons,List.not_mem_nil,or_false]at f
  rcases f with rfl | rfl | rfl
  ·exact List.mem_append_left _ (bh.2 ⟨_,by simp,e⟩)
  ·exact List.mem_append_left _ (bh.2 ⟨_,by simp,e⟩)
  ·exact List.mem_append_right _ (List.mem_append_left _ (bh.2 ⟨z,by simp,e⟩))
 ·exact List.mem_append_right _ (List.mem_append_right _ d)
theorem aq.set_again {c W:World} {M b:List Nat} {L:List Itm} {F:List Fact} {i g:Nat} {t:TypeId} {cs:Array Value} (h:aq c M b W (L.set i (.box g t cs)) F) (a:i<L.length) (o:Nat) (u:Value):aq c M b (W.setCell ⟨g,o,none⟩ u) (L.set i (.box g t (cs.setIfInBounds o u))) F:=by
 have:=h.set_ i (List.getElem?_set_self a) o u
 rwa [List.set_set]at this
theorem aq.set10 {k W:World} {M j:List Nat} {L:List Itm} {F:List Fact} (h:aq k M j W L F) (i:Nat) {g:Nat} {t:TypeId} {I z w v u r b6 p n m:Value} (y:L[i]?=some (.box g t #[I,z,w,v,u,r,b6,p,n,m])) (a a1 b d e f l o q s:Value):aq k M j ((((((((((W.setCell ⟨g,0,none⟩ a).setCell ⟨g,1,none⟩ a1).setCell ⟨g,2,none⟩ b).setCell ⟨g,3,none⟩ d).setCell ⟨g,4,none⟩ e).setCell ⟨g,5,none⟩ f).setCell ⟨g,6,none⟩ l).setCell ⟨g,7,none⟩ o).setCell ⟨g,8,none⟩ q).setCell ⟨g,9,none⟩ s) (L.set i (.box g t #[a,a1,b,d,e,f,l,o,q,s])) F:=by
 have c:=(List.getElem?_eq_some_iff.1 y).1
 have C:aq k M j (W.setCell ⟨g,0,none⟩ a) (L.set i (.box g t #[a,z,w,v,u,r,b6,p,n,m])) F:=h.set_ i y 0 a
 have G:aq k M j ((W.setCell ⟨g,0,none⟩ a).setCell ⟨g,1,none⟩ a1) (L.set i (.box g t #[a,a1,w,v,u,r,b6,p,n,m])) F:=C.set_again c 1 a1
 have B:aq k M j (((W.setCell ⟨g,0,none⟩ a).setCell ⟨g,1,none⟩ a1).setCell ⟨g,2,none⟩ b) (L.set i (.box g t #[a,a1,b,v,u,r,b6,p,n,m])) F:=G.set_again c 2 b
 have D:aq k M j ((((W.setCell ⟨g,0,none⟩ a).setCell ⟨g,1,none⟩ a1).setCell ⟨g,2,none⟩ b).setCell ⟨g,3,none⟩ d) (L.set i (.box g t #[a,a1,b,d,u,r,b6,p,n,m])) F:=B.set_again c 3 d
 have A:aq k M j (((((W.setCell ⟨g,0,none⟩ a).setCell ⟨g,1,none⟩ a1).setCell ⟨g,2,none⟩ b).setCell ⟨g,3,none⟩ d).setCell ⟨g,4,none⟩ e) (L.set i (.box g t #[a,a1,b,d,e,r,b6,p,n,m])) F:=D.set_again c 4 e
 have E:aq k M j ((((((W.setCell ⟨g,0,none⟩ a).setCell ⟨g,1,none⟩ a1).setCell ⟨g,2,none⟩ b).setCell ⟨g,3,none⟩ d).setCell ⟨g,4,none⟩ e).setCell ⟨g,5,none⟩ f) (L.set i (.box g t #[a,a1,b,d,e,f,b6,p,n,m])) F:=A.set_again c 5 f
 have J:aq k M j (((((((W.setCell ⟨g,0,none⟩ a).setCell ⟨g,1,none⟩ a1).setCell ⟨g,2,none⟩ b).setCell ⟨g,3,none⟩ d).setCell ⟨g,4,none⟩ e).setCell ⟨g,5,none⟩ f).setCell ⟨g,6,none⟩ l) (L.set i (.box g t #[a,a1,b,d,e,f,l,p,n,m])) F:=E.set_again c 6 l
 have H:aq k M j ((((((((W.setCell ⟨g,0,none⟩ a).setCell ⟨g,1,none⟩ a1).setCell ⟨g,2,none⟩ b).setCell ⟨g,3,none⟩ d).setCell ⟨g,4,none⟩ e).setCell ⟨g,5,none⟩ f).setCell ⟨g,6,none⟩ l).setCell ⟨g,7,none⟩ o) (L.set i (.box g t #[a,a1,b,d,e,f,l,o,n,m])) F:=J.set_again c 7 o
 have h9:aq k M j (((((((((W.setCell ⟨g,0,none⟩ a).setCell ⟨g,1,none⟩ a1).setCell ⟨g,2,none⟩ b).setCell ⟨g,3,none⟩ d).setCell ⟨g,4,none⟩ e).setCell ⟨g,5,none⟩ f).setCell ⟨g,6,none⟩ l).setCell ⟨g,7,none⟩ o).setCell ⟨g,8,none⟩ q) (L.set i (.box g t #[a,a1,b,d,e,f,l,o,q,m])) F:=H.set_again c 8 q
 have x:aq k M j ((((((((((W.setCell ⟨g,0,none⟩ a).setCell ⟨g,1,none⟩ a1).setCell ⟨g,2,none⟩ b).setCell ⟨g,3,none⟩ d).setCell ⟨g,4,none⟩ e).setCell ⟨g,5,none⟩ f).setCell ⟨g,6,none⟩ l).setCell ⟨g,7,none⟩ o).setCell ⟨g,8,none⟩ q).setCell ⟨g,9,none⟩ s) (L.set i (.box g t #[a,a1,b,d,e,f,l,o,q,s])) F:=h9.set_again c 9 s
 exact x
abbrev AL (s:Scn) (ends:Int) (ve:Value) (An:Option Addr) (nn cn:Nat):Array Value:=#[.int .i64 s.num,.int .i64 s.bq,.int .i64 s.ba,.slice none 0 0,ve,.int .i64 s.c.q,.int .i64 s.c.a,.slice An nn cn,.int .i64 ends,.int .i64 s.size]
def Eg (r:Scn×Int) (X:List Nat) (w:World) (e:Ending) (w':World):Prop:=
 Below w.heap.size w w' ∧ ∃ ve An nn cn,e = .returned (.agg (AL r.1 r.2 ve An nn cn))∧w'.ownsRow w.heap.size 44 7 ve r.1.evs.length (aH r.1.evs)∧Sl af w' X An nn cn r.1.c.ns∧nn≤1000∧(∀ b ∈ X,ve.ownBlock≠some b)
set_option maxHeartbeats 2000000 in
theorem FW (A:Option Addr) (n c B:Nat) (bs:List UInt8) (X:List Nat) (w:World) (hX:XOk X w) (hr:Reads w B 1 A n (byteCells bs)) (hB:B≤w.heap.size) (hv:n≤c) (hx:c≤9223372036854775807) (hn:n≤10000):
 Calls Tryz.prog 14 #[.slice A n c] w (Eg (aT bs bP) X w):=by
 have HR:=Lib.hid hr
 have ia:=Lib.hid hr.lenB
 clear hr
 have HS0:∀ R,aT bs bP=R→Hid (R=aT bs bP):=fun _ h=>h.symm
 generalize hR:aT bs bP=R
 replace HS0:=HS0 _ hR
 clear hR
 have go:Hid (aq w [] X ((w.alloc (.cells #[.int .i64 0,.int .i64 0,.int .i64 0,.slice none 0 0,.slice none 0 0,.int .i64 0,.int .i64 0,.slice none 0 0,.int .i64 0,.int .i64 0] 54)).alloc (.cells #[.int .i64 0,.int .i64 0,.int .i64 0,.slice none 0 0,.slice none 0 0,.int .i64 0,.int .i64 0,.slice none 0 0,.int .i64 0,.int .i64 0,.bool false] 115)) [.box (w.heap.size+1) 115 #[.int .i64 0,.int .i64 0,.int .i64 0,.slice none 0 0,.slice none 0 0,.int .i64 0,.int .i64 0,.slice none 0 0,.int .i64 0,.int .i64 0,.bool false],.box (w.heap.size) 54 #[.int .i64 0,.int .i64 0,.int .i64 0,.slice none 0 0,.slice none 0 0,.int .i64 0,.int .i64 0,.slice none 0 0,.int .i64 0,.int .i64 0]] []):=(((aq.start w hX).alloc_at 54 #[.int .i64 0,.int .i64 0,.int .i64 0,.slice none 0 0,.slice none 0 0,.int .i64 0,.int .i64 0,.slice none 0 0,.int .i64 0,.int .i64 0] (w.heap.size) (by simp)).alloc_at 115 #[.int .i64 0,.int .i64 0,.int .i64 0,.slice none 0 0,.slice none 0 0,.int .i64 0,.int .i64 0,.slice none 0 0,.int .i64 0,.int .i64 0,.bool false] (w.heap.size+1) (by simp))
 go_enter Tryz.func14,Tryz.ntmps14
 go_wp2_with fail
 generalize w.heap.size+1=gs at go ⊢
 generalize w.heap.size=l at go ⊢
 have hl:Hid (aq w [] X ((w.alloc (.cells #[.int .i64 0,.int .i64 0,.int .i64 0,.slice none 0 0,.slice none 0 0,.int .i64 0,.int .i64 0,.slice none 0 0,.int .i64 0,.int .i64 0] 54)).alloc (.cells #[.int .i64 0,.int .i64 0,.int .i64 0,.slice none 0 0,.slice none 0 0,.int .i64 0,.int .i64 0,.slice none 0 0,.int .i64 0,.int .i64 0,.bool false] 115)) [.row 44 7 (.slice none 0 0) (0) ([]),.box (gs) 115 #[.int .i64 0,.int .i64 0,.int .i64 0,.slice none 0 0,.slice none 0 0,.int .i64 0,.int .i64 0,.slice none 0 0,.int .i64 0,.int .i64 0,.bool false],.box (l) 54 #[.int .i64 0,.int .i64 0,.int .i64 0,.slice none 0 0,.slice none 0 0,.int .i64 0,.int .i64 0,.slice none 0 0,.int .i64 0,.int .i64 0]] [Sl.fact af none 0 0 []]):=(go.out.nil_row 44 7).know (Sl.fact af none 0 0 []) Sl.nil_
 clear go
 go_loopg [] (n+1) (fun k wr => ∃ (s:Scn) (y:Option Addr) (v:Nat) (z:Option Addr) (nn C:Nat),s.size+(k:Int)=(n:Int)+1∧0≤s.size∧(s.evs.length:Int)≤s.size∧s.size≤(n:Int)∧(s.num≠0→aN s.c=true)∧nn≤1000∧Hid (R=aT bs s)∧Hid (aq w [] X wr [.row 44 7 ((.slice y s.evs.length v)) (s.evs.length) (aH s.evs),.box (gs) 115 (aX s (.slice y s.evs.length v) z nn C),.box (l) 54 #[.int .i64 0,.int .i64 0,.int .i64 0,.slice none 0 0,.slice none 0 0,.int .i64 0,.int .i64 0,.slice none 0 0,.int .i64 0,.int .i64 0]] [Sl.fact af z nn C s.c.ns]))
 case atStart=>exact⟨bP,none,0,none,0,0,by simp[bP],by simp[bP],by simp[bP],by simp[bP],fun h=>absurd rfl h,by omega,HS0,Lib.hid hl.out⟩
 case round=>
  clear hl HS0
  obtain⟨s,y,v,z,nn,C,hk,id,dy,ik,hq,hc,HS,u⟩:=hrel
  have O:wr.cell? ⟨gs,0,none⟩=some (.int .i64 s.num):=u.out.cell 1 rfl 0
  have N:wr.cell? ⟨gs,1,none⟩=some (.int .i64 s.bq):=u.out.cell 1 rfl 1
  have J:wr.cell? ⟨gs,2,none⟩=some (.int .i64 s.ba):=u.out.cell 1 rfl 2
  have M:wr.cell? ⟨gs,3,none⟩=some (.slice none 0 0):=u.out.cell 1 rfl 3
  have K:wr.cell? ⟨gs,4,none⟩=some (.slice y s.evs.length v):=u.out.cell 1 rfl 4
  have L:wr.cell? ⟨gs,5,none⟩=some (.int .i64 s.c.q):=u.out.cell 1 rfl 5
  have Q:wr.cell? ⟨gs,6,none⟩=some (.int .i64 s.c.a):=u.out.cell 1 rfl 6
  have H:wr.cell? ⟨gs,7,none⟩=some (.slice z nn C):=u.out.cell 1 rfl 7
  have I:wr.cell? ⟨gs,8,none⟩=some (.int .i64 0):=u.out.cell 1 rfl 8
  have G:wr.cell? ⟨gs,9,none⟩=some (.int .i64 s.size):=u.out.cell 1 rfl 9
  have E:wr.cell? ⟨gs,10,none⟩=some (.bool s.sealed):=u.out.cell 1 rfl 10
  go_wp2_with fail
  with_reducible refine(Fk A n c s.size bs B wr (HR.out.below (u.out.belowB hB (by simp))) (Nat.le_trans hB u.out.size) hv hx hn).mono ?_
  obtain⟨nx,gw⟩:∃ nx,dQ bs s.size=nx:=⟨_,rfl⟩
  rw[gw]
  have P:=Lib.hid gw
  clear gw
  rintro e r ⟨hb,hp⟩
  rcases nx with what | ⟨x,p⟩
  ·skip
   replace hp:e=_:=hp
   subst hp
   have b1:((what:Int) != 0)=true:=by have:=mY _ _ _ P.out;rw[bne_iff_ne];omega
   rw[gE P.out]at HS
   clear P
   clear O N J M K L Q H I G E
   have d:Hid (aq w [] X r [.row 44 7 ((.slice y s.evs.length v)) (s.evs.length) (aH s.evs),.box (gs) 115 (aX s (.slice y s.evs.length v) z nn C),.box (l) 54 #[.int .i64 0,.int .i64 0,.int .i64 0,.slice none 0 0,.slice none 0 0,.int .i64 0,.int .i64 0,.slice none 0 0,.int .i64 0,.int .i64 0]] [Sl.fact af z nn C s.c.ns]):=(u.out.on hb)
   clear u
   clear hb
   have ey:r.cell? ⟨gs,0,none⟩=some (.int .i64 s.num):=d.out.cell 1 rfl 0
   have bv:r.frozen? ⟨gs,0,none⟩=false:=d.out.frozen 1 rfl 0
   have cz:r.cell? ⟨gs,1,none⟩=some (.int .i64 s.bq):=d.out.cell 1 rfl 1
   have cs:r.frozen? ⟨gs,1,none⟩=false:=d.out.frozen 1 rfl 1
   have br:r.cell? ⟨gs,2,none⟩=some (.int .i64 s.ba):=d.out.cell 1 rfl 2
   have fi:r.frozen? ⟨gs,2,none⟩=false:=d.out.frozen 1 rfl 2
   have el:r.cell? ⟨gs,3,none⟩=some (.slice none 0 0):=d.out.cell 1 rfl 3
   have bz:r.frozen? ⟨gs,3,none⟩=false:=d.out.frozen 1 rfl 3
   have fp:r.cell? ⟨gs,4,none⟩=some (.slice y s.evs.length v):=d.out.cell 1 rfl 4
   have dk:r.frozen? ⟨gs,4,none⟩=false:=d.out.frozen 1 rfl 4
   have fw:r.cell? ⟨gs,5,none⟩=some (.int .i64 s.c.q):=d.out.cell 1 rfl 5
   have em:r.frozen? ⟨gs,5,none⟩=false:=d.out.frozen 1 rfl 5
   have ao:r.cell? ⟨gs,6,none⟩=some (.int .i64 s.c.a):=d.out.cell 1 rfl 6
   have fl:r.frozen? ⟨gs,6,none⟩=false:=d.out.frozen 1 rfl 6
   have ez:r.cell? ⟨gs,7,none⟩=some (.slice z nn C):=d.out.cell 1 rfl 7
   have be:r.frozen? ⟨gs,7,none⟩=false:=d.out.frozen 1 rfl 7
   have bj:r.cell? ⟨gs,8,none⟩=some (.int .i64 0):=d.out.cell 1 rfl 8
   have fb:r.frozen? ⟨gs,8,none⟩=false:=d.out.frozen 1 rfl 8
   have ch:r.cell? ⟨gs,9,none⟩=some (.int .i64 s.size):=d.out.cell 1 rfl 9
   have en:r.frozen? ⟨gs,9,none⟩=false:=d.out.frozen 1 rfl 9
   have T:r.cell? ⟨gs,10,none⟩=some (.bool s.sealed):=d.out.cell 1 rfl 10
   have V:r.frozen? ⟨gs,10,none⟩=false:=d.out.frozen 1 rfl 10
   have cl:r.cell? ⟨l,0,none⟩=some (.int .i64 0):=d.out.cell 2 rfl 0
   have am:r.frozen? ⟨l,0,none⟩=false:=d.out.frozen 2 rfl 0
   have bo:r.cell? ⟨l,1,none⟩=some (.int .i64 0):=d.out.cell 2 rfl 1
   have cw:r.frozen? ⟨l,1,none⟩=false:=d.out.frozen 2 rfl 1
   have fx:r.cell? ⟨l,2,none⟩=some (.int .i64 0):=d.out.cell 2 rfl 2
   have dg:r.frozen? ⟨l,2,none⟩=false:=d.out.frozen 2 rfl 2
   have bi:r.cell? ⟨l,3,none⟩=some (.slice none 0 0):=d.out.cell 2 rfl 3
   have cm:r.frozen? ⟨l,3,none⟩=false:=d.out.frozen 2 rfl 3
   have ev:r.cell? ⟨l,4,none⟩=some (.slice none 0 0):=d.out.cell 2 rfl 4
   have ca:r.frozen? ⟨l,4,none⟩=false:=d.out.frozen 2 rfl 4
   have dt:r.cell? ⟨l,5,none⟩=some (.int .i64 0):=d.out.cell 2 rfl 5
   have ed:r.frozen? ⟨l,5,none⟩=false:=d.out.frozen 2 rfl 5
   have dm:r.cell? ⟨l,6,none⟩=some (.int .i64 0):=d.out.cell 2 rfl 6
   have dq:r.frozen? ⟨l,6,none⟩=false:=d.out.frozen 2 rfl 6
   have ae:r.cell? ⟨l,7,none⟩=some (.slice none 0 0):=d.out.cell 2 rfl 7
   have ce:r.frozen? ⟨l,7,none⟩=false:=d.out.frozen 2 rfl 7
   have da:r.cell? ⟨l,8,none⟩=some (.int .i64 0):=d.out.cell 2 rfl 8
   have ci:r.frozen? ⟨l,8,none⟩=false:=d.out.frozen 2 rfl 8
   have cc:r.cell? ⟨l,9,none⟩=some (.int .i64 0):=d.out.cell 2 rfl 9
   have es:r.frozen? ⟨l,9,none⟩=false:=d.out.frozen 2 rfl 9
   have gt:¬ (gs=l):=d.out.ne 1 2 (by decide) rfl rfl
   have Z:¬ (l=gs):=d.out.ne 2 1 (by decide) rfl rfl
   go_wp2_with (go_at_call 52;refine(CQ ((what:Int)) s.sealed gs _ (by assumption)).mono ?_;rintro e w' ⟨rfl,rfl⟩)
   clear ey bv cz cs br fi el bz fp dk fw em ao fl ez be bj fb ch en T V cl am bo cw fx dg bi cm ev ca dt ed dm dq ae ce da ci cc es gt Z
   have gn:Hid (aq w [] X (r.setCell ⟨gs,8,none⟩ (.int .i64 (cE ((what:Int)) s.sealed))) [.row 44 7 ((.slice y s.evs.length v)) (s.evs.length) (aH s.evs),.box (gs) 115 #[.int .i64 s.num,.int .i64 s.bq,.int .i64 s.ba,.slice none 0 0,.slice y s.evs.length v,.int .i64 s.c.q,.int .i64 s.c.a,.slice z nn C,.int .i64 (cE ((what:Int)) s.sealed),.int .i64 s.size,.bool s.sealed],.box (l) 54 #[.int .i64 0,.int .i64 0,.int .i64 0,.slice none 0 0,.slice none 0 0,.int .i64 0,.int .i64 0,.slice none 0 0,.int .i64 0,.int .i64 0]] [Sl.fact af z nn C s.c.ns]):=d.out.set_ 1 rfl 8 (.int .i64 (cE ((what:Int)) s.sealed))
   clear d
   generalize r.setCell ⟨gs,8,none⟩ (.int .i64 (cE ((what:Int)) s.sealed))=w8 at gn ⊢
   have D:Hid (aq w [] X ((((((((((w8.setCell ⟨l,0,none⟩ (.int .i64 s.num)).setCell ⟨l,1,none⟩ (.int .i64 s.bq)).setCell ⟨l,2,none⟩ (.int .i64 s.ba)).setCell ⟨l,3,none⟩ (.slice none 0 0)).setCell ⟨l,4,none⟩ (.slice y s.evs.length v)).setCell ⟨l,5,none⟩ (.int .i64 s.c.q)).setCell ⟨l,6,none⟩ (.int .i64 s.c.a)).setCell ⟨l,7,none⟩ (.slice z nn C)).setCell ⟨l,8,none⟩ (.int .i64 (cE ((what:Int)) s.sealed))).setCell ⟨l,9,none⟩ (.int .i64 s.size)) [.row 44 7 ((.slice y s.evs.length v)) (s.evs.length) (aH s.evs),.box (gs) 115 #[.int .i64 s.num,.int .i64 s.bq,.int .i64 s.ba,.slice none 0 0,.slice y s.evs.length v,.int .i64 s.c.q,.int .i64 s.c.a,.slice z nn C,.int .i64 (cE ((what:Int)) s.sealed),.int .i64 s.size,.bool s.sealed],.box (l) 54 #[.int .i64 s.num,.int .i64 s.bq,.int .i64 s.ba,.slice none 0 0,.slice y s.evs.length v,.int .i64 s.c.q,.int .i64 s.c.a,.slice z nn C,.int .i64 (cE ((what:Int)) s.sealed),.int .i64 s.size]] [Sl.fact af z nn C s.c.ns]):=(gn.out.set10 2 rfl (.int .i64 s.num) (.int .i64 s.bq) (.int .i64 s.ba) (.slice none 0 0) (.slice y s.evs.length v) (.int .i64 s.c.q) (.int .i64 s.c.a) (.slice z nn C) (.int .i64 (cE ((what:Int)) s.sealed)) (.int .i64 s.size))
   clear gn
   generalize (((((((((w8.setCell ⟨l,0,none⟩ (.int .i64 s.num)).setCell ⟨l,1,none⟩ (.int .i64 s.bq)).setCell ⟨l,2,none⟩ (.int .i64 s.ba)).setCell ⟨l,3,none⟩ (.slice none 0 0)).setCell ⟨l,4,none⟩ (.slice y s.evs.length v)).setCell ⟨l,5,none⟩ (.int .i64 s.c.q)).setCell ⟨l,6,none⟩ (.int .i64 s.c.a)).setCell ⟨l,7,none⟩ (.slice z nn C)).setCell ⟨l,8,none⟩ (.int .i64 (cE ((what:Int)) s.sealed))).setCell ⟨l,9,none⟩ (.int .i64 s.size)=w9 at D ⊢
   rw[HS.out]
   have hres:=ya (D.out.blk 2 rfl)
   refine bodyPost_ret (hres _ rfl) rfl ?_
   clear hres
   have dy:=(fun g e=>(((D.out.ents _ (List.mem_of_getElem? (i:=0) rfl)).2 g e).1).resolve_right (by simp):∀ g,(Value.slice y s.evs.length v).ownBlock=some g→w.heap.size≤g)
   exact⟨D.out.below,(.slice y s.evs.length v),z,nn,C,rfl,oA (D.out.row 0 rfl) dy,D.out.back' 0 rfl,hc,fun b hb e=>by have h1:=dy b e;have h2:=hX b hb;omega⟩
  obtain⟨A',rfl,he⟩:=hp
  have HW:=Lib.hid (jV _ _ _ _ P.out)
  have hh:=Lib.hid he
  clear he
  clear O N J M K L Q H I G E
  have d:Hid (aq w [] X r [.row 44 7 ((.slice y s.evs.length v)) (s.evs.length) (aH s.evs),.box (gs) 115 (aX s (.slice y s.evs.length v) z nn C),.box (l) 54 #[.int .i64 0,.int .i64 0,.int .i64 0,.slice none 0 0,.slice none 0 0,.int .i64 0,.int .i64 0,.slice none 0 0,.int .i64 0,.int .i64 0]] [Sl.fact af z nn C s.c.ns]):=(u.out.on hb)
  clear u
  clear hb
  obtain⟨ib,hy,ii,ih,hu,-⟩:=HW.out
  rw[ia.out]at hy
  clear HW
  obtain⟨tk,hf⟩:∃ t,cM s (x.toNat:Int) p=t:=⟨_,rfl⟩
  have gc:=Lib.hid hf
  clear hf
  have hg:B≤gs:=Nat.le_trans hB ((((d.out.ents _ (List.mem_of_getElem? (i:=1) rfl)).2 gs rfl).1).resolve_right (by simp))
  have hi:∀ b,(Value.slice y s.evs.length v).ownBlock=some b→B≤b:=fun b e=>Nat.le_trans hB ((((d.out.ents _ (List.mem_of_getElem? (i:=0) rfl)).2 b e).1).resolve_right (by simp))
  have HT:=Lib.hid (FT s (.slice y s.evs.length v) z nn C gs (x.toNat:Int) A' p.length p.length B p _ r d.out.xok' (d.out.give2 (i:=1) (j:=0) (by decide) rfl rfl) (d.out.sl 0 rfl) hc hh.out (Nat.le_trans hB d.out.size) hg hi (Nat.le_refl _) (by omega) hu (by omega) hq)
  rw[gc.out]at HT
  clear hg hi hh
  go_wp2_with fail
  with_reducible refine(HT.out).mono ?_
  clear HT
  rintro e o ⟨ho,⟨h1,rfl,gg,gl⟩ | ⟨s',hd,A2,n2,c2,h1,rfl,gg,gl,hs,hj,hw⟩⟩
  ·skip
   subst h1
   rw[kP P.out gc.out]at HS
   clear P gc
   have f:Hid (aq w [] X o [.row 44 7 ((.slice y s.evs.length v)) (s.evs.length) (aH s.evs),.box (gs) 115 (aX s (.slice y s.evs.length v) z nn C),.box (l) 54 #[.int .i64 0,.int .i64 0,.int .i64 0,.slice none 0 0,.slice none 0 0,.int .i64 0,.int .i64 0,.slice none 0 0,.int .i64 0,.int .i64 0]] [Sl.fact af z nn C s.c.ns]):=d.out.wrote2 (i:=1) (j:=0) (by decide) rfl rfl ho gg gl (fun b e=>.inl e)
   clear d
   clear ho gg gl
   have fn:o.cell? ⟨gs,0,none⟩=some (.int .i64 s.num):=f.out.cell 1 rfl 0
   have al:o.frozen? ⟨gs,0,none⟩=false:=f.out.frozen 1 rfl 0
   have eq:o.cell? ⟨gs,1,none⟩=some (.int .i64 s.bq):=f.out.cell 1 rfl 1
   have gf:o.frozen? ⟨gs,1,none⟩=false:=f.out.frozen 1 rfl 1
   have ee:o.cell? ⟨gs,2,none⟩=some (.int .i64 s.ba):=f.out.cell 1 rfl 2
   have fd:o.frozen? ⟨gs,2,none⟩=false:=f.out.frozen 1 rfl 2
   have ct:o.cell? ⟨gs,3,none⟩=some (.slice none 0 0):=f.out.cell 1 rfl 3
   have co:o.frozen? ⟨gs,3,none⟩=false:=f.out.frozen 1 rfl 3
   have bt:o.cell? ⟨gs,4,none⟩=some (.slice y s.evs.length v):=f.out.cell 1 rfl 4
   have ds:o.frozen? ⟨gs,4,none⟩=false:=f.out.frozen 1 rfl 4
   have er:o.cell? ⟨gs,5,none⟩=some (.int .i64 s.c.q):=f.out.cell 1 rfl 5
   have ad:o.frozen? ⟨gs,5,none⟩=false:=f.out.frozen 1 rfl 5
   have fg:o.cell? ⟨gs,6,none⟩=some (.int .i64 s.c.a):=f.out.cell 1 rfl 6
   have ap:o.frozen? ⟨gs,6,none⟩=false:=f.out.frozen 1 rfl 6
   have ea:o.cell? ⟨gs,7,none⟩=some (.slice z nn C):=f.out.cell 1 rfl 7
   have de:o.frozen? ⟨gs,7,none⟩=false:=f.out.frozen 1 rfl 7
   have bl:o.cell? ⟨gs,8,none⟩=some (.int .i64 0):=f.out.cell 1 rfl 8
   have ag:o.frozen? ⟨gs,8,none⟩=false:=f.out.frozen 1 rfl 8
   have ex:o.cell? ⟨gs,9,none⟩=some (.int .i64 s.size):=f.out.cell 1 rfl 9
   have fr:o.frozen? ⟨gs,9,none⟩=false:=f.out.frozen 1 rfl 9
   have Y:o.cell? ⟨gs,10,none⟩=some (.bool s.sealed):=f.out.cell 1 rfl 10
   have S:o.frozen? ⟨gs,10,none⟩=false:=f.out.frozen 1 rfl 10
   have fa:o.cell? ⟨l,0,none⟩=some (.int .i64 0):=f.out.cell 2 rfl 0
   have bk:o.frozen? ⟨l,0,none⟩=false:=f.out.frozen 2 rfl 0
   have bm:o.cell? ⟨l,1,none⟩=some (.int .i64 0):=f.out.cell 2 rfl 1
   have eb:o.frozen? ⟨l,1,none⟩=false:=f.out.frozen 2 rfl 1
   have fz:o.cell? ⟨l,2,none⟩=some (.int .i64 0):=f.out.cell 2 rfl 2
   have et:o.frozen? ⟨l,2,none⟩=false:=f.out.frozen 2 rfl 2
   have ab:o.cell? ⟨l,3,none⟩=some (.slice none 0 0):=f.out.cell 2 rfl 3
   have df:o.frozen? ⟨l,3,none⟩=false:=f.out.frozen 2 rfl 3
   have gb:o.cell? ⟨l,4,none⟩=some (.slice none 0 0):=f.out.cell 2 rfl 4
   have ft:o.frozen? ⟨l,4,none⟩=false:=f.out.frozen 2 rfl 4
   have fs:o.cell? ⟨l,5,none⟩=some (.int .i64 0):=f.out.cell 2 rfl 5
   have dl:o.frozen? ⟨l,5,none⟩=false:=f.out.frozen 2 rfl 5
   have eg:o.cell? ⟨l,6,none⟩=some (.int .i64 0):=f.out.cell 2 rfl 6
   have bp:o.frozen? ⟨l,6,none⟩=false:=f.out.frozen 2 rfl 6
   have bx:o.cell? ⟨l,7,none⟩=some (.slice none 0 0):=f.out.cell 2 rfl 7
   have ge:o.frozen? ⟨l,7,none⟩=false:=f.out.frozen 2 rfl 7
   have bc:o.cell? ⟨l,8,none⟩=some (.int .i64 0):=f.out.cell 2 rfl 8
   have ck:o.frozen? ⟨l,8,none⟩=false:=f.out.frozen 2 rfl 8
   have cr:o.cell? ⟨l,9,none⟩=some (.int .i64 0):=f.out.cell 2 rfl 9
   have dc:o.frozen? ⟨l,9,none⟩=false:=f.out.frozen 2 rfl 9
   have Z:¬ (gs=l):=f.out.ne 1 2 (by decide) rfl rfl
   have ha:¬ (l=gs):=f.out.ne 2 1 (by decide) rfl rfl
   go_wp2_with (go_at_call 52;refine(CQ (0) s.sealed gs _ (by assumption)).mono ?_;rintro e w' ⟨rfl,rfl⟩)
   clear fn al eq gf ee fd ct co bt ds er ad fg ap ea de bl ag ex fr Y S fa bk bm eb fz et ab df gb ft fs dl eg bp bx ge bc ck cr dc Z ha
   have D:Hid (aq w [] X (o.setCell ⟨gs,8,none⟩ (.int .i64 (cE (0) s.sealed))) [.row 44 7 ((.slice y s.evs.length v)) (s.evs.length) (aH s.evs),.box (gs) 115 #[.int .i64 s.num,.int .i64 s.bq,.int .i64 s.ba,.slice none 0 0,.slice y s.evs.length v,.int .i64 s.c.q,.int .i64 s.c.a,.slice z nn C,.int .i64 (cE (0) s.sealed),.int .i64 s.size,.bool s.sealed],.box (l) 54 #[.int .i64 0,.int .i64 0,.int .i64 0,.slice none 0 0,.slice none 0 0,.int .i64 0,.int .i64 0,.slice none 0 0,.int .i64 0,.int .i64 0]] [Sl.fact af z nn C s.c.ns]):=f.out.set_ 1 rfl 8 (.int .i64 (cE (0) s.sealed))
   clear f
   generalize o.setCell ⟨gs,8,none⟩ (.int .i64 (cE (0) s.sealed))=w8 at D ⊢
   have F:Hid (aq w [] X ((((((((((w8.setCell ⟨l,0,none⟩ (.int .i64 s.num)).setCell ⟨l,1,none⟩ (.int .i64 s.bq)).setCell ⟨l,2,none⟩ (.int .i64 s.ba)).setCell ⟨l,3,none⟩ (.slice none 0 0)).setCell ⟨l,4,none⟩ (.slice y s.evs.length v)).setCell ⟨l,5,none⟩ (.int .i64 s.c.q)).setCell ⟨l,6,none⟩ (.int .i64 s.c.a)).setCell ⟨l,7,none⟩ (.slice z nn C)).setCell ⟨l,8,none⟩ (.int .i64 (cE (0) s.sealed))).setCell ⟨l,9,none⟩ (.int .i64 s.size)) [.row 44 7 ((.slice y s.evs.length v)) (s.evs.length) (aH s.evs),.box (gs) 115 #[.int .i64 s.num,.int .i64 s.bq,.int .i64 s.ba,.slice none 0 0,.slice y s.evs.length v,.int .i64 s.c.q,.int .i64 s.c.a,.slice z nn C,.int .i64 (cE (0) s.sealed),.int .i64 s.size,.bool s.sealed],.box (l) 54 #[.int .i64 s.num,.int .i64 s.bq,.int .i64 s.ba,.slice none 0 0,.slice y s.evs.length v,.int .i64 s.c.q,.int .i64 s.c.a,.slice z nn C,.int .i64 (cE (0) s.sealed),.int .i64 s.size]] [Sl.fact af z nn C s.c.ns]):=(D.out.set10 2 rfl (.int .i64 s.num) (.int .i64 s.bq) (.int .i64 s.ba) (.slice none 0 0) (.slice y s.evs.length v) (.int .i64 s.c.q) (.int .i64 s.c.a) (.slice z nn C) (.int .i64 (cE (0) s.sealed)) (.int .i64 s.size))
   clear D
   generalize (((((((((w8.setCell ⟨l,0,none⟩ (.int .i64 s.num)).setCell ⟨l,1,none⟩ (.int .i64 s.bq)).setCell ⟨l,2,none⟩ (.int .i64 s.ba)).setCell ⟨l,3,none⟩ (.slice none 0 0)).setCell ⟨l,4,none⟩ (.slice y s.evs.length v)).setCell ⟨l,5,none⟩ (.int .i64 s.c.q)).setCell ⟨l,6,none⟩ (.int .i64 s.c.a)).setCell ⟨l,7,none⟩ (.slice z nn C)).setCell ⟨l,8,none⟩ (.int .i64 (cE (0) s.sealed))).setCell ⟨l,9,none⟩ (.int .i64 s.size)=w9 at F ⊢
   rw[HS.out]
   have hres:=ya (F.out.blk 2 rfl)
   refine bodyPost_ret (hres _ rfl) rfl ?_
   clear hres
   have dy:=(fun g e=>(((F.out.ents _ (List.mem_of_getElem? (i:=0) rfl)).2 g e).1).resolve_right (by simp):∀ g,(Value.slice y s.evs.length v).ownBlock=some g→w.heap.size≤g)
   exact⟨F.out.below,(.slice y s.evs.length v),z,nn,C,rfl,oA (F.out.row 0 rfl) dy,F.out.back' 0 rfl,hc,fun b hb e=>by have h1:=dy b e;have h2:=hX b hb;omega⟩
  subst h1
  rw[iH P.out gc.out]at HS
  obtain⟨hz,il,ht⟩:=uG gc.out hq
  clear P gc
  have f:Hid (aq w [] X o [.row 44 7 (hd) (s'.evs.length) (aH s'.evs),.box (gs) 115 (aX s' hd A2 n2 c2),.box (l) 54 #[.int .i64 0,.int .i64 0,.int .i64 0,.slice none 0 0,.slice none 0 0,.int .i64 0,.int .i64 0,.slice none 0 0,.int .i64 0,.int .i64 0]] [Sl.fact af z nn C s.c.ns]):=d.out.wrote2 (i:=1) (j:=0) (by decide) rfl rfl ho gg gl hs
  clear d
  clear ho gg gl hs
  obtain⟨bd,cd,rfl⟩:=vO (f.out.row 0 rfl)
  have gp:Hid (aq w [] X o [.row 44 7 ((.slice bd s'.evs.length cd)) (s'.evs.length) (aH s'.evs),.box (gs) 115 (aX s' (.slice bd s'.evs.length cd) A2 n2 c2),.box (l) 54 #[.int .i64 0,.int .i64 0,.int .i64 0,.slice none 0 0,.slice none 0 0,.int .i64 0,.int .i64 0,.slice none 0 0,.int .i64 0,.int .i64 0]] [Sl.fact af A2 n2 c2 s'.c.ns,Sl.fact af z nn C s.c.ns]):=f.out.know (Sl.fact af A2 n2 c2 s'.c.ns) (hj.more (fun b _ hm=>GP b hm))
  clear f
  clear hj
  have m:Hid (aq w [] X o [.row 44 7 ((.slice bd s'.evs.length cd)) (s'.evs.length) (aH s'.evs),.box (gs) 115 (aX s' (.slice bd s'.evs.length cd) A2 n2 c2),.box (l) 54 #[.int .i64 0,.int .i64 0,.int .i64 0,.slice none 0 0,.slice none 0 0,.int .i64 0,.int .i64 0,.slice none 0 0,.int .i64 0,.int .i64 0]] [Sl.fact af A2 n2 c2 s'.c.ns]):=(gp.out.forget (List.Sublist.cons_cons _ (List.Sublist.cons _ List.Sublist.slnil)))
  clear gp
  skip
  have cf:o.cell? ⟨gs,0,none⟩=some (.int .i64 s'.num):=m.out.cell 1 rfl 0
  have db:o.frozen? ⟨gs,0,none⟩=false:=m.out.frozen 1 rfl 0
  have bn:o.cell? ⟨gs,1,none⟩=some (.int .i64 s'.bq):=m.out.cell 1 rfl 1
  have ec:o.frozen? ⟨gs,1,none⟩=false:=m.out.frozen 1 rfl 1
  have du:o.cell? ⟨gs,2,none⟩=some (.int .i64 s'.ba):=m.out.cell 1 rfl 2
  have dv:o.frozen? ⟨gs,2,none⟩=false:=m.out.frozen 1 rfl 2
  have aw:o.cell? ⟨gs,3,none⟩=some (.slice none 0 0):=m.out.cell 1 rfl 3
  have fv:o.frozen? ⟨gs,3,none⟩=false:=m.out.frozen 1 rfl 3
  have cb:o.cell? ⟨gs,4,none⟩=some (.slice bd s'.evs.length cd):=m.out.cell 1 rfl 4
  have bb:o.frozen? ⟨gs,4,none⟩=false:=m.out.frozen 1 rfl 4
  have cp:o.cell? ⟨gs,5,none⟩=some (.int .i64 s'.c.q):=m.out.cell 1 rfl 5
  have gd:o.frozen? ⟨gs,5,none⟩=false:=m.out.frozen 1 rfl 5
  have fk:o.cell? ⟨gs,6,none⟩=some (.int .i64 s'.c.a):=m.out.cell 1 rfl 6
  have dp:o.frozen? ⟨gs,6,none⟩=false:=m.out.frozen 1 rfl 6
  have ar:o.cell? ⟨gs,7,none⟩=some (.slice A2 n2 c2):=m.out.cell 1 rfl 7
  have dd:o.frozen? ⟨gs,7,none⟩=false:=m.out.frozen 1 rfl 7
  have ek:o.cell? ⟨gs,8,none⟩=some (.int .i64 0):=m.out.cell 1 rfl 8
  have ac:o.frozen? ⟨gs,8,none⟩=false:=m.out.frozen 1 rfl 8
  have ah:o.cell? ⟨gs,9,none⟩=some (.int .i64 s'.size):=m.out.cell 1 rfl 9
  have eh:o.frozen? ⟨gs,9,none⟩=false:=m.out.frozen 1 rfl 9
  have W:o.cell? ⟨gs,10,none⟩=some (.bool s'.sealed):=m.out.cell 1 rfl 10
  have U:o.frozen? ⟨gs,10,none⟩=false:=m.out.frozen 1 rfl 10
  go_wp2
  clear cf db bn ec du dv aw fv cb bb cp gd fk dp ar dd ek ac ah eh W U
  go_roundg (gk-(p.length+7))
  case measure=>omega
  case rel=>exact⟨⟨s'.num,s'.bq,s'.ba,s'.evs,s'.c,s.size+((p.length:Int)+7),s'.sealed⟩,bd,cd,A2,n2,c2,by simp only;omega,by simp only;omega,by simp only;omega,by simp only;omega,ht,hw,HS,Lib.hid (m.out.set_ 1 rfl 9 (.int .i64 (s.size+((p.length:Int)+7))))⟩
end
section
open Go.RowKit
structure Prt where
 s:Scn
 st:Int
 al:Nat
abbrev ql (p:Prt) (E:Option Addr) (en ec:Nat) (An:Option Addr) (nn cn:Nat):List Value:=[.int .i64 p.s.num,.int .i64 p.s.bq,.int .i64 p.s.ba,.slice none 0 0,.slice E en ec,.int .i64 p.s.c.q,.int .i64 p.s.c.a,.slice An nn cn,.int .i64 p.st,.int .i64 p.s.size,.int .i64 (p.al:Int)]
def dP:Sh Prt where
 size:=11
 rep w X vs p := ∃ E en ec An nn cn,vs=ql p E en ec An nn cn∧Sl iz w X E en ec p.s.evs∧Sl af w X An nn cn p.s.c.ns∧nn≤1000
 len:=by rintro w X vs a ⟨E,en,ec,An,nn,cn,rfl,_⟩;rfl
 one:=by
  rintro w X vs a ⟨E,en,ec,An,nn,cn,rfl,_⟩ u hu
  simp only[ql,List.mem_cons,List.not_mem_nil,or_false]at hu
  rcases hu with rfl | rfl | rfl | rfl | rfl | rfl | rfl | rfl | rfl | rfl | rfl<;>rfl
 keep:=by rintro w w' X vs a ⟨E,en,ec,An,nn,cn,rfl,h,h2,r⟩ k;exact⟨E,en,ec,An,nn,cn,rfl,h.keep k,h2.keep k,r⟩
 more:=by rintro w X X' vs a ⟨E,en,ec,An,nn,cn,rfl,h,h2,r⟩ k;exact⟨E,en,ec,An,nn,cn,rfl,h.more k,h2.more k,r⟩
structure Sgi where
 num:Int
 fi:Int
 la:Int
 fr:Int
 tt:Int
 sz:Int
 sd:Bool
abbrev bK (g:Sgi):List Value:=[.int .i64 g.num,.int .i64 g.fi,.int .i64 g.la,.int .i64 g.fr,.int .i64 g.tt,.int .i64 g.sz,.bool g.sd]
def bw:Sh Sgi:=jb 7 bK (fun _=>True) (fun _=>rfl) (by
 intro a u hu
 simp only[bK,List.mem_cons,List.not_mem_nil,or_false]at hu
 rcases hu with rfl | rfl | rfl | rfl | rfl | rfl | rfl<;>rfl)
def aD (p:Prt):Sgi:=⟨p.s.num,p.s.bq,p.s.c.q,p.s.ba,p.s.c.a,p.s.size,decide (p.st=4)⟩
theorem nV {α β:Type} {l:List α} {k:Nat} {x:α} (h:l[k]?=some x) (f:α→List β):(l.take (k+1)).flatMap f=(l.take k).flatMap f++f x:=by
 obtain⟨a,rfl⟩:=List.getElem?_eq_some_iff.1 h
 rw[List.take_succ_eq_append_getElem a,List.flatMap_append]
 simp
set_option maxHeartbeats 2000000 in
theorem Aq (ps:List Prt) (A:Option Addr) (n j:Nat) (X:List Nat) (w:World) (hX:XOk X w) (d:Sl dP w X A n j ps) (J:n≤64):
 Calls Tryz.prog 31 #[.slice A n j] w fun e w' => ∃ B c,e = .returned (.slice B n c)∧Sl bw w' X B n c (ps.map aD)∧Below w.heap.size w w':=by
 have m:=Lib.hid d.len
 go_enter Tryz.func31,Tryz.ntmps31
 go_upto_region 3 with(fail)
 refine(hstart hX).cw fun W K=>?_
 have K:=(K.ksl0 d).nrow (e:=67) (size:=7) (n:=0) (v := .slice none 0 0) (xs:=[]) (Below.refl _ _) ⟨rfl,.inl ⟨rfl,rfl⟩⟩
 clear d
 go_loopw [8,3] (fun i v wr => ∃ (k:Nat),k≤n∧i = .int .i64 k∧HH w [] X wr [.row 67 7 v k ((ps.take k).flatMap (fun p=>bK (aD p)))] [Sl.fact dP A n j ps]) (fun i _ _=>n-(intOf i).toNat)
 case atStart=>exact⟨0,Nat.zero_le _,rfl,K⟩
 case round=>
  obtain⟨k,C,rfl,K⟩:=hrel
  by_cases u:k<n
  ·obtain⟨x,l⟩:∃ x,ps[k]?=some x:=⟨_,List.getElem?_eq_getElem (by have:=m.out;omega)⟩
   obtain⟨ad,r,rfl,h,g,⟨E,L,D,F,nn,G,rfl,f,b,z⟩,a⟩:=(K.sl 0 rfl).at' l
   have y:=Lib.hid l
   have I:(0:Int)≤(k:Int):=by omega
   have H:(k:Int)<(n:Int):=by omega
   clear l h g f b
   go_upto_region 5 with(first | (refine bF a ?_) | (refine K.lw fun W K=>?_;refine K.sr 0 rfl fun W K=>?_))
   clear a
   have c0:=K.r 0 rfl
   have q:(x.st == 4)=decide (x.st=4):=by rw[Bool.eq_iff_iff];simp
   go_wp2_with (at_builtin;refine K.lw fun W K=>?_;refine K.ap1 56 1 rfl (by omega) fun v' U K=>?_)
   go_roundw
   case rel=>
    refine⟨k+1,by omega,by go_num,?_⟩
    rw[nV y.out]
    exact K.tl
   case measure=>simp[intOf];omega
  ·obtain rfl:k=n:=by omega
   go_wp2
   go_ret
   have t:ps.take k=ps:=List.take_of_length_le (by have:=m.out;omega)
   rw[t]at K
   obtain⟨B,c,rfl,o⟩:=K.out.done_row (s:=bw) (xs:=ps.map aD) 0 rfl (aO.2 ⟨by rw[List.flatMap_map],fun s d=>trivial⟩) (by decide) (by simp)
   exact⟨B,c,rfl,(o.hh).slb 0 rfl,o.below⟩
end
section
open Go.RowKit
set_option maxHeartbeats 1000000 in
theorem Bc (l:List Sgi) (A:Option Addr) (n g:Nat) (m:Option Addr) (n2 b:Nat) (X:List Nat) (w:World) (hX:XOk X w) (c:Sl bw w X A n g l) (a:Sl bw w X m n2 b l) (D:n≤1000):
 Calls Tryz.prog 136 #[.slice A n g,.slice m n2 b] w fun e w'=>e = .returned (.bool true)∧Below w.heap.size w w':=by
 obtain rfl:n2=n:=by rw[c.len,a.len]
 have q:=Lib.hid c.len
 have p:=Lib.hid c
 have d:=Lib.hid a
 clear c a
 go_enter Tryz.func136,Tryz.ntmps136
 go_wp2
 go_loopw [13] (fun i wr => ∃ (k:Nat),k≤n2∧i = .int .i64 k∧HH w [] X wr [] [Sl.fact bw A n2 g l,Sl.fact bw m n2 b l]) (fun i _=>n2-(intOf i).toNat)
 case atStart=>exact⟨0,Nat.zero_le _,rfl,((hstart hX).ksl0 d.out).ksl0 p.out⟩
 case round=>
  obtain⟨k,y,rfl,K⟩:=hrel
  by_cases u:k<n2
  ·obtain⟨x,j⟩:∃ x,l[k]?=some x:=⟨_,List.getElem?_eq_getElem (by have:=q.out;omega)⟩
   obtain⟨ad,r,rfl,K,⟨rfl,s⟩⟩:=K.elem 0 rfl j
   obtain⟨o,z,rfl,K,⟨rfl,t⟩⟩:=K.elem 2 rfl j
   have C:(0:Int)≤(k:Int):=by omega
   have B:(k:Int)<(n2:Int):=by omega
   clear j s t
   go_upto_region 6 with(fail)
   refine K.rg fun W K=>?_
   refine tK 0 K ?_
   refine tK 1 K ?_
   refine tK 2 K ?_
   refine tL 3 (fun _ h=>h.at' 1 rfl) K ?_ (hy:=fun w f=>aM f)
   refine tK 4 K ?_
   refine tK 5 K ?_
   refine tK 6 K ?_
   refine tL 7 (fun _ h=>h.at' 0 rfl) K ?_ (hy:=fun w f=>aM f)
   refine tK 8 K ?_ (v := .bool false) (hy:=by(intro W _;show(execOp _ _).run _ _=_;simp only[bK];go_simp;try with_reducible rfl))
   refine tE ?_
   go_wp2
   go_roundw
   case rel=>exact⟨k+1,by omega,by go_num,K.ft.ft⟩
   case measure=>simp[intOf];omega
  ·obtain rfl:k=n2:=by omega
   go_wp2
   go_ret
   exact⟨rfl,K.below⟩
def aa (ps:List Prt):Cx:=match ps.getLast? with
 | some p=>if p.st=4 then⟨0,0,[]⟩ else p.s.c
 | none=>⟨0,0,[]⟩
set_option maxHeartbeats 1000000 in
theorem yl (ps:List Prt) (A:Option Addr) (n t:Nat) (X:List Nat) (w:World) (hX:XOk X w) (f:Sl dP w X A n t ps) (G:n≤64):
 Calls Tryz.prog 32 #[.slice A n t] w fun e w' => ∃ B m c,e = .returned (.agg #[.int .i64 (aa ps).q,.int .i64 (aa ps).a,.slice B m c])∧Sl af w' X B m c (aa ps).ns∧m≤1000∧Below w.heap.size w w':=by
 cases n with
 | zero=>
   have v:ps = []:=List.eq_nil_of_length_eq_zero f.len.symm
   subst v
   go_enter Tryz.func32,Tryz.ntmps32
   go_upto_region 1 with(fail)
   refine(hstart hX).cw fun W K=>?_
   go_wp2_with (refine K.lw fun W K=>?_;refine K.sr 0 rfl fun W K=>?_)
   exact K.rc1 0 rfl rfl ⟨none,0,0,rfl,Sl.nil_,by omega,K.below⟩
 | succ k=>
   have hL:=Lib.hid f.len
   obtain⟨x,h⟩:∃ x,ps[k]?=some x:=⟨_,List.getElem?_eq_getElem (by have:=hL.out;omega)⟩
   have b:=Lib.hid (show ps.getLast?=some x by rw[List.getLast?_eq_getElem?,←hL.out];exact h)
   have F:(0:Int)≤(k:Int):=by omega
   by_cases g:x.st=4
   ·have l:aa ps=⟨0,0,[]⟩:=by unfold aa;rw[b.out];simp only;rw[if_pos g]
    rw[l]
    go_enter Tryz.func32,Tryz.ntmps32
    go_upto_region 1 with(fail)
    refine(hstart hX).cw fun W K=>?_
    have K:=K.ksl0 f
    obtain⟨ad,r,rfl,K,⟨E,y,u,i,nn,j,rfl,-⟩⟩:=K.elem 0 rfl h
    have p:W.cell? ⟨(ad.add (k*11)).block,(ad.add (k*11)).off+8,none⟩=some (.int .i64 x.st):=K.at' 0 rfl 8 _ rfl
    rw[g]at p
    go_upto_region 3 with(fail)
    go_wp2_with (refine K.lw fun W K=>?_;refine K.sr 0 rfl fun W K=>?_)
    exact K.rc1 0 rfl rfl ⟨none,0,0,rfl,Sl.nil_,by omega,K.below⟩
   ·have l:aa ps=x.s.c:=by unfold aa;rw[b.out];simp only;rw[if_neg g]
    rw[l]
    have C:(x.st == 4)=false:=by simpa using g
    go_enter Tryz.func32,Tryz.ntmps32
    go_upto_region 1 with(fail)
    refine(hstart hX).cw fun W K=>?_
    have K:=K.ksl0 f
    obtain⟨ad,r,rfl,K,⟨E,y,u,i,nn,j,rfl,-,d,o⟩⟩:=K.elem 0 rfl h
    have K:=K.ksl d
    have p:W.cell? ⟨(ad.add (k*11)).block,(ad.add (k*11)).off+8,none⟩=some (.int .i64 x.st):=K.at' 1 rfl 8 _ rfl
    have z:W.cell? ⟨(ad.add (k*11)).block,(ad.add (k*11)).off+5,none⟩=some (.int .i64 x.s.c.q):=K.at' 1 rfl 5 _ rfl
    have H:W.cell? ⟨(ad.add (k*11)).block,(ad.add (k*11)).off+5+1,none⟩=some (.int .i64 x.s.c.a):=K.at' 1 rfl 6 _ rfl
    have D:W.cell? ⟨(ad.add (k*11)).block,(ad.add (k*11)).off+5+2,none⟩=some (.slice i nn j):=K.at' 1 rfl 7 _ rfl
    clear h d
    go_wp2_with (refine K.lw fun W K=>?_;refine K.sr 0 rfl fun W K=>?_)
    exact K.rc1 0 rfl rfl ⟨i,nn,j,rfl,K.slb 0 rfl,o,K.below⟩
end
section
open Go.RowKit
def wT (p a:Prt):Bool:=(a.st == 4)&&((p.s.num == a.s.num+1)&&((p.s.bq == a.s.c.q)&&(p.s.ba == a.s.c.a)))
theorem zy (p a:Prt) (E:Option Addr) (A q:Nat) (u:Option Addr) (nn v:Nat) (B:Option Addr) (g h:Nat) (j:Option Addr) (k b:Nat) (w:World) (l:0≤a.s.num∧a.s.num≤99999999):
 Calls Tryz.prog 141 #[.agg (ql p E A q u nn v).toArray,.agg (ql a B g h j k b).toArray] w fun e w'=>e = .returned (.bool (wT p a))∧Below w.heap.size w w':=by
 obtain⟨⟨x,o,z,I,C,P,N⟩,y,m⟩:=p
 obtain⟨⟨a1,M,K,G,⟨i,f,F⟩,O,H⟩,c,D⟩:=a
 obtain⟨n,t,r⟩:=C
 simp only at l
 have L:wrap64 (a1+1)=a1+1:=by unfold wrap64;omega
 unfold wT
 simp only[ql]
 cases h1:(c == 4) with
 | false=>
   go_enter Tryz.func141,Tryz.ntmps141
   go_wp2
   go_ret
   exact⟨by simp,((Below.refl _ _).alloc (Nat.le_refl _) _).alloc ((Below.refl _ _).alloc (Nat.le_refl _) _).size _⟩
 | true=>
   cases h2:(x == a1+1) with
   | false=>
     go_enter Tryz.func141,Tryz.ntmps141
     go_wp2
     go_ret
     exact⟨by simp,((Below.refl _ _).alloc (Nat.le_refl _) _).alloc ((Below.refl _ _).alloc (Nat.le_refl _) _).size _⟩
   | true=>
     cases h3:(o == i) with
     | false=>
       go_enter Tryz.func141,Tryz.ntmps141
       go_wp2
       go_ret
       exact⟨by simp,((Below.refl _ _).alloc (Nat.le_refl _) _).alloc ((Below.refl _ _).alloc (Nat.le_refl _) _).size _⟩
     | true=>
       generalize J:(z == f)=d
       go_enter Tryz.func141,Tryz.ntmps141
       go_wp2
       go_ret
       exact⟨by simp,((Below.refl _ _).alloc (Nat.le_refl _) _).alloc ((Below.refl _ _).alloc (Nat.le_refl _) _).size _⟩
end
end Go.Proofs.YtpokkciheejeiaaGreatDoor
section
namespace Go.Proofs
open Go.Shelf
def Tryz.lays173_ren:Go.Shelf.Ren:=⟨fun | 173=>54 | 246=>115 | 283=>181 | 284=>182 | 285=>183 | 286=>184 | 129=>235 | 317=>234 | 318=>236 | 319=>237 | 320=>238 | 337=>264 | 338=>265 | n=>n,fun | 2=>2 | 3=>3 | 9=>9 | 4=>4 | 171=>262 | 0=>0 | 53=>253 | 37=>50 | 5=>5 | 173=>265 | 212=>307 | 51=>184 | 20=>20 | 213=>308 | 46=>181 | 232=>349 | 233=>350 | n=>n,fun | 17=>0 | 18=>2 | 19=>3 | n=>n⟩
theorem Tryz.lays173:Go.Proofs.LaysM.n173 Tryz.prog Tryz.lays173_ren:={
 mixed:=by kernel_rfl
 f129:=Tryz.func235.trans (congrArg some (by kernel_rfl))
 f173:=Tryz.func54.trans (congrArg some (by kernel_rfl))
 f246:=Tryz.func115.trans (congrArg some (by kernel_rfl))
 f283:=Tryz.func181.trans (congrArg some (by kernel_rfl))
 f284:=Tryz.func182.trans (congrArg some (by kernel_rfl))
 f285:=Tryz.func183.trans (congrArg some (by kernel_rfl))
 f286:=Tryz.func184.trans (congrArg some (by kernel_rfl))
 f317:=Tryz.func234.trans (congrArg some (by kernel_rfl))
 f318:=Tryz.func236.trans (congrArg some (by kernel_rfl))
 f319:=Tryz.func237.trans (congrArg some (by kernel_rfl))
 f320:=Tryz.func238.trans (congrArg some (by kernel_rfl))
 f337:=Tryz.func264.trans (congrArg some (by kernel_rfl))
 f338:=Tryz.func265.trans (congrArg some (by kernel_rfl))
 t0:=Tryz.underlying0
 a0:=Tryz.isAgg0
 z0:=Tryz.sizeOf0
 v0:=Tryz.zeroValue0
 t2:=Tryz.underlying2
 a2:=Tryz.isAgg2
 z2:=Tryz.sizeOf2
 v2:=Tryz.zeroValue2
 t3:=Tryz.underlying3
 a3:=Tryz.isAgg3
 z3:=Tryz.sizeOf3
 v3:=Tryz.zeroValue3
 t4:=Tryz.underlying4
 a4:=Tryz.isAgg4
 z4:=Tryz.sizeOf4
 v4:=Tryz.zeroValue4
 t5:=Tryz.underlying5
 a5:=Tryz.isAgg5
 z5:=Tryz.sizeOf5
 v5:=Tryz.zeroValue5
 t9:=Tryz.underlying9
 a9:=Tryz.isAgg9
 z9:=Tryz.sizeOf9
 v9:=Tryz.zeroValue9
 t20:=Tryz.underlying20
 a20:=Tryz.isAgg20
 z20:=Tryz.sizeOf20
 v20:=Tryz.zeroValue20
 t37:=Tryz.underlying50
 a37:=Tryz.isAgg50
 z37:=Tryz.sizeOf50
 v37:=Tryz.zeroValue50
 t46:=Tryz.underlying181
 a46:=Tryz.isAgg181
 z46:=Tryz.sizeOf181
 v46:=Tryz.zeroValue181
 t51:=Tryz.underlying184
 a51:=Tryz.isAgg184
 z51:=Tryz.sizeOf184
 v51:=Tryz.zeroValue184
 t53:=Tryz.underlying253
 a53:=Tryz.isAgg253
 z53:=Tryz.sizeOf253
 v53:=Tryz.zeroValue253
 t171:=Tryz.underlying262
 a171:=Tryz.isAgg262
 z171:=Tryz.sizeOf262
 v171:=Tryz.zeroValue262
 t173:=Tryz.underlying265
 a173:=Tryz.isAgg265
 z173:=Tryz.sizeOf265
 v173:=Tryz.zeroValue265
 t212:=Tryz.underlying307
 a212:=Tryz.isAgg307
 z212:=Tryz.sizeOf307
 v212:=Tryz.zeroValue307
 t213:=Tryz.underlying308
 a213:=Tryz.isAgg308
 z213:=Tryz.sizeOf308
 t232:=Tryz.underlying349
 a232:=Tryz.isAgg349
 z232:=Tryz.sizeOf349
 v232:=Tryz.zeroValue349
 t233:=Tryz.underlying350
 a233:=Tryz.isAgg350
 z233:=Tryz.sizeOf350
 v233:=Tryz.zeroValue350
 g17:=by kernel_rfl
 g18:=by kernel_rfl
 g19:=by kernel_rfl
 i0:=by kernel_rfl
 i2:=by kernel_rfl
 i3:=by kernel_rfl
 i4:=by kernel_rfl
 i5:=by kernel_rfl
 i9:=by kernel_rfl
 i20:=by kernel_rfl
 i37:=by kernel_rfl
 i46:=by kernel_rfl
 i51:=by kernel_rfl
 i53:=by kernel_rfl
 i171:=by kernel_rfl
 i173:=by kernel_rfl
 i212:=by kernel_rfl
 i232:=by kernel_rfl
 i233:=by kernel_rfl
 m17:=by kernel_rfl
 m18:=by kernel_rfl
 m19:=by kernel_rfl }
theorem Tryz.strconv_FormatInt_10 (n:Int) (b : -9223372036854775808≤n) (a:n≤9223372036854775807) (w:World) (htab:Lib.TabIs Tryz.prog w "internal/strconv.uint64pow10" .u64 Lib.pow10Tab):
 Calls Tryz.prog 54 #[.int .i64 n,.int .i64 10] w fun e w'=>e = .returned (.string ⟨(Lib.itoa n).toArray⟩) ∧ ∃ k os,w'=Sort.grow (w.drewN k) os:=Any.strconv_FormatInt_10 Tryz.lays173 n b a w htab
def Tryz.lays105_ren:Go.Shelf.Ren:=⟨fun | 105=>55 | 212=>116 | 99=>117 | 165=>118 | 166=>119 | 170=>120 | 169=>121 | 263=>185 | 264=>186 | 206=>187 | 240=>188 | 241=>189 | 276=>239 | 277=>240 | n=>n,fun | 9=>9 | 3=>3 | 4=>4 | 20=>20 | 0=>0 | 46=>181 | 109=>191 | 5=>5 | 72=>196 | 76=>200 | 51=>184 | 146=>267 | 53=>253 | 148=>269 | 70=>194 | 37=>50 | 75=>199 | 127=>271 | 164=>310 | 80=>203 | n=>n,fun | n=>n⟩
theorem Tryz.lays105:Go.Proofs.Lays.n105 Tryz.prog Tryz.lays105_ren:={
 mixed:=by kernel_rfl
 f99:=Tryz.func117.trans (congrArg some (by kernel_rfl))
 f105:=Tryz.func55.trans (congrArg some (by kernel_rfl))
 f165:=Tryz.func118.trans (congrArg some (by kernel_rfl))
 f166:=Tryz.func119.trans (congrArg some (by kernel_rfl))
 f169:=Tryz.func121.trans (congrArg some (by kernel_rfl))
 f170:=Tryz.func120.trans (congrArg some (by kernel_rfl))
 f206:=Tryz.func187.trans (congrArg some (by kernel_rfl))
 f212:=Tryz.func116.trans (congrArg some (by kernel_rfl))
 f240:=Tryz.func188.trans (congrArg some (by kernel_rfl))
 f241:=Tryz.func189.trans (congrArg some (by kernel_rfl))
 f263:=Tryz.func185.trans (congrArg some (by kernel_rfl))
 f264:=Tryz.func186.trans (congrArg some (by kernel_rfl))
 f276:=Tryz.func239.trans (congrArg some (by kernel_rfl))
 f277:=Tryz.func240.trans (congrArg some (by kernel_rfl))
 t0:=Tryz.underlying0
 a0:=Tryz.isAgg0
 z0:=Tryz.sizeOf0
 v0:=Tryz.zeroValue0
 t3:=Tryz.underlying3
 a3:=Tryz.isAgg3
 z3:=Tryz.sizeOf3
 v3:=Tryz.zeroValue3
 t4:=Tryz.underlying4
 a4:=Tryz.isAgg4
 z4:=Tryz.sizeOf4
 v4:=Tryz.zeroValue4
 t5:=Tryz.underlying5
 a5:=Tryz.isAgg5
 z5:=Tryz.sizeOf5
 v5:=Tryz.zeroValue5
 t9:=Tryz.underlying9
 a9:=Tryz.isAgg9
 z9:=Tryz.sizeOf9
 v9:=Tryz.zeroValue9
 t20:=Tryz.underlying20
 a20:=Tryz.isAgg20
 z20:=Tryz.sizeOf20
 v20:=Tryz.zeroValue20
 t37:=Tryz.underlying50
 a37:=Tryz.isAgg50
 z37:=Tryz.sizeOf50
 v37:=Tryz.zeroValue50
 t46:=Tryz.underlying181
 a46:=Tryz.isAgg181
 z46:=Tryz.sizeOf181
 v46:=Tryz.zeroValue181
 t51:=Tryz.underlying184
 a51:=Tryz.isAgg184
 z51:=Tryz.sizeOf184
 v51:=Tryz.zeroValue184
 t53:=Tryz.underlying253
 a53:=Tryz.isAgg253
 z53:=Tryz.sizeOf253
 v53:=Tryz.zeroValue253
 t70:=Tryz.underlying194
 a70:=Tryz.isAgg194
 z70:=Tryz.sizeOf194
 v70:=Tryz.zeroValue194
 t72:=Tryz.underlying196
 a72:=Tryz.isAgg196
 z72:=Tryz.sizeOf196
 v72:=Tryz.zeroValue196
 t75:=Tryz.underlying199
 a75:=Tryz.isAgg199
 z75:=Tryz.sizeOf199
 v75:=Tryz.zeroValue199
 t76:=Tryz.underlying200
 a76:=Tryz.isAgg200
 z76:=Tryz.sizeOf200
 v76:=Tryz.zeroValue200
 t109:=Tryz.underlying191
 a109:=Tryz.isAgg191
 z109:=Tryz.sizeOf191
 v109:=Tryz.zeroValue191
 t127:=Tryz.underlying271
 a127:=Tryz.isAgg271
 z127:=Tryz.sizeOf271
 v127:=Tryz.zeroValue271
 t146:=Tryz.underlying267
 a146:=Tryz.isAgg267
 z146:=Tryz.sizeOf267
 v146:=Tryz.zeroValue267
 t148:=Tryz.underlying269
 a148:=Tryz.isAgg269
 z148:=Tryz.sizeOf269
 v148:=Tryz.zeroValue269
 t164:=Tryz.underlying310
 a164:=Tryz.isAgg310
 z164:=Tryz.sizeOf310
 v164:=Tryz.zeroValue310 }
theorem Tryz.extra105:Builder.Extra Tryz.prog Tryz.lays105_ren where
 sizeBuilder:=by kernel_rfl
 liesBuilder:=by kernel_rfl
 t5:=Tryz.lays105.t5
 a5:=Tryz.lays105.a5
 z5:=Tryz.lays105.z5
 v5:=Tryz.lays105.v5
 infoByte:=by kernel_rfl
 cellsByte:=by kernel_rfl
 sizeByte:=by kernel_rfl
 neB5:=by decide
end Go.Proofs
namespace Go.Proofs.YtpokkciheejeiaaGreatDoor
open Go.RowKit Go.Shelf
def aV (w:World):Prop:=Lib.TabIs Tryz.prog w "internal/strconv.uint64pow10" .u64 Lib.pow10Tab
theorem aV.on {w w':World} (h:aV w) (a:Below w.heap.size w w'):aV w':=Lib.tabBelow_of_tabIs h w' a
theorem qD (n:Nat) (a:n≤99999999) (w:World) (h:aV w):Calls Tryz.prog 54 #[.int .i64 (n:Int),.int .i64 10] w fun e w'=>e = .returned (.string ⟨(Lib.itoa n).toArray⟩)∧Below w.heap.size w w':=by
 refine(Tryz.strconv_FormatInt_10 n (by omega) (by omega) w h).mono ?_
 rintro e w' ⟨rfl,k,os,rfl⟩
 exact⟨rfl,Lib.below_grow _ w (Nat.le_refl _) k os⟩
theorem AH (s:ByteArray) (c:Nat) (w:World) (a:s.size=1) (b:c≤8):Calls Tryz.prog 55 #[.string s,.int .i64 (c:Int)] w fun e w'=>e = .returned (.string ⟨(Lib.repeatL s.data.toList c).toArray⟩)∧Below w.heap.size w w':=
 Any.strings_Repeat Tryz.lays105 Tryz.extra105 s c w (by omega) (by rw[a];omega)
end Go.Proofs.YtpokkciheejeiaaGreatDoor
end
namespace Go.Proofs.YtpokkciheejeiaaGreatDoor
section
open Go.RowKit
def az (n:Nat):ByteArray:=(⟨#[115,101,103,46]⟩:ByteArray)++⟨(Lib.repeatL [48] (8-(Lib.itoa (n:Int)).length)).toArray⟩++⟨(Lib.itoa (n:Int)).toArray⟩
theorem DT (u:Nat) (h:u≤99999999):Lib.nDigits u≤8:=by
 repeat
  rw[Lib.nDigits]
  split
  ·omega
  try simp only[Nat.reduceLeDiff]
 all_goals omega
theorem dS (n:Nat) (o:1≤n) (i:n≤99999999) (w:World) (g:aV w):
 Calls Tryz.prog 15 #[.int .i64 (n:Int)] w fun e w'=>e = .returned (.string (az n))∧Below w.heap.size w w':=by
 have b:eE (n:Int)=true:=by unfold eE;simp;omega
 have hlen:(⟨(Lib.itoa (n:Int)).toArray⟩:ByteArray).size≤8:=by
  show(Lib.itoa (n:Int)).toArray.size≤8
  rw[List.size_toArray]
  unfold Lib.itoa
  rw[if_neg (by omega),Lib.decDigits_length]
  exact DT _ (by omega)
 have hL:(Lib.itoa (n:Int)).length=(⟨(Lib.itoa (n:Int)).toArray⟩:ByteArray).size:=by
  show _=(Lib.itoa (n:Int)).toArray.size
  rw[List.size_toArray]
 have d:=Lib.hid (qD n i w g)
 have hS:az n=(⟨#[115,101,103,46]⟩:ByteArray)++⟨(Lib.repeatL [48] (8-(⟨(Lib.itoa (n:Int)).toArray⟩:ByteArray).size)).toArray⟩++⟨(Lib.itoa (n:Int)).toArray⟩:=by unfold az;rw[hL]
 rw[hS]
 clear hS hL
 generalize (⟨(Lib.itoa (n:Int)).toArray⟩:ByteArray)=t at hlen d ⊢
 have p:wrap64 (8-(t.size:Int))=((8-t.size:Nat):Int):=by unfold wrap64;omega
 have hR:(⟨(Lib.repeatL [48] (8-t.size)).toArray⟩:ByteArray).size=8-t.size:=by
  show(Lib.repeatL [48] (8-t.size)).toArray.size=_
  rw[List.size_toArray,Lib.repeatL_length]
  simp
 have c:=fun w=>Lib.hid (AH ⟨#[48]⟩ (8-t.size) w rfl (by omega))
 simp only[show((8-t.size:Nat):Int)=8-(t.size:Int) from by omega]at c
 generalize (⟨(Lib.repeatL [48] (8-t.size)).toArray⟩:ByteArray)=r at hR c ⊢
 go_enter Tryz.func15,Tryz.ntmps15
 go_wp2_with fail
 refine(lH (n:Int) _).mono ?_
 rw[b]
 rintro e m ⟨rfl,rfl⟩
 go_wp2_with fail
 refine d.out.mono ?_
 rintro e k ⟨rfl,f⟩
 go_wp2_with fail
 refine(c _).out.mono ?_
 rintro e q ⟨rfl,a⟩
 have j:¬ (9223372036854775807<4+r.size):=by omega
 have l:¬ (9223372036854775807<4+r.size+t.size):=by omega
 go_wp2
 go_ret
 exact⟨rfl,(((hstart (X:=[]) (fun _ h=>by cases h)).on f).on a).below⟩
end
section
def ef (acc:Nat) (l:List UInt8):Nat:=l.foldl (fun a c=>a*10+(c.toNat-48)) acc
theorem sL:∀ (l:List UInt8) (acc:Nat),acc≤ef acc l
 | [],acc=>Nat.le_refl _
 | c::l,acc=>by
   have:=sL l (acc*10+(c.toNat-48))
   show acc≤ef (acc*10+(c.toNat-48)) l
   omega
theorem Fa:∀ (l:List UInt8) (acc:Nat),(∀ c ∈ l,48≤c.toNat∧c.toNat≤57)→ef acc l≤99999999→Lib.parseUintM 18446744073709551615 acc l = .ok (ef acc l)
 | [],acc,_,_=>rfl
 | c::l,acc,h,hv=>by
   have e:=sL l (acc*10+(c.toNat-48))
   have a:ef (acc*10+(c.toNat-48)) l≤99999999:=hv
   unfold Lib.parseUintM
   rw[if_pos (h c (by simp)),if_neg (by omega),if_neg (by omega)]
   exact Fa l _ (fun d b=>h d (by simp[b])) a
theorem oG:∀ (u:Nat),(∀ c ∈ Lib.decDigits u,48≤c.toNat∧c.toNat≤57)∧ef 0 (Lib.decDigits u)=u:=by
 intro u
 induction u using Nat.strongRecOn with
 | _ u ih=>
   rw[Lib.decDigits]
   split
   ·next h=>
    have b:(UInt8.ofNat (48+u)).toNat=48+u:=by rw[UInt8.toNat_ofNat'];omega
    refine⟨fun c a=>?_,?_⟩
    ·rw[List.mem_singleton]at a;subst a;rw[b];omega
    ·unfold ef
     simp only[List.foldl_cons,List.foldl_nil,b]
     omega
   ·next h=>
    obtain⟨e,d⟩:=ih (u/10) (by omega)
    have b:(UInt8.ofNat (48+u%10)).toNat=48+u%10:=by rw[UInt8.toNat_ofNat'];omega
    refine⟨fun c a=>?_,?_⟩
    ·rcases List.mem_append.1 a with a | a
     ·exact e c a
     ·rw[List.mem_singleton]at a;subst a;rw[b];omega
    ·unfold ef at d ⊢
     rw[List.foldl_append,d]
     simp only[List.foldl_cons,List.foldl_nil,b]
     omega
theorem lR:∀ (c:Nat) (l:List UInt8),ef 0 (Lib.repeatL [48] c++l)=ef 0 l
 | 0,l=>rfl
 | c+1,l=>by
   show ef 0 (48::(Lib.repeatL [48] c++l))=_
   exact lR c l
theorem rV:∀ (c:Nat),∀ d ∈ Lib.repeatL [48] c,d=48
 | 0,d,h=>by cases h
 | c+1,d,h=>by
   rcases List.mem_cons.1 (show d ∈ 48::Lib.repeatL [48] c from h) with h | h
   ·exact h
   ·exact rV c d h
def kQ (n:Nat):List UInt8:=Lib.repeatL [48] (8-(Lib.itoa (n:Int)).length)++Lib.itoa (n:Int)
theorem lX (n:Nat):Lib.itoa (n:Int)=Lib.decDigits n:=by unfold Lib.itoa;rw[if_neg (by omega)];simp
theorem iB {n:Nat} (h:n≤99999999):(kQ n).length=8:=by
 have a:=DT n h
 unfold kQ
 rw[List.length_append,Lib.repeatL_length,lX,Lib.decDigits_length]
 simp
 omega
theorem js {n:Nat} (h:n≤99999999):(∀ c ∈ kQ n,48≤c.toNat∧c.toNat≤57)∧ef 0 (kQ n)=n:=by
 obtain⟨b,d⟩:=oG n
 unfold kQ
 rw[lX,lR]
 refine⟨fun c a=>?_,d⟩
 rcases List.mem_append.1 a with a | a
 ·rw[rV _ c a];decide
 ·exact b c a
theorem wG {n:Nat} (h:n≤99999999):Lib.parseIntB 64 (kQ n) = .ok (n:Int):=by
 obtain⟨a,b⟩:=js h
 have d:=iB h
 have e:=Fa (kQ n) 0 a (by rw[b];exact h)
 generalize kQ n=l at *
 cases l with
 | nil=>simp at d
 | cons c r=>
   have f:=a c (by simp)
   unfold Lib.parseIntB
   simp only
   rw[if_neg (by omega)]
   unfold Lib.parseUintB
   rw[if_neg (by simp),show 2^64-1=18446744073709551615 from rfl,e,b]
   simp only
   rw[if_neg (by rintro⟨_,hh⟩;omega),if_neg (by rintro⟨hh,_⟩;omega),if_neg (by omega)]
theorem eF (n:Nat):(az n).data.toList = [115,101,103,46]++kQ n:=by
 unfold az kQ
 simp[ByteArray.data_append]
end
end Go.Proofs.YtpokkciheejeiaaGreatDoor
section
namespace Go.Proofs
open Go.Shelf
def Tryz.lays174_ren:Go.Shelf.Ren:=⟨fun | 174=>209 | 247=>253 | 245=>254 | 287=>271 | 279=>272 | 280=>273 | 281=>274 | 282=>275 | 321=>281 | 322=>282 | 316=>283 | 171=>285 | 205=>284 | 243=>287 | 246=>115 | 283=>181 | 284=>182 | 285=>183 | 286=>184 | 129=>235 | 317=>234 | 318=>236 | 319=>237 | 320=>238 | 337=>264 | 338=>265 | n=>n,fun | 9=>9 | 3=>3 | 2=>2 | 75=>199 | 85=>286 | 4=>4 | 167=>340 | 5=>5 | 53=>253 | 175=>341 | 46=>181 | 168=>343 | 37=>50 | 0=>0 | 210=>355 | 21=>21 | 127=>271 | 145=>360 | 143=>358 | 171=>262 | 173=>265 | 212=>307 | 51=>184 | 20=>20 | 213=>308 | 232=>349 | 233=>350 | 80=>203 | n=>n,fun | 15=>4 | 16=>5 | 17=>0 | 18=>2 | 19=>3 | n=>n⟩
theorem Tryz.lays174:Go.Proofs.LaysC.n174 Tryz.prog Tryz.lays174_ren:={
 mixed:=by kernel_rfl
 f129:=Tryz.func235.trans (congrArg some (by kernel_rfl))
 f171:=Tryz.func285.trans (congrArg some (by kernel_rfl))
 f174:=Tryz.func209.trans (congrArg some (by kernel_rfl))
 f205:=Tryz.func284.trans (congrArg some (by kernel_rfl))
 f243:=Tryz.func287.trans (congrArg some (by kernel_rfl))
 f245:=Tryz.func254.trans (congrArg some (by kernel_rfl))
 f246:=Tryz.func115.trans (congrArg some (by kernel_rfl))
 f247:=Tryz.func253.trans (congrArg some (by kernel_rfl))
 f279:=Tryz.func272.trans (congrArg some (by kernel_rfl))
 f280:=Tryz.func273.trans (congrArg some (by kernel_rfl))
 f281:=Tryz.func274.trans (congrArg some (by kernel_rfl))
 f282:=Tryz.func275.trans (congrArg some (by kernel_rfl))
 f283:=Tryz.func181.trans (congrArg some (by kernel_rfl))
 f284:=Tryz.func182.trans (congrArg some (by kernel_rfl))
 f285:=Tryz.func183.trans (congrArg some (by kernel_rfl))
 f286:=Tryz.func184.trans (congrArg some (by kernel_rfl))
 f287:=Tryz.func271.trans (congrArg some (by kernel_rfl))
 f316:=Tryz.func283.trans (congrArg some (by kernel_rfl))
 f317:=Tryz.func234.trans (congrArg some (by kernel_rfl))
 f318:=Tryz.func236.trans (congrArg some (by kernel_rfl))
 f319:=Tryz.func237.trans (congrArg some (by kernel_rfl))
 f320:=Tryz.func238.trans (congrArg some (by kernel_rfl))
 f321:=Tryz.func281.trans (congrArg some (by kernel_rfl))
 f322:=Tryz.func282.trans (congrArg some (by kernel_rfl))
 f337:=Tryz.func264.trans (congrArg some (by kernel_rfl))
 f338:=Tryz.func265.trans (congrArg some (by kernel_rfl))
 t0:=Tryz.underlying0
 a0:=Tryz.isAgg0
 z0:=Tryz.sizeOf0
 v0:=Tryz.zeroValue0
 t2:=Tryz.underlying2
 a2:=Tryz.isAgg2
 z2:=Tryz.sizeOf2
 v2:=Tryz.zeroValue2
 t3:=Tryz.underlying3
 a3:=Tryz.isAgg3
 z3:=Tryz.sizeOf3
 v3:=Tryz.zeroValue3
 t4:=Tryz.underlying4
 a4:=Tryz.isAgg4
 z4:=Tryz.sizeOf4
 v4:=Tryz.zeroValue4
 t5:=Tryz.underlying5
 a5:=Tryz.isAgg5
 z5:=Tryz.sizeOf5
 v5:=Tryz.zeroValue5
 t9:=Tryz.underlying9
 a9:=Tryz.isAgg9
 z9:=Tryz.sizeOf9
 v9:=Tryz.zeroValue9
 t20:=Tryz.underlying20
 a20:=Tryz.isAgg20
 z20:=Tryz.sizeOf20
 v20:=Tryz.zeroValue20
 t21:=Tryz.underlying21
 a21:=Tryz.isAgg21
 z21:=Tryz.sizeOf21
 v21:=Tryz.zeroValue21
 t37:=Tryz.underlying50
 a37:=Tryz.isAgg50
 z37:=Tryz.sizeOf50
 v37:=Tryz.zeroValue50
 t46:=Tryz.underlying181
 a46:=Tryz.isAgg181
 z46:=Tryz.sizeOf181
 v46:=Tryz.zeroValue181
 t51:=Tryz.underlying184
 a51:=Tryz.isAgg184
 z51:=Tryz.sizeOf184
 v51:=Tryz.zeroValue184
 t53:=Tryz.underlying253
 a53:=Tryz.isAgg253
 z53:=Tryz.sizeOf253
 v53:=Tryz.zeroValue253
 t75:=Tryz.underlying199
 a75:=Tryz.isAgg199
 z75:=Tryz.sizeOf199
 v75:=Tryz.zeroValue199
 t85:=Tryz.underlying286
 a85:=Tryz.isAgg286
 z85:=Tryz.sizeOf286
 v85:=Tryz.zeroValue286
 t127:=Tryz.underlying271
 a127:=Tryz.isAgg271
 z127:=Tryz.sizeOf271
 v127:=Tryz.zeroValue271
 t143:=Tryz.underlying358
 a143:=Tryz.isAgg358
 z143:=Tryz.sizeOf358
 v143:=Tryz.zeroValue358
 t145:=Tryz.underlying360
 a145:=Tryz.isAgg360
 z145:=Tryz.sizeOf360
 v145:=Tryz.zeroValue360
 t167:=Tryz.underlying340
 a167:=Tryz.isAgg340
 z167:=Tryz.sizeOf340
 v167:=Tryz.zeroValue340
 t168:=Tryz.underlying343
 a168:=Tryz.isAgg343
 z168:=Tryz.sizeOf343
 v168:=Tryz.zeroValue343
 t171:=Tryz.underlying262
 a171:=Tryz.isAgg262
 z171:=Tryz.sizeOf262
 v171:=Tryz.zeroValue262
 t173:=Tryz.underlying265
 a173:=Tryz.isAgg265
 z173:=Tryz.sizeOf265
 v173:=Tryz.zeroValue265
 t175:=Tryz.underlying341
 a175:=Tryz.isAgg341
 z175:=Tryz.sizeOf341
 v175:=Tryz.zeroValue341
 t210:=Tryz.underlying355
 a210:=Tryz.isAgg355
 z210:=Tryz.sizeOf355
 v210:=Tryz.zeroValue355
 t212:=Tryz.underlying307
 a212:=Tryz.isAgg307
 z212:=Tryz.sizeOf307
 v212:=Tryz.zeroValue307
 t213:=Tryz.underlying308
 a213:=Tryz.isAgg308
 z213:=Tryz.sizeOf308
 t232:=Tryz.underlying349
 a232:=Tryz.isAgg349
 z232:=Tryz.sizeOf349
 v232:=Tryz.zeroValue349
 t233:=Tryz.underlying350
 a233:=Tryz.isAgg350
 z233:=Tryz.sizeOf350
 v233:=Tryz.zeroValue350
 g15:=by kernel_rfl
 g16:=by kernel_rfl
 g17:=by kernel_rfl
 g18:=by kernel_rfl
 g19:=by kernel_rfl
 t80:=Tryz.underlying203
 a80:=Tryz.isAgg203
 z80:=Tryz.sizeOf203
 v80:=Tryz.zeroValue203
 i0:=by kernel_rfl
 i2:=by kernel_rfl
 i3:=by kernel_rfl
 i4:=by kernel_rfl
 i5:=by kernel_rfl
 i9:=by kernel_rfl
 i20:=by kernel_rfl
 i21:=by kernel_rfl
 i37:=by kernel_rfl
 i46:=by kernel_rfl
 i51:=by kernel_rfl
 i53:=by kernel_rfl
 i75:=by kernel_rfl
 i80:=by kernel_rfl
 i85:=by kernel_rfl
 i127:=by kernel_rfl
 i143:=by kernel_rfl
 i145:=by kernel_rfl
 i167:=by kernel_rfl
 i168:=by kernel_rfl
 i171:=by kernel_rfl
 i173:=by kernel_rfl
 i175:=by kernel_rfl
 i210:=by kernel_rfl
 i212:=by kernel_rfl
 i232:=by kernel_rfl
 i233:=by kernel_rfl
 m15:=by kernel_rfl
 m16:=by kernel_rfl
 m17:=by kernel_rfl
 m18:=by kernel_rfl
 m19:=by kernel_rfl
 c0:=by kernel_rfl
 c2:=by kernel_rfl
 c3:=by kernel_rfl
 c4:=by kernel_rfl
 c5:=by kernel_rfl
 c9:=by kernel_rfl
 c20:=by kernel_rfl
 c21:=by kernel_rfl
 c37:=by kernel_rfl
 c46:=by kernel_rfl
 c51:=by kernel_rfl
 c53:=by kernel_rfl
 c75:=by kernel_rfl
 c80:=by kernel_rfl
 c85:=by kernel_rfl
 c127:=by kernel_rfl
 c143:=by kernel_rfl
 c145:=by kernel_rfl
 c167:=by kernel_rfl
 c168:=by kernel_rfl
 c171:=by kernel_rfl
 c173:=by kernel_rfl
 c175:=by kernel_rfl
 c210:=by kernel_rfl
 c212:=by kernel_rfl
 c213:=by kernel_rfl
 c232:=by kernel_rfl
 c233:=by kernel_rfl }
end Go.Proofs
namespace Go.Proofs.YtpokkciheejeiaaGreatDoor
open Go.RowKit
theorem CP (s:ByteArray) (n:Nat) (a:s.data.toList=kQ n) (b:n≤99999999) (w:World):Calls Tryz.prog 209 #[.string s,.int .i64 10,.int .i64 64] w fun e w'=>e = .returned (.tuple #[.int .i64 (n:Int),.nilIface])∧Below w.heap.size w w':=by
 have c:s.size=8:=by show s.data.size=8;rw[←Array.length_toList,a,iB b]
 refine(Any.strconv_ParseInt_10_at64_ok Tryz.lays174 s (by omega) (n:Int) (by rw[a];exact wG b) w).mono ?_
 rintro e w' ⟨rfl,rfl | ⟨t,rfl⟩⟩
 ·exact⟨rfl,Below.refl _ _⟩
 ·exact⟨rfl,Lib.below_freeze (((Below.refl _ w).drew).alloc (Nat.le_refl _) _) (p:=⟨w.heap.size,_,none⟩) (Nat.le_refl _) _⟩
theorem FV (s:ByteArray) (b:Bool) (c:4≤s.size) (a:((s.extract 0 4).toList == [115,101,103,46])=b) (w:World):Calls Tryz.prog 187 #[.string s,.string ⟨#[115,101,103,46]⟩] w fun e w'=>e = .returned (.bool b)∧w=w':=by
 have d:(4:Int)≤(s.size:Int):=by omega
 go_enter Tryz.func187,Tryz.ntmps187
 go_wp2
 go_ret
 exact⟨by simp,rfl⟩
theorem vH (s:ByteArray) (a:s.size<4) (w:World):Calls Tryz.prog 187 #[.string s,.string ⟨#[115,101,103,46]⟩] w fun e w'=>e = .returned (.bool false)∧w=w':=by
 have b:¬ (4:Int)≤(s.size:Int):=by omega
 go_enter Tryz.func187,Tryz.ntmps187
 go_wp2
 go_ret
 exact⟨by simp,rfl⟩
def preB (s:ByteArray):Bool:=decide (4≤s.size)&&((s.extract 0 4).toList == [115,101,103,46])
theorem uK (s:ByteArray) (w:World):Calls Tryz.prog 187 #[.string s,.string ⟨#[115,101,103,46]⟩] w fun e w'=>e = .returned (.bool (preB s))∧w=w':=by
 unfold preB
 by_cases h:4≤s.size
 ·rw[decide_eq_true h,Bool.true_and]
  exact FV s _ h rfl w
 ·rw[decide_eq_false h,Bool.false_and]
  exact vH s (by omega) w
theorem EJ (s:ByteArray) (h:preB s=false) (w:World):Calls Tryz.prog 208 #[.string s,.string ⟨#[115,101,103,46]⟩] w fun e w'=>e = .returned (.tuple #[.string s,.bool false])∧w=w':=by
 go_enter Tryz.func208,Tryz.ntmps208
 go_wp2_with fail
 have H:Calls Tryz.prog 252 #[.string s,.string ⟨#[115,101,103,46]⟩] w fun e w'=>e = .returned (.tuple #[.string s,.bool false])∧w=w':=by
  go_enter Tryz.func252,Tryz.ntmps252
  go_wp2_with fail
  refine(uK s w).mono ?_
  rw[h]
  rintro e a ⟨rfl,rfl⟩
  go_wp2
  go_ret2
  exact⟨rfl,rfl⟩
 refine H.mono ?_
 rintro e a ⟨rfl,rfl⟩
 go_wp2
 go_ret2
 exact⟨rfl,rfl⟩
theorem Cp (s d:ByteArray) (h:preB s=true) (b:s.size=12) (c:s.extract 4 12=d) (w:World):Calls Tryz.prog 208 #[.string s,.string ⟨#[115,101,103,46]⟩] w fun e w'=>e = .returned (.tuple #[.string d,.bool true])∧w=w':=by
 go_enter Tryz.func208,Tryz.ntmps208
 go_wp2_with fail
 have H:Calls Tryz.prog 252 #[.string s,.string ⟨#[115,101,103,46]⟩] w fun e w'=>e = .returned (.tuple #[.string d,.bool true])∧w=w':=by
  go_enter Tryz.func252,Tryz.ntmps252
  go_wp2_with fail
  refine(uK s w).mono ?_
  rw[h]
  rintro e a ⟨rfl,rfl⟩
  go_wp2
  go_ret2
  exact⟨rfl,rfl⟩
 refine H.mono ?_
 rintro e a ⟨rfl,rfl⟩
 go_wp2
 go_ret2
 exact⟨rfl,rfl⟩
theorem fN {n:Nat} (h:n≤99999999):(az n).size=12∧((az n).extract 0 4).toList = [115,101,103,46]∧((az n).extract 4 12).data.toList=kQ n:=by
 have a:=eF n
 have b:=iB h
 refine⟨?_,?_,?_⟩
 ·show(az n).data.size=12
  rw[←Array.length_toList,a,List.length_append,b]
  rfl
 ·rw[ByteArray.toList_eq,ByteArray.data_extract,Array.toList_extract,a]
  rfl
 ·rw[ByteArray.data_extract,Array.toList_extract,a]
  simp
  exact List.take_of_length_le (by omega)
theorem zY (n:Nat) (o:1≤n) (a:n≤99999999) (w:World) (k:aV w):
 Calls Tryz.prog 140 #[.string (az n)] w fun e w'=>e = .returned (.int .i64 (n:Int))∧Below w.heap.size w w':=by
 obtain⟨i,j,g⟩:=fN a
 have m:=fun W (hW:aV W)=>Lib.hid (dS n o a W hW)
 generalize az n=s at *
 have p:(s.extract 4 12).size=8:=by show(s.extract 4 12).data.size=8;rw[←Array.length_toList,g,iB a]
 have hpre:((s.extract 0 4).toList == [115,101,103,46])=true:=by rw[j];rfl
 have l:=fun W=>Lib.hid (CP (s.extract 4 12) n g a W)
 generalize q:s.extract 4 12=d at *
 have v:¬ (n:Int)<1:=by omega
 have u:(s.toList == s.toList)=true:=by simp
 go_enter Tryz.func140,Tryz.ntmps140
 go_wp2_with fail
 refine(Cp s d (by unfold preB;rw[hpre,i];rfl) i q _).mono ?_
 rintro e t ⟨rfl,rfl⟩
 go_wp2_with fail
 refine(l _).out.mono ?_
 rintro e r ⟨rfl,f⟩
 have c:=k.on f
 go_wp2_with fail
 refine(m _ c).out.mono ?_
 rintro e x ⟨rfl,b⟩
 go_wp2
 go_ret
 exact⟨rfl,(((hstart (X:=[]) (fun _ h=>by cases h)).on f).on b).below⟩
theorem yE (s:ByteArray) (h:preB s=false) (w:World):Calls Tryz.prog 140 #[.string s] w fun e w'=>e = .returned (.int .i64 0)∧Below w.heap.size w w':=by
 go_enter Tryz.func140,Tryz.ntmps140
 go_wp2_with fail
 refine(EJ s h _).mono ?_
 rintro e a ⟨rfl,rfl⟩
 go_wp2
 go_ret
 exact⟨rfl,Below.refl _ _⟩
end Go.Proofs.YtpokkciheejeiaaGreatDoor
end
namespace Go.Proofs.YtpokkciheejeiaaGreatDoor
section
open Go.RowKit
def eL:Cx→List Evt→List UInt8
 | _,[] => []
 | c,e::l=>av 2 (aQ c e)++eL (bJ c e) l
def ei:Cx→List Evt→Cx
 | c,[]=>c
 | c,e::l=>ei (bJ c e) l
def okL:Cx→List Evt→Prop
 | _,[]=>True
 | c,e::l=>eG c e=0∧okL (bJ c e) l
theorem lI:∀ (c:Cx) (l:List Evt) (e:Evt),eL c (l ++ [e])=eL c l++av 2 (aQ (ei c l) e)
 | c,[],e=>by simp[eL,ei]
 | c,x::l,e=>by simp[eL,ei,lI (bJ c x) l e]
theorem nr:∀ (c:Cx) (l:List Evt) (e:Evt),ei c (l ++ [e])=bJ (ei c l) e
 | c,[],e=>rfl
 | c,x::l,e=>nr (bJ c x) l e
theorem oD:∀ (c:Cx) (l:List Evt) (e:Evt),okL c (l ++ [e]) ↔ okL c l∧eG (ei c l) e=0
 | c,[],e=>by simp[okL,ei]
 | c,x::l,e=>by simp[okL,ei,oD (bJ c x) l e,and_assoc]
theorem kz:∀ (c:Cx) (l:List Evt),aN c=true→okL c l→aN (ei c l)=true
 | c,[],h,_=>h
 | c,x::l,h,hk=>kz (bJ c x) l (ji hk.1) hk.2
def fU (s:Scn):List UInt8:=
 if s.num=0 then [] else av 1 (aR++aS s.num s.bq s.ba)++eL ⟨s.bq,s.ba,[]⟩ s.evs++(if s.sealed=true then av 3 (aS (s.evs.length:Int) s.c.q s.c.a) else [])
structure qE (s:Scn):Prop where
 none_:s.num=0→s.evs = []∧s.sealed=false
 num:s.num≠0→eE s.num=true∧aN ⟨s.bq,s.ba,[]⟩=true∧okL ⟨s.bq,s.ba,[]⟩ s.evs∧s.c=ei ⟨s.bq,s.ba,[]⟩ s.evs
theorem oP (bs:List UInt8) (i x:Int) (v:Nat) (h:bT bs i 0=(x,0,v)):0≤i∧i≤x∧x≤(bs.length:Int)∧au v=(bs.drop i.toNat).take (x-i).toNat∧v<18446744073709551616:=by
 have a:=kF bs i 0
 obtain⟨-,j,d,b,e⟩:=hJ bs i 0 x v h
 rw[h]at a
 unfold bT at h
 rw[if_pos ⟨b,by omega,rfl⟩]at h
 split at h
 ·rename_i c
  simp only[Prod.mk.injEq,true_and]at h
  obtain⟨k,f⟩:=h
  have g:=lN (bE (bs.drop i.toNat)) (kJ _) 0 (cq 0 (bE (bs.drop i.toNat))).2.1 (cq 0 (bE (bs.drop i.toNat))).2.2 (by omega) (Prod.ext c (Prod.ext rfl rfl))
  refine⟨b,e,d,?_,a⟩
  apply Au
  rw[pY,qz,←f,g.2.1]
  congr 1
  omega
 ·rename_i c
  simp only[Prod.mk.injEq]at h
  omega
theorem ij {α:Type} (l:List α) (a b:Nat) (h:a≤b):l.take a++(l.drop a).take (b-a)=l.take b:=by
 rw[←List.take_append_drop a (l.take b),List.take_take,Nat.min_eq_left h,List.drop_take]
theorem pH {v:Nat} (a:v<18446744073709551616) (h:0≤wrap64 (v:Int)):wrap64 (v:Int)=(v:Int):=by
 unfold wrap64 at h ⊢
 omega
theorem vI {s s':Scn} {p:List UInt8} (h:gO s p=some s'):∃ num q a,eE num=true∧aN ⟨q,a,[]⟩=true∧p=aR++aS num q a∧s'={ s with num:=num,bq:=q,ba:=a,c:=⟨q,a,[]⟩ }:=by
 unfold gO at h
 split at h
 ·rename_i B
  simp only at h
  split at h
  ·cases h
  ·rename_i g
   injection h with h
   obtain⟨t,y⟩:=List.isPrefixOf_iff_prefix.1 B
   have M:p.drop 4=t:=by rw[←y];rfl
   rw[M]at g h
   unfold three at g h
   simp only at g h
   simp only[not_or,ne_eq,Decidable.not_not]at g
   obtain⟨d,e,o,b⟩:=g
   rcases hr1:bT t 0 0 with⟨i,r,m⟩
   rw[hr1]at d e o b h
   simp only at d e o b h
   rcases hr2:bT t i r with⟨f,n,k⟩
   rw[hr2]at d e b h
   simp only at d e b h
   rcases hr3:bT t f n with⟨w,E,j⟩
   rw[hr3]at d e b h
   simp only at d e b h
   subst d
   obtain⟨rfl,-⟩:=hJ _ _ _ _ _ hr3
   obtain⟨rfl,-⟩:=hJ _ _ _ _ _ hr2
   obtain⟨a1,V,U,D,C⟩:=oP _ _ _ _ hr1
   obtain⟨R,P,W,N,I⟩:=oP _ _ _ _ hr2
   obtain⟨O,S,X,K,A⟩:=oP _ _ _ _ hr3
   have l:eE (wrap64 (m:Int))=true:=by simpa using o
   have u:aN ⟨wrap64 (k:Int),wrap64 (j:Int),[]⟩=true:=by simpa using b
   have x:wrap64 (m:Int)=(m:Int):=pH C (by unfold eE at l;simp only[Bool.and_eq_true,decide_eq_true_eq]at l;omega)
   obtain⟨J,T,G,Q⟩:=eR u
   have v:wrap64 (k:Int)=(k:Int):=pH I J
   have z:wrap64 (j:Int)=(j:Int):=pH A G
   rw[x,v,z]at h
   rw[x]at l
   rw[v,z]at u
   refine⟨(m:Int),(k:Int),(j:Int),l,u,?_,h.symm⟩
   rw[←y]
   unfold aS
   simp only[Int.toNat_natCast]
   rw[D,N,K]
   congr 1
   have F:(List.drop (0:Int).toNat t).take (i-0).toNat=t.take i.toNat:=by simp
   have H:(f-i).toNat=f.toNat-i.toNat:=by omega
   have L:(w-f).toNat=w.toNat-f.toNat:=by omega
   rw[F,H,L,ij _ _ _ (by omega),ij _ _ _ (by omega),List.take_of_length_le (by omega)]
 ·cases h
theorem yG:qE bP:=⟨fun _=>⟨rfl,rfl⟩,fun h=>absurd rfl h⟩
theorem pJ {s s':Scn} {kind:Int} {p:List UInt8} (h:cM s kind p=some s') (l:qE s):qE s'∧fU s'=fU s++av kind p∧s.sealed=false∧s'.evs.take s.evs.length=s.evs∧s.evs.length≤s'.evs.length∧s'.num≠0:=by
 unfold cM at h
 split at h
 ·cases h
 rename_i c
 have c:s.sealed=false:=by simpa using c
 split at h
 ·rename_i b
  split at h
  ·rename_i f
   subst f
   obtain⟨num,q,a,j,t,rfl,rfl⟩:=vI h
   obtain⟨i,-⟩:=l.none_ b
   have d:num≠0:=by unfold eE at j;simp only[Bool.and_eq_true,decide_eq_true_eq]at j;omega
   refine⟨⟨fun e=>absurd e d,fun _=>⟨j,t,by simp only[i];trivial,by simp only[i];rfl⟩⟩,?_,c,by simp,by simp,d⟩
   unfold fU
   rw[if_pos b,if_neg d]
   simp only[i,c]
   simp[eL]
  ·cases h
 ·rename_i b
  obtain⟨o,m,n,g⟩:=l.num b
  split at h
  ·rename_i f
   subst f
   unfold rH at h
   split at h
   ·rename_i u
    obtain⟨-,-,x,v,r,w⟩:=pZ u
    injection h with h
    subst h
    refine⟨⟨fun e=>absurd e b,fun _=>⟨o,m,?_,?_⟩⟩,?_,c,by simp,by simp,b⟩
    ·exact(oD _ _ _).2 ⟨n,by rw[←g];exact v⟩
    ·simp only[nr,←g];exact w
    ·unfold fU
     rw[if_neg b,if_neg b]
     simp only[c]
     rw[lI,←g,r]
     simp
   ·cases h
  ·split at h
   ·rename_i f
    subst f
    split at h
    ·rename_i k
     rw[beq_iff_eq]at k
     injection h with h
     subst h
     refine⟨⟨fun e=>absurd e b,fun _=>⟨o,m,n,g⟩⟩,?_,c,by simp,by simp,b⟩
     unfold fU
     rw[if_neg b,if_neg b]
     simp only[c]
     rw[k]
     simp
    ·cases h
   ·cases h
structure fT (bs:List UInt8) (s:Scn):Prop where
 good:qE s
 lo:0≤s.size
 hi:s.size≤(bs.length:Int)
 built:bs.take s.size.toNat=fU s
theorem tr (s:Scn) (k:Int):fU { s with size:=k }=fU s:=rfl
theorem fT.on {bs:List UInt8} {s s':Scn} {x:UInt8} {p:List UInt8} (h:fT bs s) (d:dQ bs s.size = .inr (x,p)) (f:cM s (x.toNat:Int) p=some s'):fT bs { s' with size:=s.size+((p.length:Int)+7) }:=by
 obtain⟨a1,l,k,j,i,g⟩:=jV _ _ _ _ d
 obtain⟨a,c,-⟩:=pJ f h.good
 have b:=h.lo
 refine⟨⟨fun e=>a.none_ e,fun e=>a.num e⟩,by simp only;omega,by simp only;omega,?_⟩
 rw[tr,c,←h.built,←g]
 simp only
 rw[show p.length+7=(s.size+((p.length:Int)+7)).toNat-s.size.toNat from by omega,ij _ _ _ (by omega)]
theorem lV {bs:List UInt8} {P:Scn→Scn×Int→Prop} (hend:∀ s what,fT bs s→dQ bs s.size = .inl what→P s (s,cE (what:Int) s.sealed))
 (hnot:∀ s x p,fT bs s→dQ bs s.size = .inr (x,p)→cM s (x.toNat:Int) p=none→P s (s,cE 0 s.sealed))
 (a:∀ s s' x p r,fT bs s→dQ bs s.size = .inr (x,p)→cM s (x.toNat:Int) p=some s'→P { s' with size:=s.size+((p.length:Int)+7) } r→P s r):
 ∀ (k:Nat) (s:Scn),fT bs s→(bs.length:Int)+1-s.size≤k→P s (aT bs s)
 | 0,s,h,hk=>by have:=h.hi;omega
 | k+1,s,h,hk=>by
   cases hn:dQ bs s.size with
   | inl what=>rw[gE hn];exact hend s what h hn
   | inr xp=>
     obtain⟨x,p⟩:=xp
     cases ht:cM s (x.toNat:Int) p with
     | none=>rw[kP hn ht];exact hnot s x p h hn ht
     | some s'=>
       rw[iH hn ht]
       refine a s s' x p _ h hn ht (lV hend hnot a k _ (h.on hn ht) ?_)
       simp only
       omega
theorem EW (bs:List UInt8):fT bs bP:=⟨yG,Int.le_refl _,by simp[bP],by simp[bP,fU]⟩
theorem qa (bs:List UInt8):fT bs (aT bs bP).1∧((aT bs bP).2=1∨(aT bs bP).2=4→(aT bs bP).1.size=(bs.length:Int)∧(((aT bs bP).2=4) ↔ (aT bs bP).1.sealed=true)):=by
 refine lV (P:=fun s r=>fT bs r.1∧(r.2=1∨r.2=4→r.1.size=(bs.length:Int)∧(r.2=4 ↔ r.1.sealed=true))) ?_ ?_ ?_ (bs.length+1) bP (EW bs) (by simp[bP])
 ·intro s what h b
  refine⟨h,fun a=>?_⟩
  obtain⟨g,i,d⟩:=mY _ _ _ b
  simp only at a ⊢
  unfold cE at a ⊢
  by_cases c:(what:Int)=1
  ·rw[if_pos c]at a ⊢
   refine⟨d.1 (by omega),?_⟩
   cases s.sealed<;>simp
  ·rw[if_neg c]at a
   split at a<;>omega
 ·intro s x p h b f
  refine⟨h,fun a=>?_⟩
  simp only at a
  unfold cE at a
  rw[if_neg (by omega),if_neg (by simp)]at a
  omega
 ·intro s s' x p r h b f e
  exact e
theorem xK:∀ (c:Cx) (l:List Evt),okL c l → ∀ e ∈ l,dz e=0
 | c,x::l,h,e,a=>by
   rcases List.mem_cons.1 a with rfl | a
   ·exact(jZ h.1).2.1
   ·exact xK _ l h.2 e a
theorem sU:∀ (c:Cx) (l:List Evt),okL c l → ∀ (i:Nat) (a b:Evt),l[i]?=some a→l[i+1]?=some b→a.q<b.q∧a.a≤b.a
 | c,[x],h,0,a,b,ha,hb=>by simp at hb
 | c,x::y::l,h,0,a,b,ha,hb=>by
   simp at ha hb
   subst ha hb
   have d:=jZ h.2.1
   exact⟨d.2.2.1,d.2.2.2.1⟩
 | c,x::l,h,i+1,a,b,ha,hb=>sU (bJ c x) l h.2 i a b (by simpa using ha) (by simpa using hb)
theorem Ez {s:Scn} (h:qE s):∃ c,okL c s.evs:=by
 by_cases a:s.num=0
 ·exact⟨⟨0,0,[]⟩,by rw[(h.none_ a).1];trivial⟩
 ·exact⟨_,(h.num a).2.2.1⟩
theorem tI (bs:List UInt8):(∀ e ∈ (aT bs bP).1.evs,dz e=0)∧(∀ (i:Nat) (a b:Evt),(aT bs bP).1.evs[i]?=some a→(aT bs bP).1.evs[i+1]?=some b→a.q<b.q∧a.a≤b.a):=by
 obtain⟨c,d⟩:=Ez (qa bs).1.good
 exact⟨xK c _ d,sU c _ d⟩
def eo (num:Int) (c:Cx) (l:List Evt) (sealed:Bool):List UInt8:=av 1 (aR++aS num c.q c.a)++eL c l++(if sealed=true then av 3 (aS (l.length:Int) (ei c l).q (ei c l).a) else [])
theorem nG {r:List UInt8} {k:Nat}:(∀ x p,ew (r.take k) = .inr (x,p)→ew r = .inr (x,p))∧(∀ x p,ew r = .inr (x,p)→p.length+7≤k→ew (r.take k) = .inr (x,p))∧(∀ x p what,ew r = .inr (x,p)→ew (r.take k) = .inl what→what≠3):=by
 have key:∀ x p,ew r = .inr (x,p)→1≤(x.toNat:Int)∧(x.toNat:Int)≤3∧p.length≤200 ∧ ∃ q,r=av (x.toNat:Int) p++q:=by
  intro x p h
  obtain⟨b,c,a,g,f⟩:=jO _ _ _ h
  exact⟨b,c,a,r.drop (p.length+7),by rw[←f,List.take_append_drop]⟩
 refine⟨fun x p h=>?_,fun x p h d=>?_,fun x p what h h'=>?_⟩
 ·obtain⟨b,c,a,g,f⟩:=jO _ _ _ h
  have e:r=av (x.toNat:Int) p++r.drop (p.length+7):=by
   rw[←f,List.take_take]
   rw[List.length_take]at g
   rw[Nat.min_eq_left (by omega),List.take_append_drop]
  rw[e,dJ _ _ _ b c a]
  congr 2
  simp
 ·obtain⟨b,c,a,q,rfl⟩:=key x p h
  rw[List.take_append,aW,List.take_of_length_le (by rw[aW];exact d),dJ _ _ _ b c a]
  congr 2
  simp
 ·obtain⟨b,c,a,q,rfl⟩:=key x p h
  rintro rfl
  by_cases d:p.length+7≤k
  ·rw[List.take_append,aW,List.take_of_length_le (by rw[aW];exact d),dJ _ _ _ b c a]at h'
   cases h'
  ·rw[List.take_append_of_le_length (by rw[aW];omega)]at h'
   have e:av (x.toNat:Int) p=UInt8.ofNat (p.length/256)::UInt8.ofNat (p.length%256)::UInt8.ofNat (x.toNat:Int).toNat::(p++kU (pW cZ 0 (bE (iy p.length (x.toNat:Int)++p)))):=by
    unfold av fK iy
    simp
   have i:(p++kU (pW cZ 0 (bE (iy p.length (x.toNat:Int)++p)))).length=p.length+4:=by rw[List.length_append,fm]
   generalize p++kU (pW cZ 0 (bE (iy p.length (x.toNat:Int)++p)))=t at e i
   rw[e]at h'
   match k,d,h' with
   | 0,_,h'=>simp[ew]at h'
   | 1,_,h'=>simp[ew]at h'
   | 2,_,h'=>simp[ew]at h'
   | k+3,d,h'=>
     simp only[List.take_succ_cons]at h'
     rw[lU]at h'
     have j:256*(UInt8.ofNat (p.length/256)).toNat+(UInt8.ofNat (p.length%256)).toNat=p.length:=by simp;omega
     rw[j]at h'
     split at h'
     ·cases h'
     ·rw[if_neg (by omega),if_pos (by rw[List.length_take];omega)]at h'
      cases h'
theorem nA {bs:List UInt8} {k:Nat} {at_:Int} (c:0≤at_) (d:k≤bs.length) (b:at_≤(k:Int)):dQ (bs.take k) at_=ew ((bs.drop at_.toNat).take (k-at_.toNat))∧dQ bs at_=ew (bs.drop at_.toNat):=by
 obtain⟨a,rfl⟩:=Int.eq_ofNat_of_zero_le c
 have b:a≤k:=by omega
 refine⟨?_,fX _ _ (by omega)⟩
 rw[fX _ _ (by rw[List.length_take];omega),Int.toNat_natCast,List.drop_take]
theorem CR (bs:List UInt8) (k:Nat) (o:k≤bs.length):(aT (bs.take k) bP).1.evs=(aT bs bP).1.evs.take (aT (bs.take k) bP).1.evs.length∧((aT bs bP).2=1∨(aT bs bP).2=4→(aT (bs.take k) bP).2≠3):=by
 have mono:∀ (m:Nat) (s:Scn),fT bs s→(bs.length:Int)+1-s.size≤m→(aT bs s).1.evs.take s.evs.length=s.evs∧s.evs.length≤(aT bs s).1.evs.length:=by
  refine lV (P:=fun s r=>r.1.evs.take s.evs.length=s.evs∧s.evs.length≤r.1.evs.length) ?_ ?_ ?_
  ·intro s what h a;simp
  ·intro s x p h a f;simp
  ·intro s s' x p r h a f n
   obtain⟨-,-,-,A,z,-⟩:=pJ f h.good
   simp only at n
   refine⟨?_,by omega⟩
   have e:r.1.evs.take s.evs.length=(r.1.evs.take s'.evs.length).take s.evs.length:=by rw[List.take_take,Nat.min_eq_left z]
   rw[e,n.1,A]
 have key:∀ (m:Nat) (s:Scn),fT (bs.take k) s→((bs.take k).length:Int)+1-s.size≤m→(aT (bs.take k) s).1.evs=(aT bs s).1.evs.take (aT (bs.take k) s).1.evs.length∧((aT bs s).2=1∨(aT bs s).2=4→(aT (bs.take k) s).2≠3):=by
  have l:(bs.take k).length=k:=by rw[List.length_take];omega
  refine lV (P:=fun s r=>r.1.evs=(aT bs s).1.evs.take r.1.evs.length∧((aT bs s).2=1∨(aT bs s).2=4→r.2≠3)) ?_ ?_ ?_
  ·intro s what h a
   have w:fT bs s:=⟨h.good,h.lo,by have:=h.hi;rw[l]at this;omega,by
    have j:=h.built
    have d:=h.hi
    rw[l]at d
    rw[List.take_take,Nat.min_eq_left (by omega)]at j
    exact j⟩
   refine⟨?_,fun c=>?_⟩
   ·exact(mono _ s w (Int.self_le_toNat _)).1.symm
   ·have d:=h.hi
    rw[l]at d
    obtain⟨i,g⟩:=nA h.lo o d
    rw[i]at a
    cases b:dQ bs s.size with
    | inl w2=>
      rw[gE b]at c
      simp only at c ⊢
      obtain⟨C,y,B⟩:=mY _ _ _ b
      have q:w2=1:=by
       unfold cE at c
       by_cases v:(w2:Int)=1
       ·omega
       ·rw[if_neg v]at c
        split at c<;>omega
      have u:=B.1 q
      have:bs.drop s.size.toNat = []:=by rw[List.drop_eq_nil_iff];omega
      rw[this]at a
      simp[ew]at a
      subst a
      unfold cE
      rw[if_pos (by omega)]
      split<;>omega
    | inr xp=>
      obtain⟨x,p⟩:=xp
      rw[g]at b
      have v:=nG.2.2 x p what b a
      obtain⟨E,D,-⟩:=qH _ _ a
      simp only
      have t:s.sealed=false:=by
       cases u:s.sealed with
       | false=>rfl
       | true=>
         have f:cM s (x.toNat:Int) p=none:=by unfold cM;rw[if_pos u]
         rw[←g]at b
         rw[kP b f]at c
         simp only at c
         unfold cE at c
         rw[if_neg (by omega),if_neg (by simp)]at c
         omega
      unfold cE
      rw[t]
      by_cases j:(what:Int)=1
      ·rw[if_pos j];simp
      ·rw[if_neg j,if_pos ⟨by omega,rfl⟩];omega
  ·intro s x p h a f
   have d:=h.hi
   rw[l]at d
   obtain⟨i,g⟩:=nA h.lo o d
   rw[i]at a
   have b:=nG.1 x p a
   rw[←g]at b
   rw[kP b f]
   simp only
   refine⟨by simp,fun c=>?_⟩
   unfold cE at c
   rw[if_neg (by omega),if_neg (by simp)]at c
   omega
  ·intro s s' x p r h a f n
   have d:=h.hi
   rw[l]at d
   obtain⟨i,g⟩:=nA h.lo o d
   rw[i]at a
   have b:=nG.1 x p a
   rw[←g]at b
   rw[iH b f]
   exact n
 exact key _ bP (EW _) (Int.self_le_toNat _)
end
section
open Go.RowKit
theorem gJ {c:Cx} {e:Evt} (h:eG c e=0):(aQ c e).length≤104:=by
 obtain⟨d,l,T,I,t⟩:=jZ h
 obtain⟨m,o,g,j,a1,L,u,E⟩:=eD l
 obtain⟨⟨P,s⟩,⟨Q,N⟩,⟨r,D⟩,-,-⟩:=dI ⟨m,o⟩ j
 obtain⟨w,v,O,S⟩:=eR d
 have f:e.cm.size≤24:=by unfold fB at g;simp only[Bool.and_eq_true,decide_eq_true_iff]at g;exact g.2
 have p:placeOf c.ns e.cm.data.toList≤32:=by
  have H:=lK c.ns e.cm.data.toList
  have i:cK c.ns=true:=by unfold aN at d;simp only[Bool.and_eq_true,decide_eq_true_iff]at d;exact d.2
  unfold cK at i
  rw[decide_eq_true_iff]at i
  omega
 have C:=bu e.k.toNat (by omega)
 have J:=bu (e.q-c.q).toNat (by omega)
 have B:=bu (e.a-c.a).toNat (by omega)
 have G:=bu (placeOf c.ns e.cm.data.toList) (by omega)
 have A:(if placeOf c.ns e.cm.data.toList=0 then bG e.cm.data.toList else []).length≤34:=by
  split
  ·exact qT e.cm f
  ·exact Nat.zero_le _
 have M:((jQ e).flatMap (fun n=>au n.toNat)).length≤30:=by
  unfold jQ
  have F:=bu e.x.toNat (by omega)
  have R:=bu e.y.toNat (by omega)
  have K:=bu e.z.toNat (by omega)
  have b:=iD e.k
  rcases(by omega:cu e.k=0∨cu e.k=1∨cu e.k=2∨cu e.k=3) with b | b | b | b<;>(rw[b];simp;try omega)
 unfold aQ
 simp only[List.length_append]
 omega
def xU (c:Cx) (e0:Evt) (cells:Array Value) (X:List Nat) (w:World) (e:Ending) (w':World):Prop:=
 Below w.heap.size w w'∧((eG c e0≠0∧e = .returned (.tuple #[.slice none 0 0,.agg cells,.int .i64 (eG c e0)])) ∨
  (eG c e0=0 ∧ ∃ A cp A2 n2 c2,e = .returned (.tuple #[.slice A (av 2 (aQ c e0)).length cp,.agg #[.int .i64 e0.q,.int .i64 e0.a,.slice A2 n2 c2],.int .i64 0])∧Sl ak w' X A (av 2 (aQ c e0)).length cp (av 2 (aQ c e0))∧Sl af w' X A2 n2 c2 (bJ c e0).ns))
theorem xq {W:World} {g:Nat} {x0 x1 x2 u v:Value} (h:Blk W g 34 #[x0,x1,x2]) (tmps:Array Value) (d:tmps[5]?.getD undef = .pointer (some ⟨g,0,none⟩)) (c:tmps[6]?.getD undef=u) (b:tmps[4]?.getD undef=v):(results Tryz.f62 tmps).run Tryz.prog W = .ok (.tuple #[v,.agg #[x0,x1,x2],u]) W:=by
 have c0:W.cell? ⟨g,0,none⟩=some x0:=h.cell 0
 have a:W.cell? ⟨g,1,none⟩=some x1:=h.cell 1
 have e:W.cell? ⟨g,2,none⟩=some x2:=h.cell 2
 simp[results,Tryz.results62,go_sem,d,c,b,c0,a,e]
set_option maxHeartbeats 4000000 in
theorem EX (q a:Int) (ns:List (List UInt8)) (c:Option Addr) (nn d:Nat) (U:Evt) (X:List Nat) (w:World) (hX:XOk X w) (hs:Sl af w X c nn d ns) (ap:nn≤1000) (ar:U.cm.size≤maxLen):
 Calls Tryz.prog 62 #[.agg #[.int .i64 q,.int .i64 a,.slice c nn d],.agg (evA U)] w (xU ⟨q,a,ns⟩ U #[.int .i64 q,.int .i64 a,.slice c nn d] X w):=by
 have ac:=Lib.hid (@gJ ⟨q,a,ns⟩ U)
 have s:=fun(X:List Nat) (W:World) (hX:XOk X W) (hs:Sl af W X c nn d ns)=>Lib.hid (uY q a ns c nn d U X W hX hs ap ar)
 unfold xU
 unfold oa at s
 generalize eG ⟨q,a,ns⟩ U=er at ac s ⊢
 generalize aQ ⟨q,a,ns⟩ U=eb at ac s ⊢
 generalize bJ ⟨q,a,ns⟩ U=nx at s ⊢
 obtain⟨eq,ea,o,cm,ex,n,r⟩:=U
 simp only at s ⊢
 have C:Hid (aq w [] X (((w.alloc (.cells #[.int .i64 q,.int .i64 a,.slice c nn d] 34)).alloc (.cells #[.int .i64 eq,.int .i64 ea,.int .i64 o,.string cm,.int .i64 ex,.int .i64 n,.int .i64 r] 44)).alloc (.cells #[.int .i64 0,.int .i64 0,.slice none 0 0] 34)) [.box (w.heap.size+2) 34 #[.int .i64 0,.int .i64 0,.slice none 0 0],.box (w.heap.size+1) 44 #[.int .i64 eq,.int .i64 ea,.int .i64 o,.string cm,.int .i64 ex,.int .i64 n,.int .i64 r],.box (w.heap.size) 34 #[.int .i64 q,.int .i64 a,.slice c nn d]] [Sl.fact af c nn d ns]):=(((((aq.start w hX).alloc_at 34 #[.int .i64 q,.int .i64 a,.slice c nn d] (w.heap.size) (by simp)).alloc_at 44 #[.int .i64 eq,.int .i64 ea,.int .i64 o,.string cm,.int .i64 ex,.int .i64 n,.int .i64 r] (w.heap.size+1) (by simp)).alloc_at 34 #[.int .i64 0,.int .i64 0,.slice none 0 0] (w.heap.size+2) (by simp)).know0 (Sl.fact af c nn d ns) hs)
 clear hs
 go_enter Tryz.func62,Tryz.ntmps62
 go_wp2_with fail
 with_reducible refine((s _ _ C.out.xok' (C.out.sl 0 rfl)).out).mono ?_
 rintro e H ⟨hb,h1 | h1⟩
 ·skip
  obtain⟨he,rfl⟩:=h1
  have b1:(er != 0)=true:=by rw[bne_iff_ne];exact he
  have al:=Lib.hid he
  clear he
  have Q:Hid (aq w [] X H [.box (w.heap.size+2) 34 #[.int .i64 0,.int .i64 0,.slice none 0 0],.box (w.heap.size+1) 44 #[.int .i64 eq,.int .i64 ea,.int .i64 o,.string cm,.int .i64 ex,.int .i64 n,.int .i64 r],.box (w.heap.size) 34 #[.int .i64 q,.int .i64 a,.slice c nn d]] [Sl.fact af c nn d ns]):=(C.out.on hb)
  clear C
  clear hb
  have f:Hid (aq w [] X (H.alloc (.cells #[.int .i64 q,.int .i64 a,.slice c nn d] 34)) [.box (H.heap.size) 34 #[.int .i64 q,.int .i64 a,.slice c nn d],.box (w.heap.size+2) 34 #[.int .i64 0,.int .i64 0,.slice none 0 0],.box (w.heap.size+1) 44 #[.int .i64 eq,.int .i64 ea,.int .i64 o,.string cm,.int .i64 ex,.int .i64 n,.int .i64 r],.box (w.heap.size) 34 #[.int .i64 q,.int .i64 a,.slice c nn d]] [Sl.fact af c nn d ns]):=Q.out.alloc_at 34 #[.int .i64 q,.int .i64 a,.slice c nn d] (H.heap.size) (by simp)
  clear Q
  go_upto_region 3 with(fail)
  generalize H.alloc (.cells #[.int .i64 q,.int .i64 a,.slice c nn d] 34)=w2 at f ⊢
  generalize H.heap.size=m at f ⊢
  have L:w2.cell? ⟨w.heap.size,0,none⟩=some (.int .i64 q):=f.out.cell 3 rfl 0
  have R:w2.cell? ⟨w.heap.size,1,none⟩=some (.int .i64 a):=f.out.cell 3 rfl 1
  have O:w2.cell? ⟨w.heap.size,2,none⟩=some (.slice c nn d):=f.out.cell 3 rfl 2
  go_wp2_with fail
  clear L R O
  refine wp_region_noPanic ?_
  refine wp_region_held_drew (S:=fun W'=>dW w [] X W' [.box (m) 34 #[.int .i64 q,.int .i64 a,.slice c nn d],.box (w.heap.size+2) 34 #[.int .i64 0,.int .i64 0,.slice none 0 0],.box (w.heap.size+1) 44 #[.int .i64 eq,.int .i64 ea,.int .i64 o,.string cm,.int .i64 ex,.int .i64 n,.int .i64 r],.box (w.heap.size) 34 #[.int .i64 q,.int .i64 a,.slice c nn d]] [Sl.fact af c nn d ns] 1 (w.heap.size+2) 34) (by kernel_rfl) (f.out.but 1 rfl).drew (fun b=>?_)
  have l:Hid (aq w [] X w2.drew [.box (m) 34 #[.int .i64 q,.int .i64 a,.slice c nn d],.box (w.heap.size+2) 34 #[.int .i64 0,.int .i64 0,.slice none 0 0],.box (w.heap.size+1) 44 #[.int .i64 eq,.int .i64 ea,.int .i64 o,.string cm,.int .i64 ex,.int .i64 n,.int .i64 r],.box (w.heap.size) 34 #[.int .i64 q,.int .i64 a,.slice c nn d]] [Sl.fact af c nn d ns]):=f.out.drew
  clear f
  generalize w2.drew=wd at b l ⊢
  have J:wd.cell? ⟨w.heap.size+2,0,none⟩=some (.int .i64 0):=l.out.cell 1 rfl 0
  have N:wd.frozen? ⟨w.heap.size+2,0,none⟩=false:=l.out.frozen 1 rfl 0
  have z:wd.cell? ⟨w.heap.size+2,1,none⟩=some (.int .i64 0):=l.out.cell 1 rfl 1
  have E:wd.frozen? ⟨w.heap.size+2,1,none⟩=false:=l.out.frozen 1 rfl 1
  have F:wd.cell? ⟨w.heap.size+2,2,none⟩=some (.slice none 0 0):=l.out.cell 1 rfl 2
  have B:wd.frozen? ⟨w.heap.size+2,2,none⟩=false:=l.out.frozen 1 rfl 2
  refine tS 0 b ?_ (hy:=by(intro W k;(try dsimp only at k);have q0:W.cell? ⟨w.heap.size,0,none⟩=some (.int .i64 q):=k.cell 3 rfl (by decide) 0;have q1:W.cell? ⟨w.heap.size,1,none⟩=some (.int .i64 a):=k.cell 3 rfl (by decide) 1;have q2:W.cell? ⟨w.heap.size,2,none⟩=some (.slice c nn d):=k.cell 3 rfl (by decide) 2;go_simp;try with_reducible rfl))
  refine tS 1 b ?_
  refine tS 2 b ?_
  refine wpAnyH_ready (rs:=[3]) (by kernel_rfl) (by simp) ?_
  refine AllReadyH.cons rfl (fun K hK=>?_) AllReadyH.nil
  go_simp
  refine hK.out _ _ (((b.set_ (by simp) 0 (.int .i64 q)).set_ (by simp) 1 (.int .i64 a)).set_ (by simp) 2 (.slice c nn d)) (fun b=>?_)
  clear hK K
  try simp only[Act.put,sI,sZ,sS]
  refine tS 4 b ?_
  refine wpAnyH_done (by kernel_rfl) ?_ _
  refine NoPanic.normal ?_
  clear J N z E F B
  have Y:Hid (aq w [] X (((wd.setCell ⟨w.heap.size+2,0,none⟩ (.int .i64 q)).setCell ⟨w.heap.size+2,1,none⟩ (.int .i64 a)).setCell ⟨w.heap.size+2,2,none⟩ (.slice c nn d)) [.box (m) 34 #[.int .i64 q,.int .i64 a,.slice c nn d],.box (w.heap.size+2) 34 #[.int .i64 q,.int .i64 a,.slice c nn d],.box (w.heap.size+1) 44 #[.int .i64 eq,.int .i64 ea,.int .i64 o,.string cm,.int .i64 ex,.int .i64 n,.int .i64 r],.box (w.heap.size) 34 #[.int .i64 q,.int .i64 a,.slice c nn d]] [Sl.fact af c nn d ns]):=(((l.out.set_ 1 rfl 0 (.int .i64 q)).set_ 1 rfl 1 (.int .i64 a)).set_ 1 rfl 2 (.slice c nn d))
  clear l
  go_wp2
  exact bodyPost_ret (xq (Y.out.blk 1 rfl) (u := .int .i64 er) (v := .slice none 0 0) _ rfl rfl rfl) rfl ⟨Y.out.below,.inl ⟨al.out,rfl⟩⟩
 obtain⟨he,Z,V,c3,i,g,h,rfl,ab,ah⟩:=h1
 have aw:=ac.out he
 have ao:=Lib.hid he
 clear he
 have ae:=Lib.hid ab.len
 have am:V≤200:=by rw[ae.out];omega
 have ag:=Lib.hid (show V+7=(av 2 eb).length from by rw[ae.out];exact(aW 2 eb).symm)
 have Q:Hid (aq w [] X H [.box (w.heap.size+2) 34 #[.int .i64 0,.int .i64 0,.slice none 0 0],.box (w.heap.size+1) 44 #[.int .i64 eq,.int .i64 ea,.int .i64 o,.string cm,.int .i64 ex,.int .i64 n,.int .i64 r],.box (w.heap.size) 34 #[.int .i64 q,.int .i64 a,.slice c nn d]] [Sl.fact af i g h nx.ns,Sl.fact ak Z V c3 eb,Sl.fact af c nn d ns]):=(((C.out.on hb).know (Sl.fact ak Z V c3 eb) ab).know (Sl.fact af i g h nx.ns) ah)
 clear C
 clear hb
 clear ab ah
 have f:Hid (aq w [] X (H.alloc (.cells #[.int .i64 eq,.int .i64 ea,.slice i g h] 34)) [.box (H.heap.size) 34 #[.int .i64 eq,.int .i64 ea,.slice i g h],.box (w.heap.size+2) 34 #[.int .i64 0,.int .i64 0,.slice none 0 0],.box (w.heap.size+1) 44 #[.int .i64 eq,.int .i64 ea,.int .i64 o,.string cm,.int .i64 ex,.int .i64 n,.int .i64 r],.box (w.heap.size) 34 #[.int .i64 q,.int .i64 a,.slice c nn d]] [Sl.fact af i g h nx.ns,Sl.fact ak Z V c3 eb,Sl.fact af c nn d ns]):=Q.out.alloc_at 34 #[.int .i64 eq,.int .i64 ea,.slice i g h] (H.heap.size) (by simp)
 clear Q
 go_upto_region 4 with(fail)
 generalize H.alloc (.cells #[.int .i64 eq,.int .i64 ea,.slice i g h] 34)=w2 at f ⊢
 generalize H.heap.size=m at f ⊢
 go_wp2_with fail
 with_reducible refine(sN f.out.xok' (f.out.sl 1 rfl) 2 (by omega) (by omega) am).mono ?_
 rintro e w3 ⟨A4,c4,rfl,ad,hb⟩
 rw[ag.out]at ad
 rw[ag.out]
 have D:Hid (aq w [] X w3 [.box (m) 34 #[.int .i64 eq,.int .i64 ea,.slice i g h],.box (w.heap.size+2) 34 #[.int .i64 0,.int .i64 0,.slice none 0 0],.box (w.heap.size+1) 44 #[.int .i64 eq,.int .i64 ea,.int .i64 o,.string cm,.int .i64 ex,.int .i64 n,.int .i64 r],.box (w.heap.size) 34 #[.int .i64 q,.int .i64 a,.slice c nn d]] [Sl.fact ak A4 (av 2 eb).length c4 (av 2 eb),Sl.fact af i g h nx.ns,Sl.fact ak Z V c3 eb,Sl.fact af c nn d ns]):=((f.out.on hb).know (Sl.fact ak A4 (av 2 eb).length c4 (av 2 eb)) ad)
 clear f
 clear hb
 clear ad
 have P:w3.cell? ⟨m,0,none⟩=some (.int .i64 eq):=D.out.cell 0 rfl 0
 have M:w3.cell? ⟨m,1,none⟩=some (.int .i64 ea):=D.out.cell 0 rfl 1
 have I:w3.cell? ⟨m,2,none⟩=some (.slice i g h):=D.out.cell 0 rfl 2
 go_wp2_with fail
 clear P M I
 refine wp_region_noPanic ?_
 refine wp_region_held_drew (S:=fun W'=>dW w [] X W' [.box (m) 34 #[.int .i64 eq,.int .i64 ea,.slice i g h],.box (w.heap.size+2) 34 #[.int .i64 0,.int .i64 0,.slice none 0 0],.box (w.heap.size+1) 44 #[.int .i64 eq,.int .i64 ea,.int .i64 o,.string cm,.int .i64 ex,.int .i64 n,.int .i64 r],.box (w.heap.size) 34 #[.int .i64 q,.int .i64 a,.slice c nn d]] [Sl.fact ak A4 (av 2 eb).length c4 (av 2 eb),Sl.fact af i g h nx.ns,Sl.fact ak Z V c3 eb,Sl.fact af c nn d ns] 1 (w.heap.size+2) 34) (by kernel_rfl) (D.out.but 1 rfl).drew (fun b=>?_)
 have j:Hid (aq w [] X w3.drew [.box (m) 34 #[.int .i64 eq,.int .i64 ea,.slice i g h],.box (w.heap.size+2) 34 #[.int .i64 0,.int .i64 0,.slice none 0 0],.box (w.heap.size+1) 44 #[.int .i64 eq,.int .i64 ea,.int .i64 o,.string cm,.int .i64 ex,.int .i64 n,.int .i64 r],.box (w.heap.size) 34 #[.int .i64 q,.int .i64 a,.slice c nn d]] [Sl.fact ak A4 (av 2 eb).length c4 (av 2 eb),Sl.fact af i g h nx.ns,Sl.fact ak Z V c3 eb,Sl.fact af c nn d ns]):=D.out.drew
 clear D
 generalize w3.drew=wd at b j ⊢
 have T:wd.cell? ⟨w.heap.size+2,0,none⟩=some (.int .i64 0):=j.out.cell 1 rfl 0
 have t:wd.frozen? ⟨w.heap.size+2,0,none⟩=false:=j.out.frozen 1 rfl 0
 have G:wd.cell? ⟨w.heap.size+2,1,none⟩=some (.int .i64 0):=j.out.cell 1 rfl 1
 have A:wd.frozen? ⟨w.heap.size+2,1,none⟩=false:=j.out.frozen 1 rfl 1
 have y:wd.cell? ⟨w.heap.size+2,2,none⟩=some (.slice none 0 0):=j.out.cell 1 rfl 2
 have x:wd.frozen? ⟨w.heap.size+2,2,none⟩=false:=j.out.frozen 1 rfl 2
 refine tS 0 b ?_
 refine tS 1 b ?_ (hy:=by(intro W k;(try dsimp only at k);have q0:W.cell? ⟨m,0,none⟩=some (.int .i64 eq):=k.cell 0 rfl (by decide) 0;have q1:W.cell? ⟨m,1,none⟩=some (.int .i64 ea):=k.cell 0 rfl (by decide) 1;have q2:W.cell? ⟨m,2,none⟩=some (.slice i g h):=k.cell 0 rfl (by decide) 2;go_simp;try with_reducible rfl))
 refine tS 2 b ?_
 refine wpAnyH_ready (rs:=[3]) (by kernel_rfl) (by simp) ?_
 refine AllReadyH.cons rfl (fun K hK=>?_) AllReadyH.nil
 go_simp
 refine hK.out _ _ (((b.set_ (by simp) 0 (.int .i64 eq)).set_ (by simp) 1 (.int .i64 ea)).set_ (by simp) 2 (.slice i g h)) (fun b=>?_)
 clear hK K
 try simp only[Act.put,sI,sZ,sS]
 refine tS 4 b ?_
 refine wpAnyH_done (by kernel_rfl) ?_ _
 refine NoPanic.normal ?_
 clear T t G A y x
 have p:Hid (aq w [] X (((wd.setCell ⟨w.heap.size+2,0,none⟩ (.int .i64 eq)).setCell ⟨w.heap.size+2,1,none⟩ (.int .i64 ea)).setCell ⟨w.heap.size+2,2,none⟩ (.slice i g h)) [.box (m) 34 #[.int .i64 eq,.int .i64 ea,.slice i g h],.box (w.heap.size+2) 34 #[.int .i64 eq,.int .i64 ea,.slice i g h],.box (w.heap.size+1) 44 #[.int .i64 eq,.int .i64 ea,.int .i64 o,.string cm,.int .i64 ex,.int .i64 n,.int .i64 r],.box (w.heap.size) 34 #[.int .i64 q,.int .i64 a,.slice c nn d]] [Sl.fact ak A4 (av 2 eb).length c4 (av 2 eb),Sl.fact af i g h nx.ns,Sl.fact ak Z V c3 eb,Sl.fact af c nn d ns]):=(((j.out.set_ 1 rfl 0 (.int .i64 eq)).set_ 1 rfl 1 (.int .i64 ea)).set_ 1 rfl 2 (.slice i g h))
 clear j
 go_wp2
 exact bodyPost_ret (xq (p.out.blk 1 rfl) (u := .int .i64 0) (v := .slice A4 (av 2 eb).length c4) _ rfl rfl rfl) rfl ⟨p.out.below,.inr ⟨ao.out,A4,c4,i,g,h,rfl,p.out.back' 0 rfl,p.out.back' 1 rfl⟩⟩
end
section
open Go.RowKit
theorem kE (pre rest:List UInt8) (n:Nat) (a:n<18446744073709551616):bT (pre++au n++rest) (pre.length:Int) 0=(((pre++au n).length:Int),0,n):=by
 rw[xL _ _ (by simp),List.append_assoc,List.drop_left,nQ,pY,vJ (bE rest) n 0 (by omega) (by simpa using a) (by omega),if_pos rfl]
 simp only[List.length_append,iJ,Int.natCast_add]
theorem mw (pre rest:List UInt8) (n most:Nat) (a:n≤most) (b:most≤1099511627776):cT (pre++au n++rest) (pre.length:Int) 0 most=(((pre++au n).length:Int),0,n):=by
 unfold cT
 rw[kE pre rest n (by omega),if_neg (by simpa using a)]
theorem Ch (pre rest l:List UInt8) (most:Nat) (b:l.length≤most) (a:most≤200):jI (pre++bG l++rest) (pre.length:Int) 0 most=(((pre++bG l).length:Int),0,l):=by
 have h:=kE pre (l++rest) l.length (by omega)
 have e:pre++bG l++rest=pre++au l.length++(l++rest):=by unfold bG;simp
 unfold jI
 rw[e,h]
 simp only
 rw[if_neg (by simp),if_neg (by omega),if_neg (by simp;omega),Int.toNat_natCast,List.drop_left,List.take_left]
 simp only[Prod.mk.injEq,and_true]
 unfold bG
 simp only[List.length_append]
 omega
theorem vU (bs:List UInt8):∀ (n:Nat) (zs:List Int),zs.length=n → ∀ (pre rest:List UInt8),(∀ z ∈ zs,0≤z∧z≤2147483647)→bs=pre++zs.flatMap (fun n=>au n.toNat)++rest→bO bs (pre.length:Int) 0 zs.length=(((pre++zs.flatMap (fun n=>au n.toNat)).length:Int),0,zs):=by
 intro n
 induction n with
 | zero=>
   intro zs a pre rest _ _
   obtain rfl:=List.eq_nil_of_length_eq_zero a
   simp[bO]
 | succ n ih=>
   intro zs a pre rest d c
   obtain⟨ys,z,rfl⟩:∃ ys z,zs=ys ++ [z]:=⟨zs.dropLast,zs.getLast (by rintro rfl;cases a),(List.dropLast_concat_getLast _).symm⟩
   have b:=d z (by simp)
   have e:=ih ys (by simpa using a) pre (au z.toNat++rest) (fun y hy=>d y (by simp[hy])) (by rw[c];simp)
   rw[List.length_append,List.length_singleton]
   unfold bO
   rw[e]
   have f:bs=(pre++ys.flatMap (fun n=>au n.toNat))++au z.toNat++rest:=by rw[c];simp
   simp only
   rw[f,mw _ _ _ _ (by omega) (by omega)]
   simp only[Prod.mk.injEq,true_and]
   exact⟨by simp,by rw[Int.toNat_of_nonneg b.1]⟩
theorem yL {l:List (List UInt8)} {s:List UInt8} (h:placeOf l s≠0):l[placeOf l s-1]?=some s:=by
 unfold placeOf at h ⊢
 by_cases a:s ∈ l
 ·rw[if_pos a,Nat.add_sub_cancel]
  have:=List.idxOf_lt_length_of_mem a
  rw[List.getElem?_eq_getElem this,List.getElem_idxOf]
 ·rw[if_neg a]at h;exact absurd rfl h
theorem BD {c:Cx} {e:Evt} (h:eG c e=0):dV c (aQ c e)=(e,true):=by
 obtain⟨b,C,M,R,J⟩:=jZ h
 obtain⟨l,m,kn,kw,ka,kb,kq,O⟩:=eD C
 obtain⟨⟨H,F⟩,⟨y,G⟩,⟨t,r⟩,_,_⟩:=dI ⟨l,m⟩ kw
 obtain⟨c0,I,L,S⟩:=eR b
 have j:cK c.ns=true:=by unfold aN at b;simp at b;exact b.2
 have o:c.ns.length≤32:=nN j
 have D:=lK c.ns e.cm.data.toList
 have f:e.cm.data.toList.length≤24:=by unfold fB at kn;simp at kn;exact kn.2
 have g:(jQ e).length=cu e.k:=by
  unfold jQ
  have:=iD e.k
  simp;omega
 have i:∀ z ∈ jQ e,0≤z∧z≤2147483647:=fun z w=>by
  have:=List.mem_of_mem_take w
  simp only[List.mem_cons,List.not_mem_nil,or_false]at this
  rcases this with rfl | rfl | rfl
  ·exact⟨H,F⟩
  ·exact⟨y,G⟩
  ·exact⟨t,r⟩
 generalize hK:au e.k.toNat=K
 generalize hQ:au (e.q-c.q).toNat=Q
 generalize hA:au (e.a-c.a).toNat=A
 generalize hP:au (placeOf c.ns e.cm.data.toList)=P
 generalize hT:(if placeOf c.ns e.cm.data.toList=0 then bG e.cm.data.toList else [])=T
 generalize hN:(jQ e).flatMap (fun n=>au n.toNat)=N
 have p:aQ c e=K++Q++A++P++T++N:=by unfold aQ;rw[hK,hQ,hA,hP,hT,hN]
 have x:cT (K++Q++A++P++T++N) 0 0 10=((K.length:Int),0,e.k.toNat):=by
  have:=mw [] (Q++A++P++T++N) e.k.toNat 10 (by omega) (by omega)
  rw[hK]at this
  simpa using this
 have v:cT (K++Q++A++P++T++N) (K.length:Int) 0 4294967296=(((K++Q).length:Int),0,(e.q-c.q).toNat):=by
  have:=mw K (A++P++T++N) (e.q-c.q).toNat 4294967296 (by omega) (by omega)
  rw[hQ]at this
  simpa only[List.append_assoc] using this
 have s:cT (K++Q++A++P++T++N) ((K++Q).length:Int) 0 1099511627776=(((K++Q++A).length:Int),0,(e.a-c.a).toNat):=by
  have:=mw (K++Q) (P++T++N) (e.a-c.a).toNat 1099511627776 (by omega) (by omega)
  rw[hA]at this
  simpa only[List.append_assoc] using this
 have B:cT (K++Q++A++P++T++N) ((K++Q++A).length:Int) 0 32=(((K++Q++A++P).length:Int),0,placeOf c.ns e.cm.data.toList):=by
  have:=mw (K++Q++A) (T++N) (placeOf c.ns e.cm.data.toList) 32 (by omega) (by omega)
  rw[hP]at this
  simpa only[List.append_assoc] using this
 have u:(if placeOf c.ns e.cm.data.toList=0 then jI (K++Q++A++P++T++N) ((K++Q++A++P).length:Int) 0 24 else(((K++Q++A++P).length:Int),0,(c.ns[placeOf c.ns e.cm.data.toList-1]?).getD []))=(((K++Q++A++P++T).length:Int),0,e.cm.data.toList):=by
  by_cases d:placeOf c.ns e.cm.data.toList=0
  ·rw[if_pos d]at hT ⊢
   have:=Ch (K++Q++A++P) N e.cm.data.toList 24 f (by omega)
   rw[hT]at this
   simp only[List.append_assoc]at this ⊢
   exact this
  ·rw[if_neg d]at hT ⊢
   subst hT
   rw[yL d]
   simp
 have E:bO (K++Q++A++P++T++N) ((K++Q++A++P++T).length:Int) 0 (cu e.k)=(((K++Q++A++P++T++N).length:Int),0,jQ e):=by
  have:=vU (K++Q++A++P++T++N) _ (jQ e) rfl (K++Q++A++P++T) [] i (by rw[hN];simp)
  rw[hN,g]at this
  exact this
 rw[p]
 unfold dV
 simp only[x,v,s,B,u,Int.toNat_of_nonneg (show 0≤e.k by omega),E]
 simp only[Int.toNat_of_nonneg (show 0≤e.q-c.q by omega),Int.toNat_of_nonneg (show 0≤e.a-c.a by omega),show c.q+(e.q-c.q)=e.q from by omega,show c.a+(e.a-c.a)=e.a from by omega,decide_true]
 have:=zb ⟨l,m⟩ kw ⟨e.q,e.a,e.k,eX e.cm.data.toList,0,0,0⟩ rfl
 rw[this]
theorem Ey {c:Cx} {e:Evt} (h:eG c e=0):gX c (aQ c e)=(e,bJ c e,0):=by
 obtain⟨a,_⟩:=jZ h
 unfold gX
 rw[BD h,if_neg (by rw[a];simp),if_neg (by simp),if_neg (by simp[h])]
theorem CZ {c:Cx} {e:Evt} {l:List Evt} (h:okL c (e::l)):(aQ c e).length≤200:=by have:=gJ h.1;omega
theorem yM (bs:List UInt8):∀ (l:List Evt) (s:Scn) (pre rest:List UInt8),okL s.c l→bs=pre++eL s.c l++rest→s.size=(pre.length:Int)→s.num≠0→s.sealed=false →
 aT bs s=aT bs { s with evs:=s.evs++l,c:=ei s.c l,size:=((pre++eL s.c l).length:Int) }:=by
 intro l
 induction l with
 | nil=>
   intro s pre rest _ _ b _ _
   simp only[List.append_nil,eL,ei]
   rw[←b]
 | cons e l ih=>
   intro s pre rest a d b g f
   have i:dQ bs s.size = .inr (UInt8.ofNat (2:Int).toNat,aQ s.c e):=by
    rw[b,fX _ _ (by rw[d];simp),d,List.append_assoc,List.drop_left]
    simp only[eL,List.append_assoc]
    exact dJ 2 _ _ (by omega) (by omega) (CZ a)
   have j:cM s ((UInt8.ofNat (2:Int).toNat).toNat:Int) (aQ s.c e)=some { s with evs:=s.evs ++ [e],c:=bJ s.c e }:=by
    unfold cM rH
    rw[f,if_neg (by simp),if_neg g,if_pos (by rfl),Ey a.1,if_pos rfl]
   rw[iH i j]
   have h:=ih { s with evs:=s.evs ++ [e],c:=bJ s.c e,size:=s.size+(((aQ s.c e).length:Int)+7) } (pre++av 2 (aQ s.c e)) rest a.2 (by rw[d];simp[eL]) (by simp[b,aW]) g f
   rw[h]
   simp[eL,ei]
theorem nD {n:Int} (a:0≤n) (b:n≤9223372036854775807):wrap64 n=n:=by unfold wrap64;omega
theorem nw {s:Scn} {num q a:Int} (f:eE num=true) (e:aN ⟨q,a,[]⟩=true):gO s (aR++aS num q a)=some { s with num:=num,bq:=q,ba:=a,c:=⟨q,a,[]⟩ }:=by
 obtain⟨c0,g,d,k⟩:=eR e
 simp only at c0 g d k
 have b:=f
 unfold eE at b
 simp only[Bool.and_eq_true,decide_eq_true_eq]at b
 have l:bT (aS num q a) 0 0=(((au num.toNat).length:Int),0,num.toNat):=by
  have:=kE [] (au q.toNat++au a.toNat) num.toNat (by omega)
  simpa [aS] using this
 have i:bT (aS num q a) ((au num.toNat).length:Int) 0=(((au num.toNat++au q.toNat).length:Int),0,q.toNat):=by
  have:=kE (au num.toNat) (au a.toNat) q.toNat (by omega)
  simpa only[aS,List.append_assoc] using this
 have j:bT (aS num q a) ((au num.toNat++au q.toNat).length:Int) 0=(((aS num q a).length:Int),0,a.toNat):=by
  have:=kE (au num.toNat++au q.toNat) [] a.toNat (by omega)
  simpa only[aS,List.append_nil] using this
 unfold gO
 rw[if_pos (by simp[aR,List.isPrefixOf]),show(aR++aS num q a).drop 4=aS num q a from rfl]
 unfold three
 simp only[l,i,j,Int.toNat_of_nonneg (show 0≤num by omega),Int.toNat_of_nonneg c0,Int.toNat_of_nonneg d,nD c0 (by omega),nD d (by omega),nD (show 0≤num by omega) (by omega)]
 rw[if_neg]
 rintro(h | h | h | h)
 ·exact h rfl
 ·omega
 ·rw[f]at h;cases h
 ·rw[e]at h;cases h
theorem jM {n q a:Int} (b:n<18446744073709551616) (d:q<18446744073709551616) (c:a<18446744073709551616):(aR++aS n q a).length≤200∧(aS n q a).length≤200:=by
 have:=jG b d c
 rw[List.length_append]
 have:aR.length=4:=rfl
 omega
theorem qv {num q a:Int} {l:List Evt} {sd:Bool} (k:eE num=true) (f:aN ⟨q,a,[]⟩=true) (c:okL ⟨q,a,[]⟩ l) (z:l.length≤100000) (rest:List UInt8) (u:rest = []∨sd=false):
 aT (eo num ⟨q,a,[]⟩ l sd++rest) bP=if sd=true then(⟨num,q,a,l,ei ⟨q,a,[]⟩ l,((eo num ⟨q,a,[]⟩ l sd).length:Int),true⟩,4)
  else aT (eo num ⟨q,a,[]⟩ l sd++rest) ⟨num,q,a,l,ei ⟨q,a,[]⟩ l,((eo num ⟨q,a,[]⟩ l false).length:Int),false⟩:=by
 obtain⟨c0,m,p,w⟩:=eR f
 simp only at c0 m p w
 have e:=k
 unfold eE at e
 simp only[Bool.and_eq_true,decide_eq_true_eq]at e
 obtain⟨r,_⟩:=jM (n:=num) (q:=q) (a:=a) (by omega) (by omega) (by omega)
 generalize d:eo num ⟨q,a,[]⟩ l sd++rest=bs
 generalize hT:(if sd=true then av 3 (aS (l.length:Int) (ei ⟨q,a,[]⟩ l).q (ei ⟨q,a,[]⟩ l).a) else [])=T
 have b:bs=av 1 (aR++aS num q a)++eL ⟨q,a,[]⟩ l++(T++rest):=by
  rw[←d];unfold eo;rw[hT];simp
 have s:dQ bs bP.size = .inr (UInt8.ofNat (1:Int).toNat,aR++aS num q a):=by
  rw[show bP.size=((0:Nat):Int) from rfl,fX _ _ (Nat.zero_le _),b,List.drop_zero,List.append_assoc]
  exact dJ 1 _ _ (by omega) (by omega) r
 have v:cM bP ((UInt8.ofNat (1:Int).toNat).toNat:Int) (aR++aS num q a)=some ⟨num,q,a,[],⟨q,a,[]⟩,0,false⟩:=by
  unfold cM
  rw[if_neg (by simp[bP]),if_pos (show bP.num=0 from rfl),if_pos (by rfl),nw k f]
  rfl
 rw[iH s v]
 have j:=yM bs l ⟨num,q,a,[],⟨q,a,[]⟩,0+(((aR++aS num q a).length:Int)+7),false⟩ (av 1 (aR++aS num q a)) (T++rest) c b (by rw[aW];simp) (by simp only;omega) rfl
 simp only[List.nil_append]at j
 rw[show bP.size=0 from rfl]
 rw[j]
 cases sd with
 | false=>
   simp only[Bool.false_eq_true,if_false]at hT ⊢
   subst hT
   congr 2
   unfold eo
   simp
 | true=>
   simp only[if_true]at hT ⊢
   obtain rfl:rest = []:=by rcases u with h | h;exact h;cases h
   have i:=kz _ _ f c
   obtain⟨x,B,y,A⟩:=eR i
   obtain⟨_,o⟩:=jM (n:=(l.length:Int)) (q:=(ei ⟨q,a,[]⟩ l).q) (a:=(ei ⟨q,a,[]⟩ l).a) (by omega) (by omega) (by omega)
   have t:dQ bs ((av 1 (aR++aS num q a)++eL ⟨q,a,[]⟩ l).length:Int) = .inr (UInt8.ofNat (3:Int).toNat,aS (l.length:Int) (ei ⟨q,a,[]⟩ l).q (ei ⟨q,a,[]⟩ l).a):=by
    rw[fX _ _ (by rw[b];simp),b,List.drop_left,←hT]
    exact dJ 3 _ _ (by omega) (by omega) o
   rw[iH (s':=⟨num,q,a,l,ei ⟨q,a,[]⟩ l,((av 1 (aR++aS num q a)++eL ⟨q,a,[]⟩ l).length:Int),true⟩) t (by
    unfold cM
    simp only[Bool.false_eq_true,if_false]
    rw[if_neg (by omega),if_neg (by decide),if_pos (by rfl),if_pos (by simp)])]
   have hlen:((av 1 (aR++aS num q a)++eL ⟨q,a,[]⟩ l).length:Int)+(((aS (l.length:Int) (ei ⟨q,a,[]⟩ l).q (ei ⟨q,a,[]⟩ l).a).length:Int)+7)=(bs.length:Int):=by
    rw[b,←hT]
    simp only[List.length_append,aW,List.length_nil,Int.natCast_add]
    omega
   have g:(eo num ⟨q,a,[]⟩ l true).length=bs.length:=by rw[←d];simp
   simp only[hlen,g]
   rw[gE (what:=1) (by
    rw[fX _ _ (Nat.le_refl _),List.drop_length]
    rfl)]
   rfl
theorem mV {num q a:Int} {l:List Evt} (e:eE num=true) (c:aN ⟨q,a,[]⟩=true) (b:okL ⟨q,a,[]⟩ l) (d:l.length≤100000):
 aT (eo num ⟨q,a,[]⟩ l false) bP=(⟨num,q,a,l,ei ⟨q,a,[]⟩ l,((eo num ⟨q,a,[]⟩ l false).length:Int),false⟩,1):=by
 have h:=qv e c b d [] (.inl rfl) (sd:=false)
 rw[List.append_nil]at h
 rw[h,if_neg (by simp),gE (what:=1) (by rw[fX _ _ (Nat.le_refl _),List.drop_length];rfl)]
 rfl
theorem jk {num q a:Int} {l:List Evt} (e:eE num=true) (c:aN ⟨q,a,[]⟩=true) (b:okL ⟨q,a,[]⟩ l) (d:l.length≤100000):
 aT (eo num ⟨q,a,[]⟩ l true) bP=(⟨num,q,a,l,ei ⟨q,a,[]⟩ l,((eo num ⟨q,a,[]⟩ l true).length:Int),true⟩,4):=by
 have h:=qv e c b d [] (.inl rfl) (sd:=true)
 rw[List.append_nil,if_pos rfl]at h
 exact h
end
section
open Go.RowKit
set_option maxHeartbeats 1000000 in
theorem wY (s:St) (b:Evt) (H:b.k=1) (A:Option Addr) (n I:Nat) (X:List Nat) (w:World) (hX:XOk X w) (G:Sl aI w X A n I s.cs) (h:bD s) (Q:b.cm.size≤maxLen) (P:cH s b=0):
 Calls Tryz.prog 38 #[.agg #[.slice A n I,.int .i64 s.q,.int .i64 s.a],.agg (evA b)] w (rK (aZ s b) 0 X w):=by
 obtain⟨Y,m2,m3,m4⟩:=gz P
 obtain⟨k1,k2,kn,kw,ka,kb,kq,kr⟩:=eD Y
 have S:1≤b.x∧b.x≤3:=by
  unfold dL inB jg at kw
  rw[H]at kw
  simp at kw
  omega
 have y:1≤b.cm.size∧b.cm.size≤24:=by unfold fB at kn;simpa using kn
 have B:n≤12:=by have:=G.len;have:=h.1;omega
 have Z:=Lib.hid G.len
 have HM:=Lib.hid P
 have C:=Lib.hid H
 clear Y m2 m3 m4 k1 k2 kn kw P H kq kr
 simp only[evA]
 go_enter Tryz.func38,Tryz.ntmps38
 go_wp2_with fail
 refine(hstart hX).cl fun W K=>?_
 have K:=K.ksl0 G
 clear G
 refine(wI s b A n I _ W K.xok (K.sl 0 rfl) h Q).mono ?_
 rw[HM.out]
 rintro e w1 ⟨rfl,c⟩
 have K:=K.on c
 clear c
 have H:=C.out
 have N:=K.r 2 rfl
 go_wp2_with fail
 refine(oC A n I _ w1 K.xok (K.sl 0 rfl) (by omega)).mono ?_
 rintro e w2 ⟨v,vs,rfl,d,l,c⟩
 have K:=(K.ft.kra d).nrow c l
 clear N c d l
 have R:=K.r 3 rfl
 have N:=K.r 2 rfl
 go_wp2_with fail
 refine(FP _ _ _ y.1 y.2 S.1 S.2 ka kb _ w2 K.xok).mono ?_
 rintro e w3 ⟨m,p,g,rfl,c,V⟩
 have K:=(K.on c).kn (f:=ay.fact m p _) V
 clear R N c V
 go_upto_region 9 with(refine K.lw fun W K=>?_;refine K.sr 0 rfl fun W K=>?_)
 have R:=K.r 3 rfl
 obtain⟨T,o,rfl,ac⟩:=aK (K.row 1 rfl)
 obtain⟨A3,ad,O,t⟩:=K.out.done_row (s:=aI) 1 rfl (K.ra 1 rfl) (by decide) (by simp)
 injection O with O e4 E
 subst O E
 go_wp2_with fail
 refine(Gp s.cs b.cm T n o _ W t.xok' (t.sl 0 rfl) h.2.2.2.2.2.2 B).mono ?_
 rintro e w4 ⟨i,bb,rfl,hi,J,M,c⟩
 have K:=K.on c
 clear t c R e4
 go_upto_region 10 with(fail)
 generalize Value.slice T n o=v at K ⊢
 go_wp2_with (refine K.ld 0 rfl ?_)
 refine K.cl fun W K=>?_
 have hone:∀ u ∈ cD (ny b.cm b.x b.a) m p g,u.oneCell'=true:=aI.one (w:=W) (X:=Exs _++X) ⟨m,p,g,rfl,K.fa 0 rfl,by unfold ny;split<;>(simp only[maxLen];omega)⟩
 refine(Fz vs (cD (ny b.cm b.x b.a) m p g) n i _ 0 v W hi (by omega) (K.row 2 rfl) (Nat.zero_le _) (K.out.blk 0 rfl) (fun e=>K.apart (i:=2) (j:=0) (by decide) rfl rfl _ e rfl) rfl hone (aC.one_ (K.ra 1 rfl))).mono ?_
 rintro e w5 ⟨v',rfl,l,U,F⟩
 have K:=K.app 2 rfl l U F
 have d:=(((K.ra 1 rfl).take i).append (aC.single (s:=aI) ⟨m,p,g,rfl,K.fa 0 rfl,by unfold ny;split<;>(simp only[maxLen];omega)⟩)).append ((K.ra 1 rfl).drop i)
 have K:=K.kra d
 clear d l U F hone
 obtain⟨A4,L,rfl,-⟩:=aK (K.row 2 rfl)
 have c4:=K.r 4 rfl
 go_wp2_with (refine K.lw fun W K=>?_;refine K.sr 3 rfl fun W K=>?_)
 obtain⟨A5,ab,E,t⟩:=K.out.done_row (s:=aI) 2 rfl (K.ra 0 rfl) (by decide) (by simp)
 injection E with E e6 e7
 subst E e7
 refine K.rc2 3 rfl rfl ⟨A4,n+1,L,rfl,K.below,?_⟩
 have z:(aZ s b).cs=s.cs.take i ++ [ny b.cm b.x b.a]++s.cs.drop i:=by
  have D:(ny b.cm b.x b.a).nm=b.cm:=by unfold ny;split<;>rfl
  unfold aZ
  rw[C.out,if_pos rfl,mN (i:=i) (by have:=Z.out;omega) (by rw[D];exact J) (by rw[D];exact M)]
  simp
 rw[z]
 exact(t.hh).slb 0 rfl
end
section
open Go.RowKit
set_option maxHeartbeats 1000000 in
theorem uq (s:St) (b:Evt) (hk:¬ b.k=1) (A:Option Addr) (n L:Nat) (X:List Nat) (w:World) (hX:XOk X w) (O:Sl aI w X A n L s.cs) (B:bD s) (z:b.cm.size≤maxLen) (hm:cH s b=0):
 Calls Tryz.prog 38 #[.agg #[.slice A n L,.int .i64 s.q,.int .i64 s.a],.agg (evA b)] w (rK (aZ s b) 0 X w):=by
 obtain⟨m1,m2,m3,m4⟩:=gz hm
 obtain⟨c,N,F⟩:∃ c,s.cs[iF s.cs b.cm]?=some c∧mL c b=0:=by
  rcases m4 with⟨h,_⟩ | ⟨_,h⟩
  ·exact absurd h hk
  ·exact h
 have D:aZ s b=⟨s.cs.set (iF s.cs b.cm) (fc c b),b.q,b.a⟩:=by
  unfold aZ
  rw[if_neg hk]
  simp only[N]
 have y:iF s.cs b.cm<s.cs.length:=(List.getElem?_eq_some_iff.1 N).1
 have H:ga s.cs b.cm=(iF s.cs b.cm:Int):=by unfold ga;rw[if_pos (show fI Cmp.nm s.cs b.cm<s.cs.length from y)]
 rw[D]
 have t:dR c:=B.2.2.2.2.2.1 c (List.mem_of_getElem? N)
 have M:n≤12:=by have:=O.len;have:=B.1;omega
 have HL:=Lib.hid O.len
 have HM:=Lib.hid hm
 have P:=Lib.hid N
 have I:=Lib.hid H
 clear m1 m2 m3 m4 hm D N H
 generalize iF s.cs b.cm=i at y P I ⊢
 have i1:(0:Int)≤(i:Int):=by omega
 have i2:(i:Int)<(n:Int):=by have:=HL.out;omega
 clear y
 simp only[evA]
 go_enter Tryz.func38,Tryz.ntmps38
 go_wp2_with fail
 refine(hstart hX).cl fun W K=>?_
 have K:=K.ksl0 O
 clear O
 refine(wI s b A n L _ W K.xok (K.sl 0 rfl) B z).mono ?_
 rw[HM.out]
 rintro e w1 ⟨rfl,d⟩
 have K:=K.on d
 clear d
 have Y:=K.r 2 rfl
 have c1:=K.r 1 rfl
 go_wp2_with fail
 refine(oC A n L _ w1 K.xok (K.sl 0 rfl) (by omega)).mono ?_
 rintro e w2 ⟨v,vs,rfl,m,ho,d⟩
 have K:=(K.kra m).nrow d ho
 clear Y c1 d m ho
 have c3:=K.r 3 rfl
 have Y:=K.r 2 rfl
 go_wp2_with fail
 refine(jx s.cs s.q s.a b.cm A n L _ w2 K.xok (K.sl 1 rfl) M).mono ?_
 rw[I.out]
 rintro e w3 ⟨rfl,d⟩
 have K:=K.on d
 clear c3 Y d
 go_upto_region 12 with(fail)
 obtain⟨A2,E,rfl,-⟩:=aK (K.row 0 rfl)
 obtain⟨g,rfl⟩:∃ g,A2=some ⟨g,0,none⟩:=by
  rcases(K.row 0 rfl).2 with⟨h,_⟩ | ⟨g,cap,cur,h,_⟩
  ·injection h with h1 h2 h3;omega
  ·injection h with h1 h2 h3;exact⟨g,h1⟩
 obtain⟨r,⟨Q,R,J,rfl,C,S⟩,ab⟩:=rowAt (K.ra 0 rfl) (e:=95) (g:=g) (n:=n) (cap:=E) P.out
 have K:=K.kn (f:=ay.fact Q R c.cells) C
 clear C
 refine Et (α:=Nat) (β:=World) (γ:=Option Addr) (δ:=Nat) (ε:=Nat) (G:=?G) ?main ?key
 case main=>
  intro key
  refine K.rg fun W K=>?_
  refine tK 0 K ?_
  refine tK 1 K ?_
  refine tK 2 K ?_
  refine tL 3 (fun _ h=>h) K ?_ (hy:=fun w T=>aM (ab w (T.row 0 rfl)))
  refine tL 4 (fun _ h=>h) K ?_ (hy:=fun w T=>aM (T.at_ 2 rfl))
  refine tC2 5 9 (fun K' hK=>?_) (fun K' hK=>?_)
  ·go_simp
   refine(yp c Q R J b _ _ K.xok (K.fa 0 rfl) t z F).mono ?_
   rintro e V ⟨o,x,j,rfl,d,l⟩
   have u:=K.on d
   have K:=u.kn (f:=ay.fact o x _) l
   refine hK.out _ _ u fun _=>?_
   clear hK K' d l
   try simp only[Act.put,an,ai,aj]
   refine tK 6 u ?_
   refine tK 7 u ?_
   refine tK 8 u ?_
   refine tC 9 fun K' hK=>?_
   go_simp
   have K:=K.to (W':=V.alloc (.cells #[.string ⟨#[]⟩,.int .i64 0,.int .i64 0,.int .i64 0,.int .i64 0,.slice none 0 0,.int .i64 0,.int .i64 0,.int .i64 0,.int .i64 0,.int .i64 0,.int .i64 0,.int .i64 0,.int .i64 0,.int .i64 0,.int .i64 0,.int .i64 0,.int .i64 0,.int .i64 0,.int .i64 0,.int .i64 0] 95))
   refine hK.out _ _ K.tl.ft fun _=>?_
   clear hK K'
   try simp only[Act.put,an,ai,aj]
   refine tSt 10 K 0 rfl (fun U h=>h.tl.ft) fun U K=>?_
   refine tK 11 K.tl.ft ?_
   refine tE ?_
   clear u
   generalize V.heap.size=p at K ⊢
   revert K
   exact key.out p U o x j
  ·go_simp
   have K:=K.to (W':=W.alloc (.cells #[.string ⟨#[]⟩,.int .i64 0,.int .i64 0,.int .i64 0,.int .i64 0,.slice none 0 0,.int .i64 0,.int .i64 0,.int .i64 0,.int .i64 0,.int .i64 0,.int .i64 0,.int .i64 0,.int .i64 0,.int .i64 0,.int .i64 0,.int .i64 0,.int .i64 0,.int .i64 0,.int .i64 0,.int .i64 0] 95))
   refine hK.out _ _ K.tl fun _=>?_
   clear hK K'
   try simp only[Act.put,an,ai,aj]
   refine tC 5 fun K' hK=>?_
   go_simp
   refine(yp c Q R J b _ _ K.xok (K.fa 0 rfl) t z F).mono ?_
   rintro e V ⟨o,x,j,rfl,d,l⟩
   have K:=(K.on d).kn (f:=ay.fact o x _) l
   refine hK.out _ _ K.tl.ft fun _=>?_
   clear hK K' d l
   try simp only[Act.put,an,ai,aj]
   refine tK 6 K.tl.ft ?_
   refine tK 7 K.tl.ft ?_
   refine tK 8 K.tl.ft ?_
   refine tSt 10 K 0 rfl (fun U h=>h.tl.ft) fun U K=>?_
   refine tK 11 K.tl.ft ?_
   refine tE ?_
   generalize W.heap.size=p at K ⊢
   revert K
   exact key.out p U o x j
 case key=>
  intro p W o x j K
  have ae:vs.length=s.cs.length*21:=(K.ra 2 rfl).length
  have ac:=(List.getElem?_eq_some_iff.1 P.out).1
  go_upto_region 15 with(fail)
  have c3:=K.r 3 rfl
  go_upto_region 16 with(first | refine K.ld 0 rfl ?_ | refine K.rs (k:=i*21) (cells:=(cD (fc c b) o x j).toArray) 1 rfl (by show i*21+21≤vs.length;omega) fun W K=>?_)
  have c3:=K.r 3 rfl
  go_wp2_with (refine K.lw fun W K=>?_;refine K.sr 2 rfl fun W K=>?_)
  have m:=aC.put (s:=aI) (K.ra 2 rfl) P.out ⟨o,x,j,rfl,K.fa 0 rfl,by rw[th];exact S⟩
  obtain⟨A5,ad,Z,u⟩:=K.out.done_row (s:=aI) 1 rfl m (by decide) (by simp)
  injection Z with Z e6 e7
  subst Z e7
  refine K.rc2 2 rfl rfl ⟨_,n,E,rfl,K.below,?_⟩
  exact(u.hh).slb 0 rfl
end
section
open Go.RowKit
def gy (s:St) (e:Evt):St:=if cH s e=0 then aZ s e else s
theorem gh (s:St) (b:Evt) (A:Option Addr) (n f:Nat) (X:List Nat) (w:World) (hX:XOk X w) (g:Sl aI w X A n f s.cs) (c:bD s) (d:b.cm.size≤maxLen):
 Calls Tryz.prog 38 #[.agg #[.slice A n f,.int .i64 s.q,.int .i64 s.a],.agg (evA b)] w (rK (gy s b) (cH s b) X w):=by
 unfold gy
 by_cases e:cH s b=0
 ·rw[if_pos e,e]
  by_cases h:b.k=1
  ·exact wY s b h A n f X w hX g c d e
  ·exact uq s b h A n f X w hX g c d e
 ·rw[if_neg e]
  exact zT s b A n f X w hX g c d e
set_option maxHeartbeats 1000000 in
theorem Gi (cs:List Cmp) (A:Option Addr) (n p:Nat) (s:Option Addr) (n2 b:Nat) (X:List Nat) (w:World) (hX:XOk X w) (d:Sl aI w X A n p cs) (a:Sl aI w X s n2 b cs) (N:n≤12) (l:∀ c ∈ cs,c.cells.length≤1000):
 Calls Tryz.prog 72 #[.slice A n p,.slice s n2 b,.func (.func 73) #[] #[]] w fun e w'=>e = .returned (.bool true)∧Below w.heap.size w w':=by
 obtain rfl:n2=n:=by rw[d.len,a.len]
 have E:=Lib.hid d.len
 have D:=Lib.hid d
 have j:=Lib.hid a
 clear d a
 go_enter Tryz.func72,Tryz.ntmps72
 go_wp2
 go_loopw [17] (fun i wr => ∃ (k:Nat),k≤n2∧i = .int .i64 k∧HH w [] X wr [] [Sl.fact aI A n2 p cs,Sl.fact aI s n2 b cs]) (fun i _=>n2-(intOf i).toNat)
 case atStart=>exact⟨0,Nat.zero_le _,rfl,((hstart hX).ksl0 j.out).ksl0 D.out⟩
 case round=>
  obtain⟨k,I,rfl,K⟩:=hrel
  by_cases F:k<n2
  ·obtain⟨x,h⟩:∃ x,cs[k]?=some x:=⟨_,List.getElem?_eq_getElem (by have:=E.out;omega)⟩
   obtain⟨ad,r,rfl,K,⟨o,g,t,rfl,v,-⟩⟩:=K.elem 0 rfl h
   have K:=K.kn (f:=ay.fact o g x.cells) v
   obtain⟨C,J,rfl,K,⟨B,y,m,rfl,z,-⟩⟩:=K.elem 3 rfl h
   have K:=K.kn (f:=ay.fact B y x.cells) z
   have G:=Lib.hid h
   have M:(0:Int)≤(k:Int):=by omega
   have L:(k:Int)<(n2:Int):=by omega
   clear h v z
   have q:g≤9223372036854775807:=by have:=l x (List.mem_of_getElem? G.out);have:=(K.fa (f:=ay.fact o g x.cells) 2 rfl).1;omega
   go_upto_region 7 with(first | (refine bF (K.at' 3 rfl) ?_) | (refine bF (K.at' 1 rfl) ?_) | (refine K.lw fun W K=>?_;refine K.sr 0 rfl fun W K=>?_))
   go_wp2_with (first | refine K.ld 1 rfl ?_ | refine K.ld 0 rfl ?_ | (go_at_call 73;refine(DN x o g t B y m _ _ K.xok (K.fa 2 rfl) (K.fa 0 rfl) q).mono ?_;rintro e H ⟨rfl,u⟩;have K:=K.on u;clear u))
   go_roundw
   case rel=>exact⟨k+1,by omega,by go_num,K.tl.tl.ft.ft.ft.ft⟩
   case measure=>simp[intOf];omega
  ·obtain rfl:k=n2:=by omega
   go_wp2
   go_ret
   exact⟨rfl,K.below⟩
theorem xI (s:St) (A:Option Addr) (n g:Nat) (i:Option Addr) (h b:Nat) (X:List Nat) (w:World) (hX:XOk X w) (j:Sl aI w X A n g s.cs) (d:Sl aI w X i h b s.cs) (l:n≤12) (f:∀ c ∈ s.cs,c.cells.length≤1000):
 Calls Tryz.prog 25 #[.agg #[.slice A n g,.int .i64 s.q,.int .i64 s.a],.agg #[.slice i h b,.int .i64 s.q,.int .i64 s.a]] w fun e w'=>e = .returned (.bool true)∧Below w.heap.size w w':=by
 have p:(s.q == s.q)=true:=by simp
 have o:(s.a == s.a)=true:=by simp
 go_enter Tryz.func25,Tryz.ntmps25
 go_wp2_with fail
 refine(hstart hX).cl fun W K=>?_
 have K:=(K.ksl0 d).ksl0 j
 clear j d
 refine(Gi s.cs A n g i h b _ W K.xok (K.sl 0 rfl) (K.sl 1 rfl) l f).mono ?_
 rintro e m ⟨rfl,k⟩
 have K:=K.on k
 go_wp2
 go_ret
 exact⟨rfl,K.below⟩
end
section
open Go.RowKit
theorem rB:∀ (l:List UInt8) (acc:Nat),(∀ c ∈ l,48≤c.toNat∧c.toNat≤57)→acc*10^l.length≤ef acc l∧ef acc l<(acc+1)*10^l.length
 | [],acc,_=>by simp[ef]
 | c::l,acc,h=>by
   have g:=h c (by simp)
   have ih:=rB l (acc*10+(c.toNat-48)) (fun d a=>h d (by simp[a]))
   have e:ef acc (c::l)=ef (acc*10+(c.toNat-48)) l:=rfl
   rw[e,List.length_cons,Nat.pow_succ]
   have b:acc*10*10^l.length≤(acc*10+(c.toNat-48))*10^l.length:=Nat.mul_le_mul_right _ (by omega)
   have f:(acc*10+(c.toNat-48)+1)*10^l.length≤(acc+1)*10*10^l.length:=Nat.mul_le_mul_right _ (by omega)
   rw[Nat.mul_comm (10^_) 10,←Nat.mul_assoc,←Nat.mul_assoc]
   exact⟨by omega,by omega⟩
theorem mX:∀ (x y:List UInt8) (acc:Nat),x.length=y.length→(∀ c ∈ x,48≤c.toNat∧c.toNat≤57)→(∀ c ∈ y,48≤c.toNat∧c.toNat≤57)→ef acc x<ef acc y→Op.bytesLess x y=true
 | [],[],acc,_,_,_,h=>absurd h (Nat.lt_irrefl _)
 | [],d::y,acc,hl,_,_,_=>by simp at hl
 | c::x,[],acc,hl,_,_,_=>by simp at hl
 | c::x,d::y,acc,hl,hx,hy,h=>by
   have p:=hx c (by simp)
   have n:=hy d (by simp)
   have a:∀ e ∈ x,48≤e.toNat∧e.toNat≤57:=fun e i=>hx e (by simp[i])
   have f:∀ e ∈ y,48≤e.toNat∧e.toNat≤57:=fun e i=>hy e (by simp[i])
   have k:ef acc (c::x)=ef (acc*10+(c.toNat-48)) x:=rfl
   have l:ef acc (d::y)=ef (acc*10+(d.toNat-48)) y:=rfl
   have b:x.length=y.length:=by simpa using hl
   simp only[Op.bytesLess,Bool.or_eq_true,decide_eq_true_eq,Bool.and_eq_true,beq_iff_eq,UInt8.lt_iff_toNat_lt]
   rcases Nat.lt_trichotomy c.toNat d.toNat with g | g | g
   ·exact .inl g
   ·have j:=UInt8.toNat_inj.1 g
    subst j
    exact .inr ⟨rfl,mX x y _ b a f h⟩
   ·have m:=(rB x (acc*10+(c.toNat-48)) a).1
    have q:=(rB y (acc*10+(d.toNat-48)) f).2
    rw[b]at m
    have o:(acc*10+(d.toNat-48)+1)*10^y.length≤(acc*10+(c.toNat-48))*10^y.length:=Nat.mul_le_mul_right _ (by omega)
    rw[k,l]at h
    omega
theorem DY {n m:Nat} (h:n<m) (a:m≤99999999):ltB (az n) (az m)=true:=by
 have b:=js (n:=n) (by omega)
 have c:=js a
 have d:=mX (kQ n) (kQ m) 0 (by rw[iB (by omega),iB a]) b.1 c.1 (by rw[b.2,c.2];exact h)
 unfold ltB
 rw[ByteArray.toList_eq,ByteArray.toList_eq,eF,eF]
 simp[Op.bytesLess,d]
theorem EC {n:Nat} (h:n≤99999999):fnB (az n)=true:=by
 obtain⟨e,-,-⟩:=fN h
 have b:=(js h).1
 unfold fnB
 rw[e,ByteArray.toList_eq,eF,Bool.and_eq_true]
 refine⟨by decide,List.all_eq_true.2 fun c d=>?_⟩
 rcases List.mem_append.1 d with a | a
 ·simp only[List.mem_cons,List.not_mem_nil,or_false]at a
  rcases a with rfl | rfl | rfl | rfl<;>decide
 ·have:=b c a
  unfold qw
  exact decide_eq_true (by omega)
theorem BU {n:Nat} (h:n≤99999999):preB (az n)=true:=by
 obtain⟨b,a,-⟩:=fN h
 unfold preB
 rw[b,a]
 rfl
def gZ (nm:ByteArray):Nat:=if preB nm=true then ef 0 (nm.data.toList.drop 4) else 0
theorem iA {n:Nat} (h:n≤99999999):gZ (az n)=n:=by
 unfold gZ
 rw[if_pos (BU h),eF]
 exact(js h).2
def uF (nm:ByteArray):Prop:=preB nm=false ∨ ∃ n,1≤n∧n≤99999999∧nm=az n
theorem uF.le {nm:ByteArray} (h:uF nm):gZ nm≤99999999:=by
 rcases h with h | ⟨n,b,a,rfl⟩
 ·unfold gZ;rw[h];simp
 ·rw[iA a];exact a
theorem Bl (nm:ByteArray) (h:uF nm) (w:World) (c:aV w):Calls Tryz.prog 140 #[.string nm] w fun e w'=>e = .returned (.int .i64 (gZ nm:Int))∧Below w.heap.size w w':=by
 rcases h with h | ⟨n,b,a,rfl⟩
 ·have e:gZ nm=0:=by unfold gZ;rw[h];simp
  rw[e]
  exact yE nm h w
 ·rw[iA a]
  exact zY n b a w c
def ej (bs:List UInt8):Prt:=⟨(aT (bs.take (aT bs bP).1.size.toNat) bP).1,(aT (bs.take (aT bs bP).1.size.toNat) bP).2,bs.length⟩
def EY (acc:List Prt×List ByteArray) (x:Fil):Prop:=acc.2 = []∧(ej x.all).s.num=(gZ x.nm:Int) ∧ ∀ a,acc.1.getLast?=some a→wT (ej x.all) a=true
open Classical in
noncomputable def bA (acc:List Prt×List ByteArray) (x:Fil):List Prt×List ByteArray:=
 if gZ x.nm=0 then acc else if EY acc x then(acc.1 ++ [ej x.all],acc.2) else(acc.1,acc.2 ++ [x.nm])
noncomputable def cU (fs:List Fil):List Prt×List ByteArray:=fs.foldl bA ([],[])
theorem Bt {fs:List Fil} {k:Nat} {x:Fil} (h:fs[k]?=some x):cU (fs.take (k+1))=bA (cU (fs.take k)) x:=by
 obtain⟨a,rfl⟩:=List.getElem?_eq_some_iff.1 h
 unfold cU
 rw[List.take_succ_eq_append_getElem a,List.foldl_append]
 rfl
theorem jo (fs:List Fil) (h:∀ f ∈ fs,uF f.nm):(cU fs).1.length+(cU fs).2.length≤fs.length ∧ ∀ p ∈ (cU fs).1,1≤p.s.num∧p.s.num≤99999999:=by
 have key:∀ (l:List Fil) (acc:List Prt×List ByteArray),(∀ f ∈ l,uF f.nm)→(∀ p ∈ acc.1,1≤p.s.num∧p.s.num≤99999999)→(l.foldl bA acc).1.length+(l.foldl bA acc).2.length≤acc.1.length+acc.2.length+l.length ∧ ∀ p ∈ (l.foldl bA acc).1,1≤p.s.num∧p.s.num≤99999999:=by
  intro l
  induction l with
  | nil=>intro acc _ b;exact⟨by simp,b⟩
  | cons x l ih=>
    intro acc c b
    have i:=(c x (by simp)).le
    have e:(bA acc x).1.length+(bA acc x).2.length≤acc.1.length+acc.2.length+1 ∧ ∀ p ∈ (bA acc x).1,1≤p.s.num∧p.s.num≤99999999:=by
     unfold bA
     split
     ·exact⟨by omega,b⟩
     ·split
      ·rename_i j d
       refine⟨by simp;omega,fun p a=>?_⟩
       rcases List.mem_append.1 a with a | a
       ·exact b p a
       ·rw[List.mem_singleton]at a
        subst a
        have:=d.2.1
        omega
      ·exact⟨by simp;omega,b⟩
    have:=ih (bA acc x) (fun f g=>c f (by simp[g])) e.2
    rw[List.foldl_cons,List.length_cons]
    exact⟨by omega,this.2⟩
 have:=key fs ([],[]) h (by simp)
 simpa [cU] using this
structure Sg where
 bq:Int
 ba:Int
 evs:List Evt
 sd:Bool
def Sg.c0 (g:Sg):Cx:=⟨g.bq,g.ba,[]⟩
def Sg.c (g:Sg):Cx:=ei g.c0 g.evs
def Sg.bt (n:Nat) (g:Sg):List UInt8:=eo (n:Int) g.c0 g.evs g.sd
def Sg.pr (n:Nat) (g:Sg):Prt:=⟨⟨n,g.bq,g.ba,g.evs,g.c,((g.bt n).length:Int),g.sd⟩,if g.sd=true then 4 else 1,(g.bt n).length⟩
def cC:St→List Evt→Option St
 | s,[]=>some s
 | s,e::l=>if cH s e=0 then cC (aZ s e) l else none
def qj (s:St) (g:Sg) (t:St):Prop:=g.bq=s.q∧g.ba=s.a∧g.evs ≠ []∧okL g.c0 g.evs∧cC s g.evs=some t
def jd:St→List Sg→St→Prop
 | s,[],t=>s=t
 | s,g::l,t => ∃ u,qj s g u∧(l ≠ []→g.sd=true)∧jd u l t
def bg:Nat→List Fil→List Sg→Prop
 | _,[],[]=>True
 | n,f::fs,g::gs=>f.nm=az (n+1)∧f.all=g.bt (n+1)∧bg (n+1) fs gs
 | _,_,_=>False
def aJ:Nat→List Sg→List Prt
 | _,[] => []
 | n,g::l=>g.pr (n+1)::aJ (n+1) l
theorem fu (s:St) (e:Evt):(aZ s e).q=e.q∧(aZ s e).a=e.a:=by
 unfold aZ
 split
 ·exact⟨rfl,rfl⟩
 ·split<;>exact⟨rfl,rfl⟩
theorem eU:∀ (l:List Evt) (s t:St),bD s→cC s l=some t→bD t∧t.q=s.q+l.length
 | [],s,t,hs,h=>by
   simp only[cC,Option.some.injEq]at h
   subst h
   exact⟨hs,by simp⟩
 | e::l,s,t,hs,h=>by
   unfold cC at h
   by_cases a:cH s e=0
   ·rw[if_pos a]at h
    have:=eU l _ t (iu hs a) h
    refine⟨this.1,?_⟩
    rw[this.2,(fu s e).1,(gz a).2.1,List.length_cons]
    omega
   ·rw[if_neg a]at h;cases h
theorem rZ:∀ (l:List Evt) (c:Cx) (s t:St),c.q=s.q→c.a=s.a→cC s l=some t→(ei c l).q=t.q∧(ei c l).a=t.a
 | [],c,s,t,h1,h2,h=>by
   simp only[cC,Option.some.injEq]at h
   subst h
   exact⟨h1,h2⟩
 | e::l,c,s,t,h1,h2,h=>by
   unfold cC at h
   by_cases b:cH s e=0
   ·rw[if_pos b]at h
    have:=fu s e
    exact rZ l (bJ c e) _ t (by rw[this.1];rfl) (by rw[this.2];rfl) h
   ·rw[if_neg b]at h;cases h
theorem qj.ctx {s t:St} {g:Sg} (h:qj s g t):g.c.q=t.q∧g.c.a=t.a:=rZ _ _ s t h.1 h.2.1 h.2.2.2.2
theorem qj.right {s t:St} {g:Sg} (h:qj s g t) (d:bD s):aN g.c0=true:=by
 obtain⟨f,b,a,c,e,i⟩:=d
 unfold Sg.c0
 rw[h.1,h.2.1]
 unfold aN
 simp[b,a,c,e,cK]
def iK (k:Int):List Evt→St→Option St
 | [],s=>some s
 | e::l,s=>if e.q≤k then iK k l s else if cH s e=0 then iK k l (aZ s e) else none
def jh (k:Int):List Prt→St→Option St
 | [],s=>some s
 | p::l,s=>if(p.s.evs.length:Int)=p.s.c.q-p.s.bq then(iK k p.s.evs s).bind (jh k l) else none
theorem oK (k:Int):∀ (l:List Evt) (s:St),k≤s.q→iK k l s=cC s l∨cC s l=none
 | [],s,_=>.inl rfl
 | e::l,s,h=>by
   unfold iK cC
   by_cases a:cH s e=0
   ·have:=(gz a).2.1
    rw[if_neg (by omega),if_pos a,if_pos a]
    exact oK k l _ (by rw[(fu s e).1];omega)
   ·exact .inr (if_neg a)
end
section
open Go.RowKit
abbrev jnA (A:Option Addr) (n cp:Nat) (room b age:Int) (S:Option Addr) (m mc:Nat) (q a:Int) (N:Option Addr) (nn cn:Nat) (C:Option Addr) (k ck:Nat) (sq sa sure kept:Int) (shut:Bool):List Value:=
 [.slice A n cp,.int .i64 room,.int .i64 (-1),.bool false,.int .i64 b,.int .i64 age,.slice S m mc,.int .i64 q,.int .i64 a,.slice N nn cn,.slice C k ck,.int .i64 sq,.int .i64 sa,.int .i64 sure,.int .i64 kept,.bool shut]
set_option maxHeartbeats 1000000 in
theorem jl (A:Option Addr) (n h:Nat) (room b d:Int) (S:Option Addr) (m f:Nat) (q a:Int) (N:Option Addr) (nn g:Nat) (C:Option Addr) (k j:Nat) (i sa sure kept:Int) (sh:Bool) (X:List Nat) (w:World) (hX:XOk X w):
 Calls Tryz.prog 42 #[.agg (jnA A n h room b d S m f q a N nn g C k j i sa sure kept sh).toArray] w fun e w'=>e = .returned (.tuple #[.agg (jnA A n h room b d S m f q a N nn g C k j i sa sure kept true).toArray,.int .i64 13])∧Below w.heap.size w w':=by
 simp only[jnA]
 go_enter Tryz.func42,Tryz.ntmps42
 go_upto_region 1 with(fail)
 refine(hstart hX).cw fun W K=>?_
 have l:=K.c 1 rfl
 go_upto_region 2 with(fail)
 refine K.cw fun W K=>?_
 clear l
 go_wp2_with (first | refine K.ld 1 rfl ?_ | (refine K.lw fun W K=>?_;refine K.sr 0 rfl fun W K=>?_))
 exact K.rc2 0 rfl rfl ⟨rfl,K.below⟩
end
section
open Go.RowKit
theorem Gv {w:World} {X:List Nat} (l:List Evt) (h:∀ e ∈ l,okE e):aC iz w X (aH l) l:=(aO).2 ⟨by simp[aH],h⟩
theorem Ei {e:Evt} (h:dz e=0):okE e:=by
 obtain⟨f,b,a,c,a1,n,m,o⟩:=eD h
 obtain⟨⟨i,j⟩,⟨l,p⟩,⟨g,k⟩,-,-⟩:=dI ⟨f,b⟩ c
 have d:e.cm.size≤24:=by unfold fB at a;simp only[Bool.and_eq_true,decide_eq_true_iff]at a;exact a.2
 unfold okE maxLen
 simp only[wf_i64]
 omega
theorem xN (A:Option Addr) (n c:Nat) (bs:List UInt8) (X:List Nat) (w:World) (hX:XOk X w) (f:Sl ak w X A n c bs) (k:n≤10000):
 Calls Tryz.prog 14 #[.slice A n c] w fun e w' => ∃ E en a b nn d,e = .returned (.agg (AL (aT bs bP).1 (aT bs bP).2 (.slice E en a) b nn d))∧Sl iz w' X E en a (aT bs bP).1.evs∧Sl af w' X b nn d (aT bs bP).1.c.ns∧nn≤1000∧Below w.heap.size w w':=by
 refine(FW A n c w.heap.size bs X w hX f.bytes (Nat.le_refl _) f.le (by have:=f.max;unfold maxLen at this;omega) k).mono ?_
 rintro e w' ⟨j,o,b,nn,d,rfl,hown,i,h,m⟩
 obtain⟨E,a,rfl,g⟩:=Sl.of_own (s:=iz) hown m (Gv _ fun e l=>Ei ((tI bs).1 e l)) (by decide)
 exact⟨E,_,a,b,nn,d,rfl,g,i,h,j⟩
theorem sJ {fs:List Fil} (h:Srt Fil.nm fs) {k:Nat} {x:Fil} (a:fs[k]?=some x):findD fs x.nm=(k:Int):=by
 unfold findD
 rw[oe a rfl (fun j d c b e=>by have:=h.uniq b a e;omega),if_pos (List.getElem?_eq_some_iff.1 a).1]
theorem fC {W:World} {e:TypeId} {size n c:Nat} {A:Option Addr} {xs:List Value} (h:W.ownsRow 0 e size (.slice A n c) n xs) (f:0<n):∃ g,A=some ⟨g,0,none⟩:=by
 rcases h.2 with⟨h,_⟩ | ⟨g,cap,cur,h,_⟩
 ·injection h with a b d;omega
 ·injection h with a b d;exact⟨g,a⟩
theorem yR (acc:List Prt×List ByteArray) (x:Fil) (h:gZ x.nm≠0) (j:acc.2.length=0) (e:(ej x.all).s.num=(gZ x.nm:Int)):
 (acc.1 = []→bA acc x=(acc.1 ++ [ej x.all],acc.2)) ∧ ∀ a,acc.1.getLast?=some a→bA acc x=if wT (ej x.all) a=true then(acc.1 ++ [ej x.all],acc.2) else(acc.1,acc.2 ++ [x.nm]):=by
 have f:acc.2 = []:=List.eq_nil_of_length_eq_zero j
 unfold bA
 rw[if_neg h]
 constructor
 ·intro g
  rw[if_pos ⟨f,e,fun a c=>by rw[g]at c;simp at c⟩]
 ·intro a c
  by_cases d:wT (ej x.all) a=true
  ·rw[if_pos ⟨f,e,fun a' b=>by rw[c]at b;injection b with b;subst b;exact d⟩,if_pos d]
  ·rw[if_neg (fun i=>d (i.2.2 a c)),if_neg d]
theorem yI (acc:List Prt×List ByteArray) (x:Fil) (h:gZ x.nm≠0) (b:¬ (acc.2.length=0∧(ej x.all).s.num=(gZ x.nm:Int))):bA acc x=(acc.1,acc.2 ++ [x.nm]):=by
 unfold bA
 rw[if_neg h,if_neg (fun a=>b ⟨by rw[a.1];rfl,a.2.1⟩)]
set_option maxHeartbeats 3000000 in
theorem FY (fs:List Fil) (room:Int) (A:Option Addr) (n cp:Nat) (X:List Nat) (w:World) (hX:XOk X w) (d:Sl ax w X A n cp fs) (I:cj ⟨fs,room⟩) (ae:∀ f ∈ fs,uF f.nm) (hlen:∀ f ∈ fs,f.all.length≤10000) (hp:aV w):
 Calls Tryz.prog 75 #[.agg #[.slice A n cp,.int .i64 room,.int .i64 (-1),.bool false]] w fun e w' => ∃ B bn c B2 n2 c2,e = .returned (.tuple #[.slice B bn c,.slice B2 n2 c2])∧Sl dP w' X B bn c (cU fs).1∧Sl dx w' X B2 n2 c2 (cU fs).2∧Below w.heap.size w w':=by
 have HL:=Lib.hid d.len
 have al:n≤64:=by have:=I.1;have:=d.len;simp only at *;omega
 have R:∀ f ∈ fs,f.nm.size≤maxLen:=fun f hf=>by
  have:=I.2.2.2.1 f hf
  unfold fnB at this
  unfold maxLen
  simp at this
  omega
 have bd:=Lib.hid I.2.2.2.2.1
 go_enter Tryz.func75,Tryz.ntmps75
 go_upto_region 3 with(fail)
 refine(hstart hX).cw fun W K=>?_
 have K:=K.ksl0 d
 clear d
 have c0:=K.r 0 rfl
 go_wp2_with fail
 refine(tD fs room A n cp _ _ K.xok (K.sl 0 rfl) al R).mono ?_
 rintro e w1 ⟨B,bc,rfl,t,b⟩
 have K:=((K.on b).ksl t).nrow (e:=132) (size:=11) (n:=0) (v := .slice none 0 0) (xs:=[]) (Below.refl _ _) ⟨rfl,.inl ⟨rfl,rfl⟩⟩
 have K:=K.nrow (e:=9) (size:=1) (n:=0) (v := .slice none 0 0) (xs:=[]) (Below.refl _ _) ⟨rfl,.inl ⟨rfl,rfl⟩⟩
 have K:=K.kra (s:=dP) (vs:=[]) (xs:=[]) rfl
 clear c0 b t
 go_wp2
 go_loopw [16,4,5] (fun i v v2 wr => ∃ (k r m:Nat) (Ar:Option Addr) (L:Nat) (Ao:Option Addr) (co:Nat) (vs:List Value),k≤n∧i = .int .i64 k∧v = .slice Ar r L∧v2 = .slice Ao m co∧Hid (r=(cU (fs.take k)).1.length∧m=(cU (fs.take k)).2.length) ∧
  HH w [] X wr [.row 9 1 (.slice Ao m co) m ((cU (fs.take k)).2.map Value.string),.row 132 11 (.slice Ar r L) r vs,.box w.heap.size 30 #[.slice A n cp,.int .i64 room,.int .i64 (-1),.bool false]] [Ra.fact dP vs (cU (fs.take k)).1,Sl.fact dx B n bc (fs.map Fil.nm),Sl.fact ax A n cp fs]) (fun i _ _ _=>n-(intOf i).toNat)
 case atStart=>exact⟨0,0,0,none,0,none,0,[],Nat.zero_le _,rfl,rfl,rfl,Lib.hid ⟨rfl,rfl⟩,K⟩
 case round=>
  obtain⟨k,r,m,Ar,L,Ao,co,vs,hk,rfl,rfl,rfl,a,K⟩:=hrel
  by_cases bo:k<n
  ·obtain⟨x,hx⟩:∃ x,fs[k]?=some x:=⟨_,List.getElem?_eq_getElem (by have:=HL.out;omega)⟩
   have p:=Lib.hid (Bt hx)
   have HB:=Lib.hid (jo (fs.take k) (fun f hf=>ae f (List.mem_of_mem_take hf)))
   have bq:r+m≤64:=by
    have h1:=HB.out.1
    have D:=a.out
    rw[List.length_take]at h1
    omega
   generalize cU (fs.take k)=acc at K p HB a
   have hmem:=List.mem_of_getElem? hx
   have HN:=fun W (hW:aV W)=>Lib.hid (Bl x.nm (ae x hmem) W hW)
   have HF:=Lib.hid (sJ bd.out hx)
   have HX:=Lib.hid hx
   have bi:=hlen x hmem
   have bs:=R x hmem
   obtain⟨ad,rr,rfl,K,⟨rfl,-⟩⟩:=K.elem 1 rfl (j:=k) (x:=x.nm) (by rw[List.getElem?_map,hx];rfl)
   have s0:=At.one (K.at' 0 rfl) rfl rfl
   have i1:(0:Int)≤(k:Int):=by omega
   have i2:(k:Int)<(n:Int):=by omega
   clear hx hmem
   go_wp2_with fail
   refine(HN _ (hp.on K.below)).out.mono ?_
   rintro e w2 ⟨rfl,b⟩
   have K:=K.ft.on b
   clear b s0
   by_cases h0:gZ x.nm=0
   ·have o:Hid (bA acc x=acc):=Lib.hid (by unfold bA;rw[if_pos h0])
    rw[h0]
    go_wp2
    go_roundw
    case rel=>exact⟨k+1,r,m,Ar,L,Ao,co,vs,by omega,by go_num,rfl,rfl,by rw[p.out,o.out];exact a,by rw[p.out,o.out];exact K⟩
    case measure=>simp[intOf];omega
   ·have i3:¬ (gZ x.nm:Int)=0:=by omega
    have c2:=K.r 2 rfl
    go_wp2_with fail
    refine(oT ⟨fs,room⟩ x k A n cp _ _ K.xok (K.sl 2 rfl) I HX.out HF.out).mono ?_
    rintro e w3 ⟨B1,Z,rfl,t,b⟩
    have K:=(K.on b).ksl t
    clear b c2 t
    go_wp2_with fail
    refine(xN B1 _ Z x.all _ _ K.xok (K.sl 0 rfl) bi).mono ?_
    rintro e w4 ⟨E,M,J,N,nn,O,rfl,-,-,-,b⟩
    have K:=K.on b
    clear b
    have ab:=(qa x.all).1
    obtain⟨z,hz⟩:∃ z:Nat,(aT x.all bP).1.size=(z:Int):=⟨(aT x.all bP).1.size.toNat,by have:=ab.lo;omega⟩
    have ao:z≤x.all.length:=by have:=ab.hi;omega
    have Q:Hid (ej x.all=⟨(aT (x.all.take z) bP).1,(aT (x.all.take z) bP).2,x.all.length⟩):=Lib.hid (by unfold ej;rw[hz,Int.toNat_natCast])
    have br:=(K.sl 0 rfl).le
    have aw:=fun(W:World)=>ox (P:=Tryz.prog) (ty:=54) (i:=5) (off:=9) (cs:=AL (aT x.all bP).1 (aT x.all bP).2 (.slice E M J) N nn O) (v := .int .i64 (z:Int)) (by kernel_rfl) (by rw[←hz];rfl) W
    generalize AL (aT x.all bP).1 (aT x.all bP).2 (.slice E M J) N nn O=bm at aw ⊢
    have i4:(0:Int)≤(z:Int):=by omega
    have i5:(z:Int)≤(Z:Int):=by omega
    have hpre:=(K.sl 0 rfl).pre ao
    have K:=K.ksl hpre
    clear hpre ab hz
    go_wp2_with fail
    refine(xN B1 z Z (x.all.take z) _ _ K.xok (K.sl 0 rfl) (by omega)).mono ?_
    rintro e w5 ⟨E,M,J,N,nn,O,rfl,ah,am,T,b⟩
    have K:=((((K.on b).ft.ft).ksl ah).ksl am)
    clear b ah am
    generalize aT (x.all.take z) bP=r2 at K Q T ⊢
    obtain⟨F,st2⟩:=r2
    simp only[AL]
    go_upto_region 11 with(refine K.lw fun W K=>?_;refine K.sr 0 rfl fun W K=>?_)
    have c0:=K.r 0 rfl
    by_cases hi:m=0∧F.num=(gZ x.nm:Int)
    ·obtain⟨rfl,D⟩:=hi
     have i7:(F.num == (gZ x.nm:Int))=true:=by simpa using D
     have H:=yR acc x h0 a.out.2.symm (by rw[Q.out];exact D)
     clear D
     cases r with
     | zero=>
       have o:=Lib.hid (H.1 (List.eq_nil_of_length_eq_zero a.out.1.symm))
       clear H
       go_upto_region 17 with(at_builtin;refine K.lw fun W K=>?_;refine K.ap1 136 2 rfl (by omega) fun v' U K=>?_)
       obtain⟨S,V,rfl,-⟩:=aK (K.row 2 rfl)
       go_wp2
       go_roundw
       case rel=>
        have Y:=(K.ra 2 rfl).append (aC.single (s:=dP) (x:=(⟨F,st2,x.all.length⟩:Prt)) ⟨E,M,J,N,nn,O,rfl,K.sl 1 rfl,K.sl 0 rfl,T⟩)
        have K:=K.kra (s:=dP) (xs:=acc.1 ++ [ej x.all]) (by rw[Q.out];exact Y)
        refine⟨k+1,0+1,0,S,V,Ao,co,vs++ql ⟨F,st2,x.all.length⟩ E M J N nn O,by omega,by go_num,rfl,rfl,by rw[p.out,o.out];exact Lib.hid ⟨by simp[a.out.1],a.out.2⟩,?_⟩
        rw[p.out,o.out]
        exact(K.tl.out.forget (List.Sublist.cons_cons _ (List.Sublist.cons _ (List.Sublist.cons _ (List.Sublist.cons _ (List.Sublist.refl _)))))).hh
       case measure=>simp[intOf];omega
     | succ r'=>
       have ag:=a.out.1
       obtain⟨pl,G⟩:∃ pl,acc.1[r']?=some pl:=⟨_,List.getElem?_eq_getElem (by omega)⟩
       have q:acc.1.getLast?=some pl:=by rw[List.getLast?_eq_getElem?,←ag];exact G
       have u:=H.2 pl q
       have bk:=HB.out.2 pl (List.mem_of_getElem? G)
       obtain⟨g,rfl⟩:=fC (K.row 2 rfl) (Nat.succ_pos r')
       obtain⟨rr,⟨E2,ba,bb,ap,ar,be,rfl,-⟩,bj⟩:=rowAt (K.ra 2 rfl) (e:=132) (g:=g) (n:=r'+1) (cap:=L) G
       have i8:(0:Int)≤(r':Int):=by omega
       have i9:(r':Int)<(r':Int)+1:=by omega
       have bl:=IntWalk.i64_in (r':Int) (by omega)
       clear G q H ag
       go_upto_region 13 with(fail)
       clear c0
       refine K.rg fun W K=>?_
       refine tL 0 (fun _ h=>h.at_ 0 rfl) K ?_ (hy:=fun w hw=>aM hw)
       refine tK 1 K ?_
       refine tK 2 K ?_
       refine tK 3 K ?_
       refine tK 4 K ?_
       refine tK 5 K ?_
       refine tL 6 (fun _ h=>bj _ (h.row 2 rfl)) K ?_ (hy:=fun w hw=>aM hw)
       refine tC 7 fun K' hK=>?_
       go_simp
       refine(zy ⟨F,st2,x.all.length⟩ pl E M J N nn O E2 ba bb ap ar be _ (by omega)).mono ?_
       rintro e w6 ⟨rfl,b⟩
       have K:=K.on b
       refine hK.out _ _ K fun _=>?_
       clear hK K' b
       try simp only[Act.put,an,ai,aj]
       refine tK 8 K ?_
       refine tE ?_
       have c0:=K.r 0 rfl
       rw[Q.out]at u
       cases hfw:wT ⟨F,st2,x.all.length⟩ pl with
       | true=>
         have o:Hid (bA acc x=(acc.1 ++ [ej x.all],acc.2)):=Lib.hid (by rw[u,hfw,if_pos rfl,Q.out])
         clear u
         go_upto_region 17 with(at_builtin;refine K.lw fun W K=>?_;refine K.ap1 136 2 rfl (by omega) fun v' U K=>?_)
         obtain⟨S,V,rfl,-⟩:=aK (K.row 2 rfl)
         go_wp2
         go_roundw
         case rel=>
          have Y:=(K.ra 2 rfl).append (aC.single (s:=dP) (x:=(⟨F,st2,x.all.length⟩:Prt)) ⟨E,M,J,N,nn,O,rfl,K.sl 1 rfl,K.sl 0 rfl,T⟩)
          have K:=K.kra (s:=dP) (xs:=acc.1 ++ [ej x.all]) (by rw[Q.out];exact Y)
          refine⟨k+1,r'+1+1,0,S,V,Ao,co,vs++ql ⟨F,st2,x.all.length⟩ E M J N nn O,by omega,by go_num,rfl,rfl,by rw[p.out,o.out];exact Lib.hid ⟨by simp[a.out.1],a.out.2⟩,?_⟩
          rw[p.out,o.out]
          exact(K.tl.out.forget (List.Sublist.cons_cons _ (List.Sublist.cons _ (List.Sublist.cons _ (List.Sublist.cons _ (List.Sublist.refl _)))))).hh
         case measure=>simp[intOf];omega
       | false=>
         have o:Hid (bA acc x=(acc.1,acc.2 ++ [x.nm])):=Lib.hid (by rw[u,hfw,if_neg (by simp)])
         clear u
         go_upto_region 17 with(at_builtin;refine K.lw fun W K=>?_;refine K.ap1 16 1 rfl (by omega) fun v' U K=>?_)
         obtain⟨y,C,rfl,-⟩:=aK (K.row 1 rfl)
         go_wp2
         go_roundw
         case rel=>
          refine⟨k+1,r'+1,0+1,some ⟨g,0,none⟩,L,y,C,vs,by omega,by go_num,rfl,rfl,by rw[p.out,o.out];exact Lib.hid ⟨a.out.1,by simp[a.out.2]⟩,?_⟩
          rw[p.out,o.out]
          simp only[List.map_append]
          exact K.tl.ft.ft
         case measure=>simp[intOf];omega
    ·have o:Hid (bA acc x=(acc.1,acc.2 ++ [x.nm])):=Lib.hid (yI acc x h0 (by rw[Q.out,←a.out.2];exact hi))
     rcases(show m≠0∨(m=0∧F.num≠(gZ x.nm:Int)) by omega) with h | ⟨h,D⟩
     ·have i6:¬ (m:Int)=0:=by omega
      go_upto_region 17 with(at_builtin;refine K.lw fun W K=>?_;refine K.ap1 16 1 rfl (by omega) fun v' U K=>?_)
      obtain⟨y,C,rfl,-⟩:=aK (K.row 1 rfl)
      go_wp2
      go_roundw
      case rel=>
       refine⟨k+1,r,m+1,Ar,L,y,C,vs,by omega,by go_num,rfl,rfl,by rw[p.out,o.out];exact Lib.hid ⟨a.out.1,by simp[a.out.2]⟩,?_⟩
       rw[p.out,o.out]
       simp only[List.map_append]
       exact K.tl.ft.ft
      case measure=>simp[intOf];omega
     ·subst h
      have i7:(F.num == (gZ x.nm:Int))=false:=by simpa using D
      go_upto_region 17 with(at_builtin;refine K.lw fun W K=>?_;refine K.ap1 16 1 rfl (by omega) fun v' U K=>?_)
      obtain⟨y,C,rfl,-⟩:=aK (K.row 1 rfl)
      go_wp2
      go_roundw
      case rel=>
       refine⟨k+1,r,0+1,Ar,L,y,C,vs,by omega,by go_num,rfl,rfl,by rw[p.out,o.out];exact Lib.hid ⟨a.out.1,by simp[a.out.2]⟩,?_⟩
       rw[p.out,o.out]
       simp only[List.map_append]
       exact K.tl.ft.ft
      case measure=>simp[intOf];omega
  ·obtain rfl:k=n:=by omega
   have e1:fs.take k=fs:=List.take_of_length_le (by have:=HL.out;omega)
   rw[e1]at K
   go_wp2
   go_ret2
   have bp:Hid (r=(cU fs).1.length∧m=(cU fs).2.length):=by rw[e1]at a;exact a
   have ac:∀ s ∈ (cU fs).2,s.size≤maxLen:=by
    have key:∀ (l:List Fil) (acc:List Prt×List ByteArray),(∀ f ∈ l,f.nm.size≤maxLen)→(∀ s ∈ acc.2,s.size≤maxLen) → ∀ s ∈ (l.foldl bA acc).2,s.size≤maxLen:=by
     intro l
     induction l with
     | nil=>intro acc _ h;exact h
     | cons f l ih=>
       intro acc h1 D
       refine ih _ (fun f hf=>h1 f (by simp[hf])) fun s d=>?_
       unfold bA at d
       split at d
       ·exact D s d
       ·split at d
        ·exact D s d
        ·rcases List.mem_append.1 d with d | d
         ·exact D s d
         ·rw[List.mem_singleton]at d
          subst d
          exact h1 f (by simp)
    exact key fs _ R (by simp)
   obtain⟨B1,c1,e2,KS⟩:=K.out.done_row (s:=dx) (xs:=(cU fs).2) 0 rfl (aO.2 ⟨by rw[List.map_eq_flatMap],ac⟩) (by decide) (by simp)
   obtain⟨B2,c2,e3,KS⟩:=KS.done_row (s:=dP) (xs:=(cU fs).1) 0 rfl (KS.ra 1 rfl) (by decide) (by simp)
   have K:=KS.hh
   rw[e2,e3]
   exact⟨B2,r,c2,B1,m,c1,rfl,K.slb 0 rfl,K.slb 1 rfl,K.below⟩
end
section
open Go.RowKit
theorem DJ {k:Int} {l:List Evt} {j:Nat} {e:Evt} {s t:St} (h:iK k (l.drop j) s=some t) (d:l[j]?=some e):(e.q≤k∧iK k (l.drop (j+1)) s=some t)∨(¬ e.q≤k∧cH s e=0∧iK k (l.drop (j+1)) (aZ s e)=some t):=by
 obtain⟨c,rfl⟩:=List.getElem?_eq_some_iff.1 d
 rw[←List.getElem_cons_drop (h:=c)]at h
 unfold iK at h
 by_cases a:(l[j]).q≤k
 ·rw[if_pos a]at h;exact .inl ⟨a,h⟩
 ·rw[if_neg a]at h
  by_cases b:cH s l[j]=0
  ·rw[if_pos b]at h;exact .inr ⟨a,b,h⟩
  ·rw[if_neg b]at h;cases h
theorem EF {k:Int} {l:List Prt} {j:Nat} {p:Prt} {s t:St} (h:jh k (l.drop j) s=some t) (d:l[j]?=some p):(p.s.evs.length:Int)=p.s.c.q-p.s.bq ∧ ∃ u,iK k p.s.evs s=some u∧jh k (l.drop (j+1)) u=some t:=by
 obtain⟨b,rfl⟩:=List.getElem?_eq_some_iff.1 d
 rw[←List.getElem_cons_drop (h:=b)]at h
 unfold jh at h
 by_cases a:((l[j]).s.evs.length:Int)=(l[j]).s.c.q-(l[j]).s.bq
 ·rw[if_pos a]at h
  cases hu:iK k (l[j]).s.evs s with
  | none=>rw[hu]at h;cases h
  | some u=>rw[hu]at h;exact⟨a,u,rfl,h⟩
 ·rw[if_neg a]at h;cases h
set_option maxHeartbeats 1500000 in
theorem pG (ps:List Prt) (s t:St) (A:Option Addr) (n R:Nat) (C:Option Addr) (k Y:Nat) (X:List Nat) (w:World) (hX:XOk X w) (H:Sl dP w X A n R ps) (S:Sl aI w X C k Y s.cs) (ao:bD s) (h:jh s.q ps s=some t) (h0:∀ p,ps[0]?=some p→p.s.bq≤s.q) (hl:∀ p,ps.getLast?=some p→p.s.c.a=t.a) (hn:n≤64):
 Calls Tryz.prog 77 #[.slice A n R,.agg #[.slice C k Y,.int .i64 s.q,.int .i64 s.a]] w fun e w' => ∃ g k' d,e = .returned (.tuple #[.agg #[.slice g k' d,.int .i64 t.q,.int .i64 t.a],.bool true])∧Sl aI w' X g k' d t.cs∧Below w.heap.size w w':=by
 have F:=Lib.hid H.len
 cases n with
 | zero=>
   obtain rfl:ps = []:=List.eq_nil_of_length_eq_zero H.len.symm
   simp only[jh,Option.some.injEq]at h
   subst h
   go_enter Tryz.func77,Tryz.ntmps77
   go_upto_region 1 with(fail)
   refine(hstart hX).cw fun W K=>?_
   have K:=K.ksl0 S
   clear H S
   go_wp2_with (first | refine K.ld 1 rfl ?_ | (refine K.lw fun W K=>?_;refine K.sr 0 rfl fun W K=>?_))
   exact K.rc2 0 rfl rfl ⟨C,k,Y,rfl,K.slb 0 rfl,K.below⟩
 | succ m=>
   obtain⟨p0,z⟩:∃ x,ps[0]?=some x:=⟨_,List.getElem?_eq_getElem (by have:=F.out;omega)⟩
   obtain⟨pl,v⟩:∃ x,ps[m]?=some x:=⟨_,List.getElem?_eq_getElem (by have:=F.out;omega)⟩
   have j:ps.getLast?=some pl:=by rw[List.getLast?_eq_getElem?,←F.out];exact v
   have j1:¬ s.q<p0.s.bq:=by have:=h0 p0 z;omega
   have j2:=Lib.hid (hl pl j)
   clear j h0 hl
   have HP:=Lib.hid h
   clear h
   go_enter Tryz.func77,Tryz.ntmps77
   go_upto_region 1 with(fail)
   refine(hstart hX).cw fun W K=>?_
   have K:=(K.ksl0 H).ksl0 S
   clear H S
   have c1:=K.r 1 rfl
   obtain⟨ad,r,rfl,K,⟨E,en,O,An,nn,cn,rfl,-⟩⟩:=K.elem 1 rfl z
   have e0:ad.add (0*dP.size)=ad:=by
    rw[Nat.zero_mul]
    cases ad with
    | mk b o s=>unfold Addr.add;cases s<;>simp
   have hh:=K.at' 0 rfl
   rw[e0]at hh
   have b1:W.cell? ⟨ad.block,ad.off+1,none⟩=some (.int .i64 p0.s.bq):=hh 1 _ rfl
   have K:=K.ft
   clear hh
   go_upto_region 6 with(fail)
   clear c1 b1 z
   go_wp2
   go_loopw [29] (fun i wr => ∃ (a:Nat) (sc:St) (g:Option Addr) (k' d:Nat),a≤m+1∧i = .int .i64 a∧Hid (jh s.q (ps.drop a) sc=some t)∧bD sc∧HH w [] X wr [.box (w.heap.size+1) 37 #[.slice none 0 0,.int .i64 0,.int .i64 0],.box w.heap.size 37 #[.slice g k' d,.int .i64 sc.q,.int .i64 sc.a]] [Sl.fact aI g k' d sc.cs,Sl.fact dP (some ad) (m+1) R ps]) (fun i _=>m+1-(intOf i).toNat)
   case atStart=>exact⟨0,s,C,k,Y,Nat.zero_le _,rfl,HP,ao,K⟩
   case round=>
    obtain⟨a,sc,g,k',d,ha,rfl,HR,ae,K⟩:=hrel
    by_cases ar:a<m+1
    ·obtain⟨x,hx⟩:∃ x,ps[a]?=some x:=⟨_,List.getElem?_eq_getElem (by have:=F.out;omega)⟩
     obtain⟨q1,u,q2,q3⟩:=EF HR.out hx
     obtain⟨ab,r,G,ah,am,⟨E,en,O,An,nn,cn,rfl,f,-⟩,N⟩:=(K.sl 1 rfl).at' hx
     obtain rfl:=Option.some.inj G
     have K:=K.ksl f
     have B:=f.len
     have i5:wrap64 (x.s.c.q-x.s.bq)=(en:Int):=by
      have:=f.max
      have:=f.le
      unfold maxLen at *
      rw[←q1,B]
      unfold wrap64
      omega
     have HU:=Lib.hid q2
     have HV:=Lib.hid q3
     have HN:=Lib.hid B
     have al:=Lib.hid (Nat.le_trans f.le f.max)
     have i1:(0:Int)≤(a:Int):=by omega
     have i2:(a:Int)<(m:Int)+1:=by omega
     clear hx ah am f q1 q2 q3 HR B G
     go_upto_region 9 with(first | (refine bF N ?_) | (refine K.lw fun W K=>?_;refine K.sr 0 rfl fun W K=>?_))
     clear N
     have c0:=K.r 0 rfl
     go_upto_region 12 with(fail)
     clear c0 i5
     go_wp2
     generalize wr.heap.size=gp at K ⊢
     go_loopw [52] (fun i wq => ∃ (b:Nat) (sd:St) (g:Option Addr) (k' d:Nat),b≤en∧i = .int .i64 b∧Hid (iK s.q (x.s.evs.drop b) sd=some u)∧bD sd∧HH w [] X wq [.box gp 132 (ql x E en O An nn cn).toArray,.box (w.heap.size+1) 37 #[.slice none 0 0,.int .i64 0,.int .i64 0],.box w.heap.size 37 #[.slice g k' d,.int .i64 sd.q,.int .i64 sd.a]] [Sl.fact aI g k' d sd.cs,Sl.fact iz E en O x.s.evs,Sl.fact dP (some ad) (m+1) R ps]) (fun i _=>en-(intOf i).toNat)
     case atStart=>exact⟨0,sc,g,k',d,Nat.zero_le _,rfl,HU,ae,((K.up 1 rfl).out.forget (List.Sublist.cons_cons _ (List.Sublist.cons_cons _ (List.Sublist.cons _ (List.Sublist.refl _))))).hh⟩
     case round=>
      obtain⟨b,sd,g,k',d,hb,rfl,Z,l,K⟩:=hrel
      by_cases aw:b<en
      ·obtain⟨y,hy⟩:∃ y,x.s.evs[b]?=some y:=⟨_,List.getElem?_eq_getElem (by have:=HN.out;omega)⟩
       obtain⟨ap,r,rfl,K,M⟩:=K.elem 1 rfl hy
       obtain⟨rfl,ag⟩:=M
       have i3:(0:Int)≤(b:Int):=by omega
       have i4:(b:Int)<(en:Int):=by omega
       have Q:wrap64 ((b:Int)+1)=((b+1:Nat):Int):=by
        have:=al.out
        unfold maxLen at this
        unfold wrap64
        omega
       have HY:=Lib.hid (DJ Z.out hy)
       clear hy Z
       go_upto_region 14 with(first | (refine bF (K.at' 0 rfl) ?_) | (refine K.lw fun W K=>?_;refine K.sr 0 rfl fun W K=>?_))
       have c0:=K.r 0 rfl
       rcases HY.out with⟨h1,L⟩ | ⟨h1,L,h3⟩
       ·have P:=Lib.hid L
        clear L
        go_wp2
        go_roundw
        case rel=>exact⟨b+1,sd,g,k',d,by omega,by rw[Q],P,l,K.tl.ft⟩
        case measure=>
         rw[Q]
         show en-(b+1)<en-b
         omega
       ·have P:=Lib.hid L
        have H3:=Lib.hid h3
        clear L h3
        go_upto_region 16 with(fail)
        clear c0
        go_wp2_with (first | refine K.ld 3 rfl ?_ | refine K.ld 0 rfl ?_)
        refine(gh sd y g k' d _ _ K.xok (K.sl 1 rfl) l ag.2.2.2.1).mono ?_
        unfold gy
        rw[P.out,if_pos rfl]
        rintro e w4 ⟨C2,k2,ac,rfl,I,J⟩
        have K:=(K.on I).ksl J
        clear I J
        go_wp2_with (refine K.sr 3 rfl fun W K=>?_)
        go_roundw
        case rel=>exact⟨b+1,aZ sd y,C2,k2,ac,by omega,by rw[Q],H3,iu l P.out,(K.tl.out.forget (List.Sublist.cons_cons _ (List.Sublist.cons _ (List.Sublist.cons _ (List.Sublist.refl _))))).hh⟩
        case measure=>
         rw[Q]
         show en-(b+1)<en-b
         omega
      ·obtain rfl:b=en:=by omega
       have e1:x.s.evs.drop b = []:=List.drop_eq_nil_of_le (by have:=HN.out;omega)
       have D:sd=u:=by
        have:=Z.out
        rw[e1]at this
        simpa [iK] using this
       subst D
       go_wp2
       go_roundw
       case rel=>exact⟨a+1,sd,g,k',d,by omega,by go_num,HV,l,(K.tl.out.forget (List.Sublist.cons_cons _ (List.Sublist.cons _ (List.Sublist.refl _)))).hh⟩
       case measure=>simp[intOf];omega
    ·obtain rfl:a=m+1:=by omega
     have e1:ps.drop (m+1) = []:=List.drop_eq_nil_of_le (by have:=F.out;omega)
     have D:sc=t:=by
      have:=HR.out
      rw[e1]at this
      simpa [jh] using this
     subst D
     obtain⟨ab,r,G,K,⟨E,en,O,An,nn,cn,rfl,-⟩⟩:=K.elem 1 rfl v
     obtain rfl:=Option.some.inj G
     have i3:(0:Int)≤(m:Int):=by omega
     have i4:(m:Int)<(m:Int)+1:=by omega
     have i5:=IntWalk.i64_in (m:Int) (by omega)
     have J2:(pl.s.c.a == sc.a)=true:=by simpa using j2.out
     clear v G
     go_upto_region 21 with(fail)
     refine K.rgt (fun V h=>h.tl) fun W K=>?_
     refine tL 0 (fun _ h=>h.at_ 0 rfl) K.tl ?_ (hy:=fun w hw=>aM hw)
     refine tK 1 K.tl ?_
     refine tK 2 K.tl ?_
     refine tK 3 K.tl ?_
     refine tK 4 K.tl ?_
     refine tK 5 K.tl ?_
     refine tK 6 K.tl ?_
     refine tK 7 K.tl ?_
     refine tK 8 K.tl ?_
     refine tL 9 (T:=fun W=>W.cell? ⟨(ad.add (m*11)).block,(ad.add (m*11)).off+6,none⟩=some (.int .i64 pl.s.c.a)) (fun _ h=>h.at' 0 rfl 6 _ rfl) K.tl ?_
     refine tK 10 K.tl ?_
     refine tL 11 (fun _ h=>h.r 0 rfl) K.tl ?_
     refine tK 12 K.tl ?_
     refine tSt 13 K 0 rfl (fun U h=>h.tl) fun U K=>?_
     refine tK 14 K.tl ?_
     refine tE ?_
     go_wp2
     exact K.rc2 0 rfl rfl ⟨g,k',d,rfl,K.slb 1 rfl,K.below⟩
end
section
open Go.RowKit
def snB (s:ByteArray):Bool:=decide (5≤s.size)&&((s.extract 0 5).toList == [115,110,97,112,46])
theorem tW (s:ByteArray) (w:World):Calls Tryz.prog 187 #[.string s,.string ⟨#[115,110,97,112,46]⟩] w fun e w'=>e = .returned (.bool (snB s))∧w=w':=by
 unfold snB
 by_cases a:5≤s.size
 ·rw[decide_eq_true a,Bool.true_and]
  generalize d:((s.extract 0 5).toList == [115,110,97,112,46])=b
  have c:(5:Int)≤(s.size:Int):=by omega
  go_enter Tryz.func187,Tryz.ntmps187
  go_wp2
  go_ret
  exact⟨rfl,rfl⟩
 ·rw[decide_eq_false a,Bool.false_and]
  have c:¬ (5:Int)≤(s.size:Int):=by omega
  go_enter Tryz.func187,Tryz.ntmps187
  go_wp2
  go_ret
  exact⟨rfl,rfl⟩
theorem Gm (s:ByteArray) (h:snB s=false) (w:World):Calls Tryz.prog 142 #[.string s] w fun e w'=>e = .returned (.tuple #[.int .i64 0,.bool false])∧w=w':=by
 have b:Calls Tryz.prog 208 #[.string s,.string ⟨#[115,110,97,112,46]⟩] w fun e w'=>e = .returned (.tuple #[.string s,.bool false])∧w=w':=by
  go_enter Tryz.func208,Tryz.ntmps208
  go_wp2_with fail
  have H:Calls Tryz.prog 252 #[.string s,.string ⟨#[115,110,97,112,46]⟩] w fun e w'=>e = .returned (.tuple #[.string s,.bool false])∧w=w':=by
   go_enter Tryz.func252,Tryz.ntmps252
   go_wp2_with fail
   refine(tW s w).mono ?_
   rw[h]
   rintro e a ⟨rfl,rfl⟩
   go_wp2
   go_ret2
   exact⟨rfl,rfl⟩
  refine H.mono ?_
  rintro e a ⟨rfl,rfl⟩
  go_wp2
  go_ret2
  exact⟨rfl,rfl⟩
 go_enter Tryz.func142,Tryz.ntmps142
 go_wp2_with fail
 refine b.mono ?_
 rintro e a ⟨rfl,rfl⟩
 go_wp2
 go_ret2
 exact⟨rfl,rfl⟩
end
section
open Go.RowKit Go.Shelf
theorem CD (s:ByteArray) (c:Nat) (w:World) (a:s.size=1) (b:c≤20):Calls Tryz.prog 55 #[.string s,.int .i64 (c:Int)] w fun e w'=>e = .returned (.string ⟨(Lib.repeatL s.data.toList c).toArray⟩)∧Below w.heap.size w w':=
 Any.strings_Repeat Tryz.lays105 Tryz.extra105 s c w (by omega) (by rw[a];omega)
def cx (n:Nat):ByteArray:=(⟨#[115,110,97,112,46]⟩:ByteArray)++⟨(Lib.repeatL [48] (10-(Lib.itoa (n:Int)).length)).toArray⟩++⟨(Lib.itoa (n:Int)).toArray⟩
theorem wh (n:Nat) (g:n≤99999999) (w:World) (f:aV w):
 Calls Tryz.prog 135 #[.int .i64 (n:Int)] w fun e w'=>e = .returned (.string (cx n))∧Below w.heap.size w w':=by
 have hlen:(⟨(Lib.itoa (n:Int)).toArray⟩:ByteArray).size≤8:=by
  show(Lib.itoa (n:Int)).toArray.size≤8
  rw[List.size_toArray]
  unfold Lib.itoa
  rw[if_neg (by omega),Lib.decDigits_length]
  exact DT _ (by omega)
 have hL:(Lib.itoa (n:Int)).length=(⟨(Lib.itoa (n:Int)).toArray⟩:ByteArray).size:=by
  show _=(Lib.itoa (n:Int)).toArray.size
  rw[List.size_toArray]
 have c:=Lib.hid (qD n g w f)
 have hS:cx n=(⟨#[115,110,97,112,46]⟩:ByteArray)++⟨(Lib.repeatL [48] (10-(⟨(Lib.itoa (n:Int)).toArray⟩:ByteArray).size)).toArray⟩++⟨(Lib.itoa (n:Int)).toArray⟩:=by unfold cx;rw[hL]
 rw[hS]
 clear hS hL
 generalize (⟨(Lib.itoa (n:Int)).toArray⟩:ByteArray)=t at hlen c ⊢
 have o:wrap64 (10-(t.size:Int))=((10-t.size:Nat):Int):=by unfold wrap64;omega
 have hR:(⟨(Lib.repeatL [48] (10-t.size)).toArray⟩:ByteArray).size=10-t.size:=by
  show(Lib.repeatL [48] (10-t.size)).toArray.size=_
  rw[List.size_toArray,Lib.repeatL_length]
  simp
 have b:=fun w=>Lib.hid (CD ⟨#[48]⟩ (10-t.size) w rfl (by omega))
 simp only[show((10-t.size:Nat):Int)=10-(t.size:Int) from by omega]at b
 generalize (⟨(Lib.repeatL [48] (10-t.size)).toArray⟩:ByteArray)=r at hR b ⊢
 have l:¬ (n:Int)<0:=by omega
 have m:¬ (4294967296:Int)<(n:Int):=by omega
 go_enter Tryz.func135,Tryz.ntmps135
 go_wp2_with fail
 refine c.out.mono ?_
 rintro e j ⟨rfl,d⟩
 go_wp2_with fail
 refine(b _).out.mono ?_
 rintro e p ⟨rfl,a⟩
 have i:¬ (9223372036854775807<5+r.size):=by omega
 have k:¬ (9223372036854775807<5+r.size+t.size):=by omega
 go_wp2
 go_ret
 exact⟨rfl,(((hstart (X:=[]) (fun _ h=>by cases h)).on d).on a).below⟩
end
end Go.Proofs.YtpokkciheejeiaaGreatDoor
