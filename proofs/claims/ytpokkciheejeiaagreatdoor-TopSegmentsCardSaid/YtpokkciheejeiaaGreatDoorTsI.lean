/- Lemmas and contracts that the proof of TopSegments uses, part 9 of 14: each is a theorem for every input that its premises allow. -/
import Derived.Lib.Walk
import Derived.Lib.AppendIntMem
import Derived.Shelf.Strconv.Itoa4
import Derived.Shelf.Strings.Repeat
import Derived.Shelf.Lay
import Derived.Test.YtpokkciheejeiaaGreatDoorChecked
import Derived.Lib.ParseIntB
import Derived.Shelf.Strconv.ParseIntPublic10
import Derived.Test.YtpokkciheejeiaaGreatDoorTsH
set_option linter.unusedVariables false
set_option linter.unusedSimpArgs false
set_option maxRecDepth 100000
namespace Go.Proofs.YtpokkciheejeiaaGreatDoor
section
open Go.RowKit
theorem pK {B:Nat} {w:World} {e:TypeId} {size n:Nat} {v:Value} {xs:List Value} (h:w.ownsRow 0 e size v n xs) (f:∀ g,v.ownBlock=some g→B≤g):w.ownsRow B e size v n xs:=by
 rcases h with⟨b,a | ⟨g,cap,cur,a,i,d,c⟩⟩
 ·exact⟨b,.inl a⟩
 ·subst a
  exact⟨b,.inr ⟨g,cap,cur,rfl,f g rfl,d,c⟩⟩
theorem FT {a b c a' b':Itm} {X:List Nat}:∀ t ∈ Exs [a',b',c]++X,t ∈ Exs [b',a']++(Exs [a,b,c]++X):=by
 intro t d
 rcases List.mem_append.1 d with d | d
 ·obtain⟨z,f,e⟩:=bI.1 d
  simp only[List.mem_cons,List.not_mem_nil,or_false]at f
  rcases f with rfl | rfl | rfl
  ·exact List.mem_append_left _ (bI.2 ⟨_,by simp,e⟩)
  ·exact List.mem_append_left _ (bI.2 ⟨_,by simp,e⟩)
  ·exact List.mem_append_right _ (List.mem_append_left _ (bI.2 ⟨z,by simp,e⟩))
 ·exact List.mem_append_right _ (List.mem_append_right _ d)
theorem an.set_again {c W:World} {M b:List Nat} {L:List Itm} {F:List Fact} {i g:Nat} {t:TypeId} {cs:Array Value} (h:an c M b W (L.set i (.box g t cs)) F) (a:i<L.length) (o:Nat) (u:Value):an c M b (W.setCell ⟨g,o,none⟩ u) (L.set i (.box g t (cs.setIfInBounds o u))) F:=by
 have:=h.set_ i (List.getElem?_set_self a) o u
 rwa [List.set_set]at this
theorem an.set10 {l W:World} {M k:List Nat} {L:List Itm} {F:List Fact} (h:an l M k W L F) (i:Nat) {g:Nat} {t:TypeId} {H z y w v s b6 q p n:Value} (A:L[i]?=some (.box g t #[H,z,y,w,v,s,b6,q,p,n])) (a b c e f j m o r u:Value):an l M k ((((((((((W.setCell ⟨g,0,none⟩ a).setCell ⟨g,1,none⟩ b).setCell ⟨g,2,none⟩ c).setCell ⟨g,3,none⟩ e).setCell ⟨g,4,none⟩ f).setCell ⟨g,5,none⟩ j).setCell ⟨g,6,none⟩ m).setCell ⟨g,7,none⟩ o).setCell ⟨g,8,none⟩ r).setCell ⟨g,9,none⟩ u) (L.set i (.box g t #[a,b,c,e,f,j,m,o,r,u])) F:=by
 have d:=(List.getElem?_eq_some_iff.1 A).1
 have D:an l M k (W.setCell ⟨g,0,none⟩ a) (L.set i (.box g t #[a,z,y,w,v,s,b6,q,p,n])) F:=h.set_ i A 0 a
 have I:an l M k ((W.setCell ⟨g,0,none⟩ a).setCell ⟨g,1,none⟩ b) (L.set i (.box g t #[a,b,y,w,v,s,b6,q,p,n])) F:=D.set_again d 1 b
 have C:an l M k (((W.setCell ⟨g,0,none⟩ a).setCell ⟨g,1,none⟩ b).setCell ⟨g,2,none⟩ c) (L.set i (.box g t #[a,b,c,w,v,s,b6,q,p,n])) F:=I.set_again d 2 c
 have G:an l M k ((((W.setCell ⟨g,0,none⟩ a).setCell ⟨g,1,none⟩ b).setCell ⟨g,2,none⟩ c).setCell ⟨g,3,none⟩ e) (L.set i (.box g t #[a,b,c,e,v,s,b6,q,p,n])) F:=C.set_again d 3 e
 have B:an l M k (((((W.setCell ⟨g,0,none⟩ a).setCell ⟨g,1,none⟩ b).setCell ⟨g,2,none⟩ c).setCell ⟨g,3,none⟩ e).setCell ⟨g,4,none⟩ f) (L.set i (.box g t #[a,b,c,e,f,s,b6,q,p,n])) F:=G.set_again d 4 f
 have J:an l M k ((((((W.setCell ⟨g,0,none⟩ a).setCell ⟨g,1,none⟩ b).setCell ⟨g,2,none⟩ c).setCell ⟨g,3,none⟩ e).setCell ⟨g,4,none⟩ f).setCell ⟨g,5,none⟩ j) (L.set i (.box g t #[a,b,c,e,f,j,b6,q,p,n])) F:=B.set_again d 5 j
 have K:an l M k (((((((W.setCell ⟨g,0,none⟩ a).setCell ⟨g,1,none⟩ b).setCell ⟨g,2,none⟩ c).setCell ⟨g,3,none⟩ e).setCell ⟨g,4,none⟩ f).setCell ⟨g,5,none⟩ j).setCell ⟨g,6,none⟩ m) (L.set i (.box g t #[a,b,c,e,f,j,m,q,p,n])) F:=J.set_again d 6 m
 have E:an l M k ((((((((W.setCell ⟨g,0,none⟩ a).setCell ⟨g,1,none⟩ b).setCell ⟨g,2,none⟩ c).setCell ⟨g,3,none⟩ e).setCell ⟨g,4,none⟩ f).setCell ⟨g,5,none⟩ j).setCell ⟨g,6,none⟩ m).setCell ⟨g,7,none⟩ o) (L.set i (.box g t #[a,b,c,e,f,j,m,o,p,n])) F:=K.set_again d 7 o
 have h9:an l M k (((((((((W.setCell ⟨g,0,none⟩ a).setCell ⟨g,1,none⟩ b).setCell ⟨g,2,none⟩ c).setCell ⟨g,3,none⟩ e).setCell ⟨g,4,none⟩ f).setCell ⟨g,5,none⟩ j).setCell ⟨g,6,none⟩ m).setCell ⟨g,7,none⟩ o).setCell ⟨g,8,none⟩ r) (L.set i (.box g t #[a,b,c,e,f,j,m,o,r,n])) F:=E.set_again d 8 r
 have x:an l M k ((((((((((W.setCell ⟨g,0,none⟩ a).setCell ⟨g,1,none⟩ b).setCell ⟨g,2,none⟩ c).setCell ⟨g,3,none⟩ e).setCell ⟨g,4,none⟩ f).setCell ⟨g,5,none⟩ j).setCell ⟨g,6,none⟩ m).setCell ⟨g,7,none⟩ o).setCell ⟨g,8,none⟩ r).setCell ⟨g,9,none⟩ u) (L.set i (.box g t #[a,b,c,e,f,j,m,o,r,u])) F:=h9.set_again d 9 u
 exact x
abbrev zm (s:Scn) (ends:Int) (ve:Value) (An:Option Addr) (nn cn:Nat):Array Value:=#[.int .i64 s.num,.int .i64 s.bq,.int .i64 s.ba,.slice none 0 0,ve,.int .i64 s.c.q,.int .i64 s.c.a,.slice An nn cn,.int .i64 ends,.int .i64 s.size]
def DH (r:Scn×Int) (X:List Nat) (w:World) (e:Ending) (w':World):Prop:=
 Below w.heap.size w w' ∧ ∃ ve An nn cn,e = .returned (.agg (zm r.1 r.2 ve An nn cn))∧w'.ownsRow w.heap.size 44 7 ve r.1.evs.length (aG r.1.evs)∧Sl af w' X An nn cn r.1.c.ns∧nn≤1000∧(∀ b ∈ X,ve.ownBlock≠some b)
set_option maxHeartbeats 2000000 in
theorem En (A:Option Addr) (n c B:Nat) (bs:List UInt8) (X:List Nat) (w:World) (hX:XOk X w) (hr:Reads w B 1 A n (byteCells bs)) (hB:B≤w.heap.size) (hq:n≤c) (hu:c≤9223372036854775807) (hn:n≤10000):
 Calls Tryz.prog 14 #[.slice A n c] w (DH (bH bs cM) X w):=by
 have HR:=Lib.hid hr
 have hs:=Lib.hid hr.lenB
 clear hr
 have HS0:∀ R,bH bs cM=R→Hid (R=bH bs cM):=fun _ h=>h.symm
 generalize hR:bH bs cM=R
 replace HS0:=HS0 _ hR
 clear hR
 have gn:Hid (an w [] X ((w.alloc (.cells #[.int .i64 0,.int .i64 0,.int .i64 0,.slice none 0 0,.slice none 0 0,.int .i64 0,.int .i64 0,.slice none 0 0,.int .i64 0,.int .i64 0] 54)).alloc (.cells #[.int .i64 0,.int .i64 0,.int .i64 0,.slice none 0 0,.slice none 0 0,.int .i64 0,.int .i64 0,.slice none 0 0,.int .i64 0,.int .i64 0,.bool false] 115)) [.box (w.heap.size+1) 115 #[.int .i64 0,.int .i64 0,.int .i64 0,.slice none 0 0,.slice none 0 0,.int .i64 0,.int .i64 0,.slice none 0 0,.int .i64 0,.int .i64 0,.bool false],.box (w.heap.size) 54 #[.int .i64 0,.int .i64 0,.int .i64 0,.slice none 0 0,.slice none 0 0,.int .i64 0,.int .i64 0,.slice none 0 0,.int .i64 0,.int .i64 0]] []):=(((an.start w hX).alloc_at 54 #[.int .i64 0,.int .i64 0,.int .i64 0,.slice none 0 0,.slice none 0 0,.int .i64 0,.int .i64 0,.slice none 0 0,.int .i64 0,.int .i64 0] (w.heap.size) (by simp)).alloc_at 115 #[.int .i64 0,.int .i64 0,.int .i64 0,.slice none 0 0,.slice none 0 0,.int .i64 0,.int .i64 0,.slice none 0 0,.int .i64 0,.int .i64 0,.bool false] (w.heap.size+1) (by simp))
 go_enter Tryz.func14,Tryz.ntmps14
 go_wp2_with fail
 generalize w.heap.size+1=gs at gn ⊢
 generalize w.heap.size=l at gn ⊢
 have hg:Hid (an w [] X ((w.alloc (.cells #[.int .i64 0,.int .i64 0,.int .i64 0,.slice none 0 0,.slice none 0 0,.int .i64 0,.int .i64 0,.slice none 0 0,.int .i64 0,.int .i64 0] 54)).alloc (.cells #[.int .i64 0,.int .i64 0,.int .i64 0,.slice none 0 0,.slice none 0 0,.int .i64 0,.int .i64 0,.slice none 0 0,.int .i64 0,.int .i64 0,.bool false] 115)) [.row 44 7 (.slice none 0 0) (0) ([]),.box (gs) 115 #[.int .i64 0,.int .i64 0,.int .i64 0,.slice none 0 0,.slice none 0 0,.int .i64 0,.int .i64 0,.slice none 0 0,.int .i64 0,.int .i64 0,.bool false],.box (l) 54 #[.int .i64 0,.int .i64 0,.int .i64 0,.slice none 0 0,.slice none 0 0,.int .i64 0,.int .i64 0,.slice none 0 0,.int .i64 0,.int .i64 0]] [Sl.fact af none 0 0 []]):=(gn.out.nil_row 44 7).know (Sl.fact af none 0 0 []) Sl.nil_
 clear gn
 go_loopg [] (n+1) (fun k wr => ∃ (s:Scn) (v:Option Addr) (y:Nat) (C:Option Addr) (nn z:Nat),s.size+(k:Int)=(n:Int)+1∧0≤s.size∧(s.evs.length:Int)≤s.size∧s.size≤(n:Int)∧(s.num≠0→aJ s.c=true)∧nn≤1000∧Hid (R=bH bs s)∧Hid (an w [] X wr [.row 44 7 ((.slice v s.evs.length y)) (s.evs.length) (aG s.evs),.box (gs) 115 (aT s (.slice v s.evs.length y) C nn z),.box (l) 54 #[.int .i64 0,.int .i64 0,.int .i64 0,.slice none 0 0,.slice none 0 0,.int .i64 0,.int .i64 0,.slice none 0 0,.int .i64 0,.int .i64 0]] [Sl.fact af C nn z s.c.ns]))
 case atStart=>exact⟨cM,none,0,none,0,0,by simp[cM],by simp[cM],by simp[cM],by simp[cM],fun h=>absurd rfl h,by omega,HS0,Lib.hid hg.out⟩
 case round=>
  clear hg HS0
  obtain⟨s,v,y,C,nn,z,hk,ih,ag,hw,gy,gw,HS,u⟩:=hrel
  have Q:wr.cell? ⟨gs,0,none⟩=some (.int .i64 s.num):=u.out.cell 1 rfl 0
  have J:wr.cell? ⟨gs,1,none⟩=some (.int .i64 s.bq):=u.out.cell 1 rfl 1
  have K:wr.cell? ⟨gs,2,none⟩=some (.int .i64 s.ba):=u.out.cell 1 rfl 2
  have N:wr.cell? ⟨gs,3,none⟩=some (.slice none 0 0):=u.out.cell 1 rfl 3
  have P:wr.cell? ⟨gs,4,none⟩=some (.slice v s.evs.length y):=u.out.cell 1 rfl 4
  have O:wr.cell? ⟨gs,5,none⟩=some (.int .i64 s.c.q):=u.out.cell 1 rfl 5
  have M:wr.cell? ⟨gs,6,none⟩=some (.int .i64 s.c.a):=u.out.cell 1 rfl 6
  have I:wr.cell? ⟨gs,7,none⟩=some (.slice C nn z):=u.out.cell 1 rfl 7
  have G:wr.cell? ⟨gs,8,none⟩=some (.int .i64 0):=u.out.cell 1 rfl 8
  have H:wr.cell? ⟨gs,9,none⟩=some (.int .i64 s.size):=u.out.cell 1 rfl 9
  have E:wr.cell? ⟨gs,10,none⟩=some (.bool s.sealed):=u.out.cell 1 rfl 10
  go_wp2_with fail
  with_reducible refine(Ey A n c s.size bs B wr (HR.out.below (u.out.belowB hB (by simp))) (Nat.le_trans hB u.out.size) hq hu hn).mono ?_
  obtain⟨nx,gt⟩:∃ nx,eB bs s.size=nx:=⟨_,rfl⟩
  rw[gt]
  have L:=Lib.hid gt
  clear gt
  rintro e r ⟨hb,hp⟩
  rcases nx with what | ⟨x,p⟩
  ·skip
   replace hp:e=_:=hp
   subst hp
   have b1:((what:Int) != 0)=true:=by have:=qj _ _ _ L.out;rw[bne_iff_ne];omega
   rw[kI L.out]at HS
   clear L
   clear Q J K N P O M I G H E
   have d:Hid (an w [] X r [.row 44 7 ((.slice v s.evs.length y)) (s.evs.length) (aG s.evs),.box (gs) 115 (aT s (.slice v s.evs.length y) C nn z),.box (l) 54 #[.int .i64 0,.int .i64 0,.int .i64 0,.slice none 0 0,.slice none 0 0,.int .i64 0,.int .i64 0,.slice none 0 0,.int .i64 0,.int .i64 0]] [Sl.fact af C nn z s.c.ns]):=(u.out.on hb)
   clear u
   clear hb
   have em:r.cell? ⟨gs,0,none⟩=some (.int .i64 s.num):=d.out.cell 1 rfl 0
   have fr:r.frozen? ⟨gs,0,none⟩=false:=d.out.frozen 1 rfl 0
   have ac:r.cell? ⟨gs,1,none⟩=some (.int .i64 s.bq):=d.out.cell 1 rfl 1
   have gb:r.frozen? ⟨gs,1,none⟩=false:=d.out.frozen 1 rfl 1
   have dt:r.cell? ⟨gs,2,none⟩=some (.int .i64 s.ba):=d.out.cell 1 rfl 2
   have ao:r.frozen? ⟨gs,2,none⟩=false:=d.out.frozen 1 rfl 2
   have bl:r.cell? ⟨gs,3,none⟩=some (.slice none 0 0):=d.out.cell 1 rfl 3
   have er:r.frozen? ⟨gs,3,none⟩=false:=d.out.frozen 1 rfl 3
   have dq:r.cell? ⟨gs,4,none⟩=some (.slice v s.evs.length y):=d.out.cell 1 rfl 4
   have am:r.frozen? ⟨gs,4,none⟩=false:=d.out.frozen 1 rfl 4
   have bj:r.cell? ⟨gs,5,none⟩=some (.int .i64 s.c.q):=d.out.cell 1 rfl 5
   have ex:r.frozen? ⟨gs,5,none⟩=false:=d.out.frozen 1 rfl 5
   have du:r.cell? ⟨gs,6,none⟩=some (.int .i64 s.c.a):=d.out.cell 1 rfl 6
   have fn:r.frozen? ⟨gs,6,none⟩=false:=d.out.frozen 1 rfl 6
   have cz:r.cell? ⟨gs,7,none⟩=some (.slice C nn z):=d.out.cell 1 rfl 7
   have ed:r.frozen? ⟨gs,7,none⟩=false:=d.out.frozen 1 rfl 7
   have eg:r.cell? ⟨gs,8,none⟩=some (.int .i64 0):=d.out.cell 1 rfl 8
   have fs:r.frozen? ⟨gs,8,none⟩=false:=d.out.frozen 1 rfl 8
   have ds:r.cell? ⟨gs,9,none⟩=some (.int .i64 s.size):=d.out.cell 1 rfl 9
   have ez:r.frozen? ⟨gs,9,none⟩=false:=d.out.frozen 1 rfl 9
   have V:r.cell? ⟨gs,10,none⟩=some (.bool s.sealed):=d.out.cell 1 rfl 10
   have W:r.frozen? ⟨gs,10,none⟩=false:=d.out.frozen 1 rfl 10
   have eb:r.cell? ⟨l,0,none⟩=some (.int .i64 0):=d.out.cell 2 rfl 0
   have bn:r.frozen? ⟨l,0,none⟩=false:=d.out.frozen 2 rfl 0
   have co:r.cell? ⟨l,1,none⟩=some (.int .i64 0):=d.out.cell 2 rfl 1
   have ft:r.frozen? ⟨l,1,none⟩=false:=d.out.frozen 2 rfl 1
   have et:r.cell? ⟨l,2,none⟩=some (.int .i64 0):=d.out.cell 2 rfl 2
   have dc:r.frozen? ⟨l,2,none⟩=false:=d.out.frozen 2 rfl 2
   have bp:r.cell? ⟨l,3,none⟩=some (.slice none 0 0):=d.out.cell 2 rfl 3
   have ct:r.frozen? ⟨l,3,none⟩=false:=d.out.frozen 2 rfl 3
   have fb:r.cell? ⟨l,4,none⟩=some (.slice none 0 0):=d.out.cell 2 rfl 4
   have dl:r.frozen? ⟨l,4,none⟩=false:=d.out.frozen 2 rfl 4
   have bx:r.cell? ⟨l,5,none⟩=some (.int .i64 0):=d.out.cell 2 rfl 5
   have bh:r.frozen? ⟨l,5,none⟩=false:=d.out.frozen 2 rfl 5
   have de:r.cell? ⟨l,6,none⟩=some (.int .i64 0):=d.out.cell 2 rfl 6
   have dy:r.frozen? ⟨l,6,none⟩=false:=d.out.frozen 2 rfl 6
   have cg:r.cell? ⟨l,7,none⟩=some (.slice none 0 0):=d.out.cell 2 rfl 7
   have ae:r.frozen? ⟨l,7,none⟩=false:=d.out.frozen 2 rfl 7
   have df:r.cell? ⟨l,8,none⟩=some (.int .i64 0):=d.out.cell 2 rfl 8
   have ch:r.frozen? ⟨l,8,none⟩=false:=d.out.frozen 2 rfl 8
   have al:r.cell? ⟨l,9,none⟩=some (.int .i64 0):=d.out.cell 2 rfl 9
   have cb:r.frozen? ⟨l,9,none⟩=false:=d.out.frozen 2 rfl 9
   have gx:¬ (gs=l):=d.out.ne 1 2 (by decide) rfl rfl
   have U:¬ (l=gs):=d.out.ne 2 1 (by decide) rfl rfl
   go_wp2_with (go_at_call 52;refine(Bu ((what:Int)) s.sealed gs _ (by assumption)).mono ?_;rintro e w' ⟨rfl,rfl⟩)
   clear em fr ac gb dt ao bl er dq am bj ex du fn cz ed eg fs ds ez V W eb bn co ft et dc bp ct fb dl bx bh de dy cg ae df ch al cb gx U
   have gl:Hid (an w [] X (r.setCell ⟨gs,8,none⟩ (.int .i64 (dF ((what:Int)) s.sealed))) [.row 44 7 ((.slice v s.evs.length y)) (s.evs.length) (aG s.evs),.box (gs) 115 #[.int .i64 s.num,.int .i64 s.bq,.int .i64 s.ba,.slice none 0 0,.slice v s.evs.length y,.int .i64 s.c.q,.int .i64 s.c.a,.slice C nn z,.int .i64 (dF ((what:Int)) s.sealed),.int .i64 s.size,.bool s.sealed],.box (l) 54 #[.int .i64 0,.int .i64 0,.int .i64 0,.slice none 0 0,.slice none 0 0,.int .i64 0,.int .i64 0,.slice none 0 0,.int .i64 0,.int .i64 0]] [Sl.fact af C nn z s.c.ns]):=d.out.set_ 1 rfl 8 (.int .i64 (dF ((what:Int)) s.sealed))
   clear d
   generalize r.setCell ⟨gs,8,none⟩ (.int .i64 (dF ((what:Int)) s.sealed))=w8 at gl ⊢
   have D:Hid (an w [] X ((((((((((w8.setCell ⟨l,0,none⟩ (.int .i64 s.num)).setCell ⟨l,1,none⟩ (.int .i64 s.bq)).setCell ⟨l,2,none⟩ (.int .i64 s.ba)).setCell ⟨l,3,none⟩ (.slice none 0 0)).setCell ⟨l,4,none⟩ (.slice v s.evs.length y)).setCell ⟨l,5,none⟩ (.int .i64 s.c.q)).setCell ⟨l,6,none⟩ (.int .i64 s.c.a)).setCell ⟨l,7,none⟩ (.slice C nn z)).setCell ⟨l,8,none⟩ (.int .i64 (dF ((what:Int)) s.sealed))).setCell ⟨l,9,none⟩ (.int .i64 s.size)) [.row 44 7 ((.slice v s.evs.length y)) (s.evs.length) (aG s.evs),.box (gs) 115 #[.int .i64 s.num,.int .i64 s.bq,.int .i64 s.ba,.slice none 0 0,.slice v s.evs.length y,.int .i64 s.c.q,.int .i64 s.c.a,.slice C nn z,.int .i64 (dF ((what:Int)) s.sealed),.int .i64 s.size,.bool s.sealed],.box (l) 54 #[.int .i64 s.num,.int .i64 s.bq,.int .i64 s.ba,.slice none 0 0,.slice v s.evs.length y,.int .i64 s.c.q,.int .i64 s.c.a,.slice C nn z,.int .i64 (dF ((what:Int)) s.sealed),.int .i64 s.size]] [Sl.fact af C nn z s.c.ns]):=(gl.out.set10 2 rfl (.int .i64 s.num) (.int .i64 s.bq) (.int .i64 s.ba) (.slice none 0 0) (.slice v s.evs.length y) (.int .i64 s.c.q) (.int .i64 s.c.a) (.slice C nn z) (.int .i64 (dF ((what:Int)) s.sealed)) (.int .i64 s.size))
   clear gl
   generalize (((((((((w8.setCell ⟨l,0,none⟩ (.int .i64 s.num)).setCell ⟨l,1,none⟩ (.int .i64 s.bq)).setCell ⟨l,2,none⟩ (.int .i64 s.ba)).setCell ⟨l,3,none⟩ (.slice none 0 0)).setCell ⟨l,4,none⟩ (.slice v s.evs.length y)).setCell ⟨l,5,none⟩ (.int .i64 s.c.q)).setCell ⟨l,6,none⟩ (.int .i64 s.c.a)).setCell ⟨l,7,none⟩ (.slice C nn z)).setCell ⟨l,8,none⟩ (.int .i64 (dF ((what:Int)) s.sealed))).setCell ⟨l,9,none⟩ (.int .i64 s.size)=w9 at D ⊢
   rw[HS.out]
   have hres:=wZ (D.out.blk 2 rfl)
   refine bodyPost_ret (hres _ rfl) rfl ?_
   clear hres
   have ag:=(fun g e=>(((D.out.ents _ (List.mem_of_getElem? (i:=0) rfl)).2 g e).1).resolve_right (by simp):∀ g,(Value.slice v s.evs.length y).ownBlock=some g→w.heap.size≤g)
   exact⟨D.out.below,(.slice v s.evs.length y),C,nn,z,rfl,pK (D.out.row 0 rfl) ag,D.out.back' 0 rfl,gw,fun b hb e=>by have h1:=ag b e;have h2:=hX b hb;omega⟩
  obtain⟨A',rfl,hf⟩:=hp
  have HW:=Lib.hid (jQ _ _ _ _ L.out)
  have gz:=Lib.hid hf
  clear hf
  clear Q J K N P O M I G H E
  have d:Hid (an w [] X r [.row 44 7 ((.slice v s.evs.length y)) (s.evs.length) (aG s.evs),.box (gs) 115 (aT s (.slice v s.evs.length y) C nn z),.box (l) 54 #[.int .i64 0,.int .i64 0,.int .i64 0,.slice none 0 0,.slice none 0 0,.int .i64 0,.int .i64 0,.slice none 0 0,.int .i64 0,.int .i64 0]] [Sl.fact af C nn z s.c.ns]):=(u.out.on hb)
  clear u
  clear hb
  obtain⟨id,hv,hx,ib,hl,-⟩:=HW.out
  rw[hs.out]at hv
  clear HW
  obtain⟨tk,ha⟩:∃ t,dx s (x.toNat:Int) p=t:=⟨_,rfl⟩
  have be:=Lib.hid ha
  clear ha
  have he:B≤gs:=Nat.le_trans hB ((((d.out.ents _ (List.mem_of_getElem? (i:=1) rfl)).2 gs rfl).1).resolve_right (by simp))
  have hi:∀ b,(Value.slice v s.evs.length y).ownBlock=some b→B≤b:=fun b e=>Nat.le_trans hB ((((d.out.ents _ (List.mem_of_getElem? (i:=0) rfl)).2 b e).1).resolve_right (by simp))
  have HT:=Lib.hid (EY s (.slice v s.evs.length y) C nn z gs (x.toNat:Int) A' p.length p.length B p _ r d.out.xok' (d.out.give2 (i:=1) (j:=0) (by decide) rfl rfl) (d.out.sl 0 rfl) gw gz.out (Nat.le_trans hB d.out.size) he hi (Nat.le_refl _) (by omega) hl (by omega) gy)
  rw[be.out]at HT
  clear he hi gz
  go_wp2_with fail
  with_reducible refine(HT.out).mono ?_
  clear HT
  rintro e o ⟨ho,⟨h1,rfl,gf,gg⟩ | ⟨s',hh,A2,n2,c2,h1,rfl,gf,gg,hd,hj,ht⟩⟩
  ·skip
   subst h1
   rw[qn L.out be.out]at HS
   clear L be
   have f:Hid (an w [] X o [.row 44 7 ((.slice v s.evs.length y)) (s.evs.length) (aG s.evs),.box (gs) 115 (aT s (.slice v s.evs.length y) C nn z),.box (l) 54 #[.int .i64 0,.int .i64 0,.int .i64 0,.slice none 0 0,.slice none 0 0,.int .i64 0,.int .i64 0,.slice none 0 0,.int .i64 0,.int .i64 0]] [Sl.fact af C nn z s.c.ns]):=d.out.wrote2 (i:=1) (j:=0) (by decide) rfl rfl ho gf gg (fun b e=>.inl e)
   clear d
   clear ho gf gg
   have fd:o.cell? ⟨gs,0,none⟩=some (.int .i64 s.num):=f.out.cell 1 rfl 0
   have ca:o.frozen? ⟨gs,0,none⟩=false:=f.out.frozen 1 rfl 0
   have bo:o.cell? ⟨gs,1,none⟩=some (.int .i64 s.bq):=f.out.cell 1 rfl 1
   have ec:o.frozen? ⟨gs,1,none⟩=false:=f.out.frozen 1 rfl 1
   have dv:o.cell? ⟨gs,2,none⟩=some (.int .i64 s.ba):=f.out.cell 1 rfl 2
   have cl:o.frozen? ⟨gs,2,none⟩=false:=f.out.frozen 1 rfl 2
   have ee:o.cell? ⟨gs,3,none⟩=some (.slice none 0 0):=f.out.cell 1 rfl 3
   have bc:o.frozen? ⟨gs,3,none⟩=false:=f.out.frozen 1 rfl 3
   have cr:o.cell? ⟨gs,4,none⟩=some (.slice v s.evs.length y):=f.out.cell 1 rfl 4
   have cs:o.frozen? ⟨gs,4,none⟩=false:=f.out.frozen 1 rfl 4
   have aw:o.cell? ⟨gs,5,none⟩=some (.int .i64 s.c.q):=f.out.cell 1 rfl 5
   have ea:o.frozen? ⟨gs,5,none⟩=false:=f.out.frozen 1 rfl 5
   have ck:o.cell? ⟨gs,6,none⟩=some (.int .i64 s.c.a):=f.out.cell 1 rfl 6
   have br:o.frozen? ⟨gs,6,none⟩=false:=f.out.frozen 1 rfl 6
   have cp:o.cell? ⟨gs,7,none⟩=some (.slice C nn z):=f.out.cell 1 rfl 7
   have fi:o.frozen? ⟨gs,7,none⟩=false:=f.out.frozen 1 rfl 7
   have dd:o.cell? ⟨gs,8,none⟩=some (.int .i64 0):=f.out.cell 1 rfl 8
   have dk:o.frozen? ⟨gs,8,none⟩=false:=f.out.frozen 1 rfl 8
   have gd:o.cell? ⟨gs,9,none⟩=some (.int .i64 s.size):=f.out.cell 1 rfl 9
   have bm:o.frozen? ⟨gs,9,none⟩=false:=f.out.frozen 1 rfl 9
   have Y:o.cell? ⟨gs,10,none⟩=some (.bool s.sealed):=f.out.cell 1 rfl 10
   have Z:o.frozen? ⟨gs,10,none⟩=false:=f.out.frozen 1 rfl 10
   have eh:o.cell? ⟨l,0,none⟩=some (.int .i64 0):=f.out.cell 2 rfl 0
   have bt:o.frozen? ⟨l,0,none⟩=false:=f.out.frozen 2 rfl 0
   have fg:o.cell? ⟨l,1,none⟩=some (.int .i64 0):=f.out.cell 2 rfl 1
   have ge:o.frozen? ⟨l,1,none⟩=false:=f.out.frozen 2 rfl 1
   have da:o.cell? ⟨l,2,none⟩=some (.int .i64 0):=f.out.cell 2 rfl 2
   have db:o.frozen? ⟨l,2,none⟩=false:=f.out.frozen 2 rfl 2
   have ci:o.cell? ⟨l,3,none⟩=some (.slice none 0 0):=f.out.cell 2 rfl 3
   have es:o.frozen? ⟨l,3,none⟩=false:=f.out.frozen 2 rfl 3
   have bk:o.cell? ⟨l,4,none⟩=some (.slice none 0 0):=f.out.cell 2 rfl 4
   have ab:o.frozen? ⟨l,4,none⟩=false:=f.out.frozen 2 rfl 4
   have cc:o.cell? ⟨l,5,none⟩=some (.int .i64 0):=f.out.cell 2 rfl 5
   have fw:o.frozen? ⟨l,5,none⟩=false:=f.out.frozen 2 rfl 5
   have ey:o.cell? ⟨l,6,none⟩=some (.int .i64 0):=f.out.cell 2 rfl 6
   have bd:o.frozen? ⟨l,6,none⟩=false:=f.out.frozen 2 rfl 6
   have gc:o.cell? ⟨l,7,none⟩=some (.slice none 0 0):=f.out.cell 2 rfl 7
   have cm:o.frozen? ⟨l,7,none⟩=false:=f.out.frozen 2 rfl 7
   have cd:o.cell? ⟨l,8,none⟩=some (.int .i64 0):=f.out.cell 2 rfl 8
   have eq:o.frozen? ⟨l,8,none⟩=false:=f.out.frozen 2 rfl 8
   have fk:o.cell? ⟨l,9,none⟩=some (.int .i64 0):=f.out.cell 2 rfl 9
   have ce:o.frozen? ⟨l,9,none⟩=false:=f.out.frozen 2 rfl 9
   have U:¬ (gs=l):=f.out.ne 1 2 (by decide) rfl rfl
   have gp:¬ (l=gs):=f.out.ne 2 1 (by decide) rfl rfl
   go_wp2_with (go_at_call 52;refine(Bu (0) s.sealed gs _ (by assumption)).mono ?_;rintro e w' ⟨rfl,rfl⟩)
   clear fd ca bo ec dv cl ee bc cr cs aw ea ck br cp fi dd dk gd bm Y Z eh bt fg ge da db ci es bk ab cc fw ey bd gc cm cd eq fk ce U gp
   have D:Hid (an w [] X (o.setCell ⟨gs,8,none⟩ (.int .i64 (dF (0) s.sealed))) [.row 44 7 ((.slice v s.evs.length y)) (s.evs.length) (aG s.evs),.box (gs) 115 #[.int .i64 s.num,.int .i64 s.bq,.int .i64 s.ba,.slice none 0 0,.slice v s.evs.length y,.int .i64 s.c.q,.int .i64 s.c.a,.slice C nn z,.int .i64 (dF (0) s.sealed),.int .i64 s.size,.bool s.sealed],.box (l) 54 #[.int .i64 0,.int .i64 0,.int .i64 0,.slice none 0 0,.slice none 0 0,.int .i64 0,.int .i64 0,.slice none 0 0,.int .i64 0,.int .i64 0]] [Sl.fact af C nn z s.c.ns]):=f.out.set_ 1 rfl 8 (.int .i64 (dF (0) s.sealed))
   clear f
   generalize o.setCell ⟨gs,8,none⟩ (.int .i64 (dF (0) s.sealed))=w8 at D ⊢
   have F:Hid (an w [] X ((((((((((w8.setCell ⟨l,0,none⟩ (.int .i64 s.num)).setCell ⟨l,1,none⟩ (.int .i64 s.bq)).setCell ⟨l,2,none⟩ (.int .i64 s.ba)).setCell ⟨l,3,none⟩ (.slice none 0 0)).setCell ⟨l,4,none⟩ (.slice v s.evs.length y)).setCell ⟨l,5,none⟩ (.int .i64 s.c.q)).setCell ⟨l,6,none⟩ (.int .i64 s.c.a)).setCell ⟨l,7,none⟩ (.slice C nn z)).setCell ⟨l,8,none⟩ (.int .i64 (dF (0) s.sealed))).setCell ⟨l,9,none⟩ (.int .i64 s.size)) [.row 44 7 ((.slice v s.evs.length y)) (s.evs.length) (aG s.evs),.box (gs) 115 #[.int .i64 s.num,.int .i64 s.bq,.int .i64 s.ba,.slice none 0 0,.slice v s.evs.length y,.int .i64 s.c.q,.int .i64 s.c.a,.slice C nn z,.int .i64 (dF (0) s.sealed),.int .i64 s.size,.bool s.sealed],.box (l) 54 #[.int .i64 s.num,.int .i64 s.bq,.int .i64 s.ba,.slice none 0 0,.slice v s.evs.length y,.int .i64 s.c.q,.int .i64 s.c.a,.slice C nn z,.int .i64 (dF (0) s.sealed),.int .i64 s.size]] [Sl.fact af C nn z s.c.ns]):=(D.out.set10 2 rfl (.int .i64 s.num) (.int .i64 s.bq) (.int .i64 s.ba) (.slice none 0 0) (.slice v s.evs.length y) (.int .i64 s.c.q) (.int .i64 s.c.a) (.slice C nn z) (.int .i64 (dF (0) s.sealed)) (.int .i64 s.size))
   clear D
   generalize (((((((((w8.setCell ⟨l,0,none⟩ (.int .i64 s.num)).setCell ⟨l,1,none⟩ (.int .i64 s.bq)).setCell ⟨l,2,none⟩ (.int .i64 s.ba)).setCell ⟨l,3,none⟩ (.slice none 0 0)).setCell ⟨l,4,none⟩ (.slice v s.evs.length y)).setCell ⟨l,5,none⟩ (.int .i64 s.c.q)).setCell ⟨l,6,none⟩ (.int .i64 s.c.a)).setCell ⟨l,7,none⟩ (.slice C nn z)).setCell ⟨l,8,none⟩ (.int .i64 (dF (0) s.sealed))).setCell ⟨l,9,none⟩ (.int .i64 s.size)=w9 at F ⊢
   rw[HS.out]
   have hres:=wZ (F.out.blk 2 rfl)
   refine bodyPost_ret (hres _ rfl) rfl ?_
   clear hres
   have ag:=(fun g e=>(((F.out.ents _ (List.mem_of_getElem? (i:=0) rfl)).2 g e).1).resolve_right (by simp):∀ g,(Value.slice v s.evs.length y).ownBlock=some g→w.heap.size≤g)
   exact⟨F.out.below,(.slice v s.evs.length y),C,nn,z,rfl,pK (F.out.row 0 rfl) ag,F.out.back' 0 rfl,gw,fun b hb e=>by have h1:=ag b e;have h2:=hX b hb;omega⟩
  subst h1
  rw[jL L.out be.out]at HS
  obtain⟨hz,hy,hc⟩:=tQ be.out gy
  clear L be
  have f:Hid (an w [] X o [.row 44 7 (hh) (s'.evs.length) (aG s'.evs),.box (gs) 115 (aT s' hh A2 n2 c2),.box (l) 54 #[.int .i64 0,.int .i64 0,.int .i64 0,.slice none 0 0,.slice none 0 0,.int .i64 0,.int .i64 0,.slice none 0 0,.int .i64 0,.int .i64 0]] [Sl.fact af C nn z s.c.ns]):=d.out.wrote2 (i:=1) (j:=0) (by decide) rfl rfl ho gf gg hd
  clear d
  clear ho gf gg hd
  obtain⟨fp,ap,rfl⟩:=uw (f.out.row 0 rfl)
  have go:Hid (an w [] X o [.row 44 7 ((.slice fp s'.evs.length ap)) (s'.evs.length) (aG s'.evs),.box (gs) 115 (aT s' (.slice fp s'.evs.length ap) A2 n2 c2),.box (l) 54 #[.int .i64 0,.int .i64 0,.int .i64 0,.slice none 0 0,.slice none 0 0,.int .i64 0,.int .i64 0,.slice none 0 0,.int .i64 0,.int .i64 0]] [Sl.fact af A2 n2 c2 s'.c.ns,Sl.fact af C nn z s.c.ns]):=f.out.know (Sl.fact af A2 n2 c2 s'.c.ns) (hj.more (fun b _ hm=>FT b hm))
  clear f
  clear hj
  have m:Hid (an w [] X o [.row 44 7 ((.slice fp s'.evs.length ap)) (s'.evs.length) (aG s'.evs),.box (gs) 115 (aT s' (.slice fp s'.evs.length ap) A2 n2 c2),.box (l) 54 #[.int .i64 0,.int .i64 0,.int .i64 0,.slice none 0 0,.slice none 0 0,.int .i64 0,.int .i64 0,.slice none 0 0,.int .i64 0,.int .i64 0]] [Sl.fact af A2 n2 c2 s'.c.ns]):=(go.out.forget (List.Sublist.cons_cons _ (List.Sublist.cons _ List.Sublist.slnil)))
  clear go
  skip
  have bi:o.cell? ⟨gs,0,none⟩=some (.int .i64 s'.num):=m.out.cell 1 rfl 0
  have dm:o.frozen? ⟨gs,0,none⟩=false:=m.out.frozen 1 rfl 0
  have bv:o.cell? ⟨gs,1,none⟩=some (.int .i64 s'.bq):=m.out.cell 1 rfl 1
  have ev:o.frozen? ⟨gs,1,none⟩=false:=m.out.frozen 1 rfl 1
  have bz:o.cell? ⟨gs,2,none⟩=some (.int .i64 s'.ba):=m.out.cell 1 rfl 2
  have fx:o.frozen? ⟨gs,2,none⟩=false:=m.out.frozen 1 rfl 2
  have ar:o.cell? ⟨gs,3,none⟩=some (.slice none 0 0):=m.out.cell 1 rfl 3
  have dg:o.frozen? ⟨gs,3,none⟩=false:=m.out.frozen 1 rfl 3
  have dp:o.cell? ⟨gs,4,none⟩=some (.slice fp s'.evs.length ap):=m.out.cell 1 rfl 4
  have bb:o.frozen? ⟨gs,4,none⟩=false:=m.out.frozen 1 rfl 4
  have cf:o.cell? ⟨gs,5,none⟩=some (.int .i64 s'.c.q):=m.out.cell 1 rfl 5
  have fv:o.frozen? ⟨gs,5,none⟩=false:=m.out.frozen 1 rfl 5
  have ek:o.cell? ⟨gs,6,none⟩=some (.int .i64 s'.c.a):=m.out.cell 1 rfl 6
  have cw:o.frozen? ⟨gs,6,none⟩=false:=m.out.frozen 1 rfl 6
  have fz:o.cell? ⟨gs,7,none⟩=some (.slice A2 n2 c2):=m.out.cell 1 rfl 7
  have fl:o.frozen? ⟨gs,7,none⟩=false:=m.out.frozen 1 rfl 7
  have el:o.cell? ⟨gs,8,none⟩=some (.int .i64 0):=m.out.cell 1 rfl 8
  have en:o.frozen? ⟨gs,8,none⟩=false:=m.out.frozen 1 rfl 8
  have fa:o.cell? ⟨gs,9,none⟩=some (.int .i64 s'.size):=m.out.cell 1 rfl 9
  have ad:o.frozen? ⟨gs,9,none⟩=false:=m.out.frozen 1 rfl 9
  have T:o.cell? ⟨gs,10,none⟩=some (.bool s'.sealed):=m.out.cell 1 rfl 10
  have S:o.frozen? ⟨gs,10,none⟩=false:=m.out.frozen 1 rfl 10
  go_wp2
  clear bi dm bv ev bz fx ar dg dp bb cf fv ek cw fz fl el en fa ad T S
  go_roundg (gk-(p.length+7))
  case measure=>omega
  case rel=>exact⟨⟨s'.num,s'.bq,s'.ba,s'.evs,s'.c,s.size+((p.length:Int)+7),s'.sealed⟩,fp,ap,A2,n2,c2,by simp only;omega,by simp only;omega,by simp only;omega,by simp only;omega,hc,ht,HS,Lib.hid (m.out.set_ 1 rfl 9 (.int .i64 (s.size+((p.length:Int)+7))))⟩
end
section
open Go.RowKit
structure Prt where
 s:Scn
 st:Int
 al:Nat
abbrev tw (p:Prt) (E:Option Addr) (en ec:Nat) (An:Option Addr) (nn cn:Nat):List Value:=[.int .i64 p.s.num,.int .i64 p.s.bq,.int .i64 p.s.ba,.slice none 0 0,.slice E en ec,.int .i64 p.s.c.q,.int .i64 p.s.c.a,.slice An nn cn,.int .i64 p.st,.int .i64 p.s.size,.int .i64 (p.al:Int)]
def fB:Sh Prt where
 size:=11
 rep w X vs p := ∃ E en ec An nn cn,vs=tw p E en ec An nn cn∧Sl fc w X E en ec p.s.evs∧Sl af w X An nn cn p.s.c.ns∧nn≤1000
 len:=by rintro w X vs a ⟨E,en,ec,An,nn,cn,rfl,_⟩;rfl
 one:=by
  rintro w X vs a ⟨E,en,ec,An,nn,cn,rfl,_⟩ u hu
  simp only[tw,List.mem_cons,List.not_mem_nil,or_false]at hu
  rcases hu with rfl | rfl | rfl | rfl | rfl | rfl | rfl | rfl | rfl | rfl | rfl<;>rfl
 keep:=by rintro w w' X vs a ⟨E,en,ec,An,nn,cn,rfl,h,h2,r⟩ k;exact⟨E,en,ec,An,nn,cn,rfl,h.keep k,h2.keep k,r⟩
 more:=by rintro w X X' vs a ⟨E,en,ec,An,nn,cn,rfl,h,h2,r⟩ k;exact⟨E,en,ec,An,nn,cn,rfl,h.more k,h2.more k,r⟩
structure Sgi where
 num:Int
 fi:Int
 la:Int
 fr:Int
 tt:Int
 sz:Int
 sd:Bool
abbrev cI (g:Sgi):List Value:=[.int .i64 g.num,.int .i64 g.fi,.int .i64 g.la,.int .i64 g.fr,.int .i64 g.tt,.int .i64 g.sz,.bool g.sd]
def bC:Sh Sgi:=jC 7 cI (fun _=>True) (fun _=>rfl) (by
 intro a u hu
 simp only[cI,List.mem_cons,List.not_mem_nil,or_false]at hu
 rcases hu with rfl | rfl | rfl | rfl | rfl | rfl | rfl<;>rfl)
def aC (p:Prt):Sgi:=⟨p.s.num,p.s.bq,p.s.c.q,p.s.ba,p.s.c.a,p.s.size,decide (p.st=4)⟩
theorem nO {α β:Type} {l:List α} {k:Nat} {x:α} (h:l[k]?=some x) (f:α→List β):(l.take (k+1)).flatMap f=(l.take k).flatMap f++f x:=by
 obtain⟨a,rfl⟩:=List.getElem?_eq_some_iff.1 h
 rw[List.take_succ_eq_append_getElem a,List.flatMap_append]
 simp
set_option maxHeartbeats 2000000 in
theorem CE (ps:List Prt) (A:Option Addr) (n g:Nat) (X:List Nat) (w:World) (hX:XOk X w) (d:Sl fB w X A n g ps) (hn:n≤64):
 Calls Tryz.prog 31 #[.slice A n g] w fun e w' => ∃ B c,e = .returned (.slice B n c)∧Sl bC w' X B n c (ps.map aC)∧Below w.heap.size w w':=by
 have o:=Lib.hid d.len
 go_enter Tryz.func31,Tryz.ntmps31
 go_upto_region 3 with(fail)
 refine(hstart hX).cw fun W K=>?_
 have K:=(K.ksl0 d).nrow (e:=67) (size:=7) (n:=0) (v := .slice none 0 0) (xs:=[]) (Below.refl _ _) ⟨rfl,.inl ⟨rfl,rfl⟩⟩
 clear d
 go_loopw [8,3] (fun i v wr => ∃ (k:Nat),k≤n∧i = .int .i64 k∧HH w [] X wr [.row 67 7 v k ((ps.take k).flatMap (fun p=>cI (aC p)))] [Sl.fact fB A n g ps]) (fun i _ _=>n-(intOf i).toNat)
 case atStart=>exact⟨0,Nat.zero_le _,rfl,K⟩
 case round=>
  obtain⟨k,C,rfl,K⟩:=hrel
  by_cases u:k<n
  ·obtain⟨x,f⟩:∃ x,ps[k]?=some x:=⟨_,List.getElem?_eq_getElem (by have:=o.out;omega)⟩
   obtain⟨ad,r,rfl,l,j,⟨E,I,G,J,nn,H,rfl,h,b,q⟩,a⟩:=(K.sl 0 rfl).at' f
   have z:=Lib.hid f
   have D:(0:Int)≤(k:Int):=by omega
   have F:(k:Int)<(n:Int):=by omega
   clear f l j h b
   go_upto_region 5 with(first | (refine bu a ?_) | (refine K.lw fun W K=>?_;refine K.sr 0 rfl fun W K=>?_))
   clear a
   have c0:=K.r 0 rfl
   have y:(x.st == 4)=decide (x.st=4):=by rw[Bool.eq_iff_iff];simp
   go_wp2_with (at_builtin;refine K.lw fun W K=>?_;refine K.ap1 56 1 rfl (by omega) fun v' U K=>?_)
   go_roundw
   case rel=>
    refine⟨k+1,by omega,by go_num,?_⟩
    rw[nO z.out]
    exact K.tl
   case measure=>simp[intOf];omega
  ·obtain rfl:k=n:=by omega
   go_wp2
   go_ret
   have t:ps.take k=ps:=List.take_of_length_le (by have:=o.out;omega)
   rw[t]at K
   obtain⟨B,c,rfl,m⟩:=K.out.done_row (s:=bC) (xs:=ps.map aC) 0 rfl (aM.2 ⟨by rw[List.flatMap_map],fun s d=>trivial⟩) (by decide) (by simp)
   exact⟨B,c,rfl,(m.hh).slb 0 rfl,m.below⟩
end
section
open Go.RowKit
set_option maxHeartbeats 1000000 in
theorem CC (l:List Sgi) (A:Option Addr) (n g:Nat) (m:Option Addr) (n2 a:Nat) (X:List Nat) (w:World) (hX:XOk X w) (c:Sl bC w X A n g l) (b:Sl bC w X m n2 a l) (hn:n≤1000):
 Calls Tryz.prog 136 #[.slice A n g,.slice m n2 a] w fun e w'=>e = .returned (.bool true)∧Below w.heap.size w w':=by
 obtain rfl:n2=n:=by rw[c.len,b.len]
 have s:=Lib.hid c.len
 have q:=Lib.hid c
 have j:=Lib.hid b
 clear c b
 go_enter Tryz.func136,Tryz.ntmps136
 go_wp2
 go_loopw [13] (fun i wr => ∃ (k:Nat),k≤n2∧i = .int .i64 k∧HH w [] X wr [] [Sl.fact bC A n2 g l,Sl.fact bC m n2 a l]) (fun i _=>n2-(intOf i).toNat)
 case atStart=>exact⟨0,Nat.zero_le _,rfl,((hstart hX).ksl0 j.out).ksl0 q.out⟩
 case round=>
  obtain⟨k,y,rfl,K⟩:=hrel
  by_cases t:k<n2
  ·obtain⟨x,d⟩:∃ x,l[k]?=some x:=⟨_,List.getElem?_eq_getElem (by have:=s.out;omega)⟩
   obtain⟨ad,r,rfl,K,⟨rfl,o⟩⟩:=K.elem 0 rfl d
   obtain⟨u,C,rfl,K,⟨rfl,p⟩⟩:=K.elem 2 rfl d
   have z:(0:Int)≤(k:Int):=by omega
   have B:(k:Int)<(n2:Int):=by omega
   clear d o p
   go_upto_region 6 with(fail)
   refine K.rg fun W K=>?_
   refine tK 0 K ?_
   refine tK 1 K ?_
   refine tK 2 K ?_
   refine tL 3 (fun _ h=>h.at' 1 rfl) K ?_ (hy:=fun w f=>aD f)
   refine tK 4 K ?_
   refine tK 5 K ?_
   refine tK 6 K ?_
   refine tL 7 (fun _ h=>h.at' 0 rfl) K ?_ (hy:=fun w f=>aD f)
   refine tK 8 K ?_ (v := .bool false) (hy:=by(intro W _;show(execOp _ _).run _ _=_;simp only[cI];go_simp;try with_reducible rfl))
   refine tE ?_
   go_wp2
   go_roundw
   case rel=>exact⟨k+1,by omega,by go_num,K.ft.ft⟩
   case measure=>simp[intOf];omega
  ·obtain rfl:k=n2:=by omega
   go_wp2
   go_ret
   exact⟨rfl,K.below⟩
def ah (ps:List Prt):Cx:=match ps.getLast? with
 | some p=>if p.st=4 then⟨0,0,[]⟩ else p.s.c
 | none=>⟨0,0,[]⟩
set_option maxHeartbeats 1000000 in
theorem wB (ps:List Prt) (A:Option Addr) (n t:Nat) (X:List Nat) (w:World) (hX:XOk X w) (h:Sl fB w X A n t ps) (hn:n≤64):
 Calls Tryz.prog 32 #[.slice A n t] w fun e w' => ∃ B m c,e = .returned (.agg #[.int .i64 (ah ps).q,.int .i64 (ah ps).a,.slice B m c])∧Sl af w' X B m c (ah ps).ns∧m≤1000∧Below w.heap.size w w':=by
 cases n with
 | zero=>
   have u:ps = []:=List.eq_nil_of_length_eq_zero h.len.symm
   subst u
   go_enter Tryz.func32,Tryz.ntmps32
   go_upto_region 1 with(fail)
   refine(hstart hX).cw fun W K=>?_
   go_wp2_with (refine K.lw fun W K=>?_;refine K.sr 0 rfl fun W K=>?_)
   exact K.rc1 0 rfl rfl ⟨none,0,0,rfl,Sl.nil_,by omega,K.below⟩
 | succ k=>
   have hL:=Lib.hid h.len
   obtain⟨x,g⟩:∃ x,ps[k]?=some x:=⟨_,List.getElem?_eq_getElem (by have:=hL.out;omega)⟩
   have b:=Lib.hid (show ps.getLast?=some x by rw[List.getLast?_eq_getElem?,←hL.out];exact g)
   have C:(0:Int)≤(k:Int):=by omega
   by_cases f:x.st=4
   ·have j:ah ps=⟨0,0,[]⟩:=by unfold ah;rw[b.out];simp only;rw[if_pos f]
    rw[j]
    go_enter Tryz.func32,Tryz.ntmps32
    go_upto_region 1 with(fail)
    refine(hstart hX).cw fun W K=>?_
    have K:=K.ksl0 h
    obtain⟨ad,r,rfl,K,⟨E,y,v,l,nn,i,rfl,-⟩⟩:=K.elem 0 rfl g
    have p:W.cell? ⟨(ad.add (k*11)).block,(ad.add (k*11)).off+8,none⟩=some (.int .i64 x.st):=K.at' 0 rfl 8 _ rfl
    rw[f]at p
    go_upto_region 3 with(fail)
    go_wp2_with (refine K.lw fun W K=>?_;refine K.sr 0 rfl fun W K=>?_)
    exact K.rc1 0 rfl rfl ⟨none,0,0,rfl,Sl.nil_,by omega,K.below⟩
   ·have j:ah ps=x.s.c:=by unfold ah;rw[b.out];simp only;rw[if_neg f]
    rw[j]
    have z:(x.st == 4)=false:=by simpa using f
    go_enter Tryz.func32,Tryz.ntmps32
    go_upto_region 1 with(fail)
    refine(hstart hX).cw fun W K=>?_
    have K:=K.ksl0 h
    obtain⟨ad,r,rfl,K,⟨E,y,v,l,nn,i,rfl,-,d,o⟩⟩:=K.elem 0 rfl g
    have K:=K.ksl d
    have p:W.cell? ⟨(ad.add (k*11)).block,(ad.add (k*11)).off+8,none⟩=some (.int .i64 x.st):=K.at' 1 rfl 8 _ rfl
    have G:W.cell? ⟨(ad.add (k*11)).block,(ad.add (k*11)).off+5,none⟩=some (.int .i64 x.s.c.q):=K.at' 1 rfl 5 _ rfl
    have D:W.cell? ⟨(ad.add (k*11)).block,(ad.add (k*11)).off+5+1,none⟩=some (.int .i64 x.s.c.a):=K.at' 1 rfl 6 _ rfl
    have F:W.cell? ⟨(ad.add (k*11)).block,(ad.add (k*11)).off+5+2,none⟩=some (.slice l nn i):=K.at' 1 rfl 7 _ rfl
    clear g d
    go_wp2_with (refine K.lw fun W K=>?_;refine K.sr 0 rfl fun W K=>?_)
    exact K.rc1 0 rfl rfl ⟨l,nn,i,rfl,K.slb 0 rfl,o,K.below⟩
end
section
open Go.RowKit
def uH (p a:Prt):Bool:=(a.st == 4)&&((p.s.num == a.s.num+1)&&((p.s.bq == a.s.c.q)&&(p.s.ba == a.s.c.a)))
theorem zo (p a:Prt) (E:Option Addr) (x o:Nat) (D:Option Addr) (nn u:Nat) (n:Option Addr) (f g:Nat) (h:Option Addr) (c i:Nat) (w:World) (m:0≤a.s.num∧a.s.num≤99999999):
 Calls Tryz.prog 141 #[.agg (tw p E x o D nn u).toArray,.agg (tw a n f g h c i).toArray] w fun e w'=>e = .returned (.bool (uH p a))∧Below w.heap.size w w':=by
 obtain⟨⟨C,y,r,P,q,H,N⟩,A,G⟩:=p
 obtain⟨⟨l,K,M,O,⟨j,k,v⟩,L,Q⟩,b,B⟩:=a
 obtain⟨z,t,F⟩:=q
 simp only at m
 have I:wrap64 (l+1)=l+1:=by unfold wrap64;omega
 unfold uH
 simp only[tw]
 cases h1:(b == 4) with
 | false=>
   go_enter Tryz.func141,Tryz.ntmps141
   go_wp2
   go_ret
   exact⟨by simp,((Below.refl _ _).alloc (Nat.le_refl _) _).alloc ((Below.refl _ _).alloc (Nat.le_refl _) _).size _⟩
 | true=>
   cases h2:(C == l+1) with
   | false=>
     go_enter Tryz.func141,Tryz.ntmps141
     go_wp2
     go_ret
     exact⟨by simp,((Below.refl _ _).alloc (Nat.le_refl _) _).alloc ((Below.refl _ _).alloc (Nat.le_refl _) _).size _⟩
   | true=>
     cases h3:(y == j) with
     | false=>
       go_enter Tryz.func141,Tryz.ntmps141
       go_wp2
       go_ret
       exact⟨by simp,((Below.refl _ _).alloc (Nat.le_refl _) _).alloc ((Below.refl _ _).alloc (Nat.le_refl _) _).size _⟩
     | true=>
       generalize J:(r == k)=d
       go_enter Tryz.func141,Tryz.ntmps141
       go_wp2
       go_ret
       exact⟨by simp,((Below.refl _ _).alloc (Nat.le_refl _) _).alloc ((Below.refl _ _).alloc (Nat.le_refl _) _).size _⟩
end
end Go.Proofs.YtpokkciheejeiaaGreatDoor
section
namespace Go.Proofs
open Go.Shelf
def Tryz.lays173_ren:Go.Shelf.Ren:=⟨fun | 173=>54 | 246=>115 | 283=>181 | 284=>182 | 285=>183 | 286=>184 | 129=>235 | 317=>234 | 318=>236 | 319=>237 | 320=>238 | 337=>264 | 338=>265 | n=>n,fun | 2=>2 | 3=>3 | 9=>9 | 4=>4 | 171=>262 | 0=>0 | 53=>253 | 37=>50 | 5=>5 | 173=>265 | 212=>307 | 51=>184 | 20=>20 | 213=>308 | 46=>181 | 232=>349 | 233=>350 | n=>n,fun | 17=>0 | 18=>2 | 19=>3 | n=>n⟩
theorem Tryz.lays173:Go.Proofs.LaysM.n173 Tryz.prog Tryz.lays173_ren:={
 mixed:=by kernel_rfl
 f129:=Tryz.func235.trans (congrArg some (by kernel_rfl))
 f173:=Tryz.func54.trans (congrArg some (by kernel_rfl))
 f246:=Tryz.func115.trans (congrArg some (by kernel_rfl))
 f283:=Tryz.func181.trans (congrArg some (by kernel_rfl))
 f284:=Tryz.func182.trans (congrArg some (by kernel_rfl))
 f285:=Tryz.func183.trans (congrArg some (by kernel_rfl))
 f286:=Tryz.func184.trans (congrArg some (by kernel_rfl))
 f317:=Tryz.func234.trans (congrArg some (by kernel_rfl))
 f318:=Tryz.func236.trans (congrArg some (by kernel_rfl))
 f319:=Tryz.func237.trans (congrArg some (by kernel_rfl))
 f320:=Tryz.func238.trans (congrArg some (by kernel_rfl))
 f337:=Tryz.func264.trans (congrArg some (by kernel_rfl))
 f338:=Tryz.func265.trans (congrArg some (by kernel_rfl))
 t0:=Tryz.underlying0
 a0:=Tryz.isAgg0
 z0:=Tryz.sizeOf0
 v0:=Tryz.zeroValue0
 t2:=Tryz.underlying2
 a2:=Tryz.isAgg2
 z2:=Tryz.sizeOf2
 v2:=Tryz.zeroValue2
 t3:=Tryz.underlying3
 a3:=Tryz.isAgg3
 z3:=Tryz.sizeOf3
 v3:=Tryz.zeroValue3
 t4:=Tryz.underlying4
 a4:=Tryz.isAgg4
 z4:=Tryz.sizeOf4
 v4:=Tryz.zeroValue4
 t5:=Tryz.underlying5
 a5:=Tryz.isAgg5
 z5:=Tryz.sizeOf5
 v5:=Tryz.zeroValue5
 t9:=Tryz.underlying9
 a9:=Tryz.isAgg9
 z9:=Tryz.sizeOf9
 v9:=Tryz.zeroValue9
 t20:=Tryz.underlying20
 a20:=Tryz.isAgg20
 z20:=Tryz.sizeOf20
 v20:=Tryz.zeroValue20
 t37:=Tryz.underlying50
 a37:=Tryz.isAgg50
 z37:=Tryz.sizeOf50
 v37:=Tryz.zeroValue50
 t46:=Tryz.underlying181
 a46:=Tryz.isAgg181
 z46:=Tryz.sizeOf181
 v46:=Tryz.zeroValue181
 t51:=Tryz.underlying184
 a51:=Tryz.isAgg184
 z51:=Tryz.sizeOf184
 v51:=Tryz.zeroValue184
 t53:=Tryz.underlying253
 a53:=Tryz.isAgg253
 z53:=Tryz.sizeOf253
 v53:=Tryz.zeroValue253
 t171:=Tryz.underlying262
 a171:=Tryz.isAgg262
 z171:=Tryz.sizeOf262
 v171:=Tryz.zeroValue262
 t173:=Tryz.underlying265
 a173:=Tryz.isAgg265
 z173:=Tryz.sizeOf265
 v173:=Tryz.zeroValue265
 t212:=Tryz.underlying307
 a212:=Tryz.isAgg307
 z212:=Tryz.sizeOf307
 v212:=Tryz.zeroValue307
 t213:=Tryz.underlying308
 a213:=Tryz.isAgg308
 z213:=Tryz.sizeOf308
 t232:=Tryz.underlying349
 a232:=Tryz.isAgg349
 z232:=Tryz.sizeOf349
 v232:=Tryz.zeroValue349
 t233:=Tryz.underlying350
 a233:=Tryz.isAgg350
 z233:=Tryz.sizeOf350
 v233:=Tryz.zeroValue350
 g17:=by kernel_rfl
 g18:=by kernel_rfl
 g19:=by kernel_rfl
 i0:=by kernel_rfl
 i2:=by kernel_rfl
 i3:=by kernel_rfl
 i4:=by kernel_rfl
 i5:=by kernel_rfl
 i9:=by kernel_rfl
 i20:=by kernel_rfl
 i37:=by kernel_rfl
 i46:=by kernel_rfl
 i51:=by kernel_rfl
 i53:=by kernel_rfl
 i171:=by kernel_rfl
 i173:=by kernel_rfl
 i212:=by kernel_rfl
 i232:=by kernel_rfl
 i233:=by kernel_rfl
 m17:=by kernel_rfl
 m18:=by kernel_rfl
 m19:=by kernel_rfl }
theorem Tryz.strconv_FormatInt_10 (n:Int) (a : -9223372036854775808≤n) (b:n≤9223372036854775807) (w:World) (htab:Lib.TabIs Tryz.prog w "internal/strconv.uint64pow10" .u64 Lib.pow10Tab):
 Calls Tryz.prog 54 #[.int .i64 n,.int .i64 10] w fun e w'=>e = .returned (.string ⟨(Lib.itoa n).toArray⟩) ∧ ∃ k os,w'=Sort.grow (w.drewN k) os:=Any.strconv_FormatInt_10 Tryz.lays173 n a b w htab
def Tryz.lays105_ren:Go.Shelf.Ren:=⟨fun | 105=>55 | 212=>116 | 99=>117 | 165=>118 | 166=>119 | 170=>120 | 169=>121 | 263=>185 | 264=>186 | 206=>187 | 240=>188 | 241=>189 | 276=>239 | 277=>240 | n=>n,fun | 9=>9 | 3=>3 | 4=>4 | 20=>20 | 0=>0 | 46=>181 | 109=>191 | 5=>5 | 72=>196 | 76=>200 | 51=>184 | 146=>267 | 53=>253 | 148=>269 | 70=>194 | 37=>50 | 75=>199 | 127=>271 | 164=>310 | 80=>203 | n=>n,fun | n=>n⟩
theorem Tryz.lays105:Go.Proofs.Lays.n105 Tryz.prog Tryz.lays105_ren:={
 mixed:=by kernel_rfl
 f99:=Tryz.func117.trans (congrArg some (by kernel_rfl))
 f105:=Tryz.func55.trans (congrArg some (by kernel_rfl))
 f165:=Tryz.func118.trans (congrArg some (by kernel_rfl))
 f166:=Tryz.func119.trans (congrArg some (by kernel_rfl))
 f169:=Tryz.func121.trans (congrArg some (by kernel_rfl))
 f170:=Tryz.func120.trans (congrArg some (by kernel_rfl))
 f206:=Tryz.func187.trans (congrArg some (by kernel_rfl))
 f212:=Tryz.func116.trans (congrArg some (by kernel_rfl))
 f240:=Tryz.func188.trans (congrArg some (by kernel_rfl))
 f241:=Tryz.func189.trans (congrArg some (by kernel_rfl))
 f263:=Tryz.func185.trans (congrArg some (by kernel_rfl))
 f264:=Tryz.func186.trans (congrArg some (by kernel_rfl))
 f276:=Tryz.func239.trans (congrArg some (by kernel_rfl))
 f277:=Tryz.func240.trans (congrArg some (by kernel_rfl))
 t0:=Tryz.underlying0
 a0:=Tryz.isAgg0
 z0:=Tryz.sizeOf0
 v0:=Tryz.zeroValue0
 t3:=Tryz.underlying3
 a3:=Tryz.isAgg3
 z3:=Tryz.sizeOf3
 v3:=Tryz.zeroValue3
 t4:=Tryz.underlying4
 a4:=Tryz.isAgg4
 z4:=Tryz.sizeOf4
 v4:=Tryz.zeroValue4
 t5:=Tryz.underlying5
 a5:=Tryz.isAgg5
 z5:=Tryz.sizeOf5
 v5:=Tryz.zeroValue5
 t9:=Tryz.underlying9
 a9:=Tryz.isAgg9
 z9:=Tryz.sizeOf9
 v9:=Tryz.zeroValue9
 t20:=Tryz.underlying20
 a20:=Tryz.isAgg20
 z20:=Tryz.sizeOf20
 v20:=Tryz.zeroValue20
 t37:=Tryz.underlying50
 a37:=Tryz.isAgg50
 z37:=Tryz.sizeOf50
 v37:=Tryz.zeroValue50
 t46:=Tryz.underlying181
 a46:=Tryz.isAgg181
 z46:=Tryz.sizeOf181
 v46:=Tryz.zeroValue181
 t51:=Tryz.underlying184
 a51:=Tryz.isAgg184
 z51:=Tryz.sizeOf184
 v51:=Tryz.zeroValue184
 t53:=Tryz.underlying253
 a53:=Tryz.isAgg253
 z53:=Tryz.sizeOf253
 v53:=Tryz.zeroValue253
 t70:=Tryz.underlying194
 a70:=Tryz.isAgg194
 z70:=Tryz.sizeOf194
 v70:=Tryz.zeroValue194
 t72:=Tryz.underlying196
 a72:=Tryz.isAgg196
 z72:=Tryz.sizeOf196
 v72:=Tryz.zeroValue196
 t75:=Tryz.underlying199
 a75:=Tryz.isAgg199
 z75:=Tryz.sizeOf199
 v75:=Tryz.zeroValue199
 t76:=Tryz.underlying200
 a76:=Tryz.isAgg200
 z76:=Tryz.sizeOf200
 v76:=Tryz.zeroValue200
 t109:=Tryz.underlying191
 a109:=Tryz.isAgg191
 z109:=Tryz.sizeOf191
 v109:=Tryz.zeroValue191
 t127:=Tryz.underlying271
 a127:=Tryz.isAgg271
 z127:=Tryz.sizeOf271
 v127:=Tryz.zeroValue271
 t146:=Tryz.underlying267
 a146:=Tryz.isAgg267
 z146:=Tryz.sizeOf267
 v146:=Tryz.zeroValue267
 t148:=Tryz.underlying269
 a148:=Tryz.isAgg269
 z148:=Tryz.sizeOf269
 v148:=Tryz.zeroValue269
 t164:=Tryz.underlying310
 a164:=Tryz.isAgg310
 z164:=Tryz.sizeOf310
 v164:=Tryz.zeroValue310 }
theorem Tryz.extra105:Builder.Extra Tryz.prog Tryz.lays105_ren where
 sizeBuilder:=by kernel_rfl
 liesBuilder:=by kernel_rfl
 t5:=Tryz.lays105.t5
 a5:=Tryz.lays105.a5
 z5:=Tryz.lays105.z5
 v5:=Tryz.lays105.v5
 infoByte:=by kernel_rfl
 cellsByte:=by kernel_rfl
 sizeByte:=by kernel_rfl
 neB5:=by decide
end Go.Proofs
namespace Go.Proofs.YtpokkciheejeiaaGreatDoor
open Go.RowKit Go.Shelf
def aX (w:World):Prop:=Lib.TabIs Tryz.prog w "internal/strconv.uint64pow10" .u64 Lib.pow10Tab
theorem aX.on {w w':World} (h:aX w) (a:Below w.heap.size w w'):aX w':=Lib.tabBelow_of_tabIs h w' a
theorem qh (n:Nat) (hn:n≤99999999) (w:World) (h:aX w):Calls Tryz.prog 54 #[.int .i64 (n:Int),.int .i64 10] w fun e w'=>e = .returned (.string ⟨(Lib.itoa n).toArray⟩)∧Below w.heap.size w w':=by
 refine(Tryz.strconv_FormatInt_10 n (by omega) (by omega) w h).mono ?_
 rintro e w' ⟨rfl,k,os,rfl⟩
 exact⟨rfl,Lib.below_grow _ w (Nat.le_refl _) k os⟩
theorem AY (s:ByteArray) (c:Nat) (w:World) (a:s.size=1) (b:c≤8):Calls Tryz.prog 55 #[.string s,.int .i64 (c:Int)] w fun e w'=>e = .returned (.string ⟨(Lib.repeatL s.data.toList c).toArray⟩)∧Below w.heap.size w w':=
 Any.strings_Repeat Tryz.lays105 Tryz.extra105 s c w (by omega) (by rw[a];omega)
end Go.Proofs.YtpokkciheejeiaaGreatDoor
end
namespace Go.Proofs.YtpokkciheejeiaaGreatDoor
section
open Go.RowKit
def aA (n:Nat):ByteArray:=(⟨#[115,101,103,46]⟩:ByteArray)++⟨(Lib.repeatL [48] (8-(Lib.itoa (n:Int)).length)).toArray⟩++⟨(Lib.itoa (n:Int)).toArray⟩
theorem Da (u:Nat) (h:u≤99999999):Lib.nDigits u≤8:=by
 repeat
  rw[Lib.nDigits]
  split
  ·omega
  try simp only[Nat.reduceLeDiff]
 all_goals omega
theorem iE (n:Nat) (j:1≤n) (i:n≤99999999) (w:World) (g:aX w):
 Calls Tryz.prog 15 #[.int .i64 (n:Int)] w fun e w'=>e = .returned (.string (aA n))∧Below w.heap.size w w':=by
 have b:eZ (n:Int)=true:=by unfold eZ;simp;omega
 have hlen:(⟨(Lib.itoa (n:Int)).toArray⟩:ByteArray).size≤8:=by
  show(Lib.itoa (n:Int)).toArray.size≤8
  rw[List.size_toArray]
  unfold Lib.itoa
  rw[if_neg (by omega),Lib.decDigits_length]
  exact Da _ (by omega)
 have hL:(Lib.itoa (n:Int)).length=(⟨(Lib.itoa (n:Int)).toArray⟩:ByteArray).size:=by
  show _=(Lib.itoa (n:Int)).toArray.size
  rw[List.size_toArray]
 have d:=Lib.hid (qh n i w g)
 have hS:aA n=(⟨#[115,101,103,46]⟩:ByteArray)++⟨(Lib.repeatL [48] (8-(⟨(Lib.itoa (n:Int)).toArray⟩:ByteArray).size)).toArray⟩++⟨(Lib.itoa (n:Int)).toArray⟩:=by unfold aA;rw[hL]
 rw[hS]
 clear hS hL
 generalize (⟨(Lib.itoa (n:Int)).toArray⟩:ByteArray)=t at hlen d ⊢
 have k:wrap64 (8-(t.size:Int))=((8-t.size:Nat):Int):=by unfold wrap64;omega
 have hR:(⟨(Lib.repeatL [48] (8-t.size)).toArray⟩:ByteArray).size=8-t.size:=by
  show(Lib.repeatL [48] (8-t.size)).toArray.size=_
  rw[List.size_toArray,Lib.repeatL_length]
  simp
 have a:=fun w=>Lib.hid (AY ⟨#[48]⟩ (8-t.size) w rfl (by omega))
 simp only[show((8-t.size:Nat):Int)=8-(t.size:Int) from by omega]at a
 generalize (⟨(Lib.repeatL [48] (8-t.size)).toArray⟩:ByteArray)=r at hR a ⊢
 go_enter Tryz.func15,Tryz.ntmps15
 go_wp2_with fail
 refine(lI (n:Int) _).mono ?_
 rw[b]
 rintro e o ⟨rfl,rfl⟩
 go_wp2_with fail
 refine d.out.mono ?_
 rintro e l ⟨rfl,f⟩
 go_wp2_with fail
 refine(a _).out.mono ?_
 rintro e q ⟨rfl,c⟩
 have m:¬ (9223372036854775807<4+r.size):=by omega
 have p:¬ (9223372036854775807<4+r.size+t.size):=by omega
 go_wp2
 go_ret
 exact⟨rfl,(((hstart (X:=[]) (fun _ h=>by cases h)).on f).on c).below⟩
end
section
def ga (acc:Nat) (l:List UInt8):Nat:=l.foldl (fun a c=>a*10+(c.toNat-48)) acc
theorem wC:∀ (l:List UInt8) (acc:Nat),acc≤ga acc l
 | [],acc=>Nat.le_refl _
 | c::l,acc=>by
   have:=wC l (acc*10+(c.toNat-48))
   show acc≤ga (acc*10+(c.toNat-48)) l
   omega
theorem Ee:∀ (l:List UInt8) (acc:Nat),(∀ c ∈ l,48≤c.toNat∧c.toNat≤57)→ga acc l≤99999999→Lib.parseUintM 18446744073709551615 acc l = .ok (ga acc l)
 | [],acc,_,_=>rfl
 | c::l,acc,h,hv=>by
   have e:=wC l (acc*10+(c.toNat-48))
   have a:ga (acc*10+(c.toNat-48)) l≤99999999:=hv
   unfold Lib.parseUintM
   rw[if_pos (h c (by simp)),if_neg (by omega),if_neg (by omega)]
   exact Ee l _ (fun d b=>h d (by simp[b])) a
theorem pe:∀ (u:Nat),(∀ c ∈ Lib.decDigits u,48≤c.toNat∧c.toNat≤57)∧ga 0 (Lib.decDigits u)=u:=by
 intro u
 induction u using Nat.strongRecOn with
 | _ u ih=>
   rw[Lib.decDigits]
   split
   ·next h=>
    have b:(UInt8.ofNat (48+u)).toNat=48+u:=by rw[UInt8.toNat_ofNat'];omega
    refine⟨fun c a=>?_,?_⟩
    ·rw[List.mem_singleton]at a;subst a;rw[b];omega
    ·unfold ga
     simp only[List.foldl_cons,List.foldl_nil,b]
     omega
   ·next h=>
    obtain⟨e,d⟩:=ih (u/10) (by omega)
    have b:(UInt8.ofNat (48+u%10)).toNat=48+u%10:=by rw[UInt8.toNat_ofNat'];omega
    refine⟨fun c a=>?_,?_⟩
    ·rcases List.mem_append.1 a with a | a
     ·exact e c a
     ·rw[List.mem_singleton]at a;subst a;rw[b];omega
    ·unfold ga at d ⊢
     rw[List.foldl_append,d]
     simp only[List.foldl_cons,List.foldl_nil,b]
     omega
theorem lF:∀ (c:Nat) (l:List UInt8),ga 0 (Lib.repeatL [48] c++l)=ga 0 l
 | 0,l=>rfl
 | c+1,l=>by
   show ga 0 (48::(Lib.repeatL [48] c++l))=_
   exact lF c l
theorem rC:∀ (c:Nat),∀ d ∈ Lib.repeatL [48] c,d=48
 | 0,d,h=>by cases h
 | c+1,d,h=>by
   rcases List.mem_cons.1 (show d ∈ 48::Lib.repeatL [48] c from h) with h | h
   ·exact h
   ·exact rC c d h
def kQ (n:Nat):List UInt8:=Lib.repeatL [48] (8-(Lib.itoa (n:Int)).length)++Lib.itoa (n:Int)
theorem mE (n:Nat):Lib.itoa (n:Int)=Lib.decDigits n:=by unfold Lib.itoa;rw[if_neg (by omega)];simp
theorem iU {n:Nat} (h:n≤99999999):(kQ n).length=8:=by
 have a:=Da n h
 unfold kQ
 rw[List.length_append,Lib.repeatL_length,mE,Lib.decDigits_length]
 simp
 omega
theorem jI {n:Nat} (h:n≤99999999):(∀ c ∈ kQ n,48≤c.toNat∧c.toNat≤57)∧ga 0 (kQ n)=n:=by
 obtain⟨d,b⟩:=pe n
 unfold kQ
 rw[mE,lF]
 refine⟨fun c a=>?_,b⟩
 rcases List.mem_append.1 a with a | a
 ·rw[rC _ c a];decide
 ·exact d c a
theorem vp {n:Nat} (h:n≤99999999):Lib.parseIntB 64 (kQ n) = .ok (n:Int):=by
 obtain⟨b,a⟩:=jI h
 have e:=iU h
 have d:=Ee (kQ n) 0 b (by rw[a];exact h)
 generalize kQ n=l at *
 cases l with
 | nil=>simp at e
 | cons c r=>
   have f:=b c (by simp)
   unfold Lib.parseIntB
   simp only
   rw[if_neg (by omega)]
   unfold Lib.parseUintB
   rw[if_neg (by simp),show 2^64-1=18446744073709551615 from rfl,d,a]
   simp only
   rw[if_neg (by rintro⟨_,hh⟩;omega),if_neg (by rintro⟨hh,_⟩;omega),if_neg (by omega)]
theorem fJ (n:Nat):(aA n).data.toList = [115,101,103,46]++kQ n:=by
 unfold aA kQ
 simp[ByteArray.data_append]
end
end Go.Proofs.YtpokkciheejeiaaGreatDoor
section
namespace Go.Proofs
open Go.Shelf
def Tryz.lays174_ren:Go.Shelf.Ren:=⟨fun | 174=>209 | 247=>253 | 245=>254 | 287=>271 | 279=>272 | 280=>273 | 281=>274 | 282=>275 | 321=>281 | 322=>282 | 316=>283 | 171=>285 | 205=>284 | 243=>287 | 246=>115 | 283=>181 | 284=>182 | 285=>183 | 286=>184 | 129=>235 | 317=>234 | 318=>236 | 319=>237 | 320=>238 | 337=>264 | 338=>265 | n=>n,fun | 9=>9 | 3=>3 | 2=>2 | 75=>199 | 85=>286 | 4=>4 | 167=>340 | 5=>5 | 53=>253 | 175=>341 | 46=>181 | 168=>343 | 37=>50 | 0=>0 | 210=>355 | 21=>21 | 127=>271 | 145=>360 | 143=>358 | 171=>262 | 173=>265 | 212=>307 | 51=>184 | 20=>20 | 213=>308 | 232=>349 | 233=>350 | 80=>203 | n=>n,fun | 15=>4 | 16=>5 | 17=>0 | 18=>2 | 19=>3 | n=>n⟩
theorem Tryz.lays174:Go.Proofs.LaysC.n174 Tryz.prog Tryz.lays174_ren:={
 mixed:=by kernel_rfl
 f129:=Tryz.func235.trans (congrArg some (by kernel_rfl))
 f171:=Tryz.func285.trans (congrArg some (by kernel_rfl))
 f174:=Tryz.func209.trans (congrArg some (by kernel_rfl))
 f205:=Tryz.func284.trans (congrArg some (by kernel_rfl))
 f243:=Tryz.func287.trans (congrArg some (by kernel_rfl))
 f245:=Tryz.func254.trans (congrArg some (by kernel_rfl))
 f246:=Tryz.func115.trans (congrArg some (by kernel_rfl))
 f247:=Tryz.func253.trans (congrArg some (by kernel_rfl))
 f279:=Tryz.func272.trans (congrArg some (by kernel_rfl))
 f280:=Tryz.func273.trans (congrArg some (by kernel_rfl))
 f281:=Tryz.func274.trans (congrArg some (by kernel_rfl))
 f282:=Tryz.func275.trans (congrArg some (by kernel_rfl))
 f283:=Tryz.func181.trans (congrArg some (by kernel_rfl))
 f284:=Tryz.func182.trans (congrArg some (by kernel_rfl))
 f285:=Tryz.func183.trans (congrArg some (by kernel_rfl))
 f286:=Tryz.func184.trans (congrArg some (by kernel_rfl))
 f287:=Tryz.func271.trans (congrArg some (by kernel_rfl))
 f316:=Tryz.func283.trans (congrArg some (by kernel_rfl))
 f317:=Tryz.func234.trans (congrArg some (by kernel_rfl))
 f318:=Tryz.func236.trans (congrArg some (by kernel_rfl))
 f319:=Tryz.func237.trans (congrArg some (by kernel_rfl))
 f320:=Tryz.func238.trans (congrArg some (by kernel_rfl))
 f321:=Tryz.func281.trans (congrArg some (by kernel_rfl))
 f322:=Tryz.func282.trans (congrArg some (by kernel_rfl))
 f337:=Tryz.func264.trans (congrArg some (by kernel_rfl))
 f338:=Tryz.func265.trans (congrArg some (by kernel_rfl))
 t0:=Tryz.underlying0
 a0:=Tryz.isAgg0
 z0:=Tryz.sizeOf0
 v0:=Tryz.zeroValue0
 t2:=Tryz.underlying2
 a2:=Tryz.isAgg2
 z2:=Tryz.sizeOf2
 v2:=Tryz.zeroValue2
 t3:=Tryz.underlying3
 a3:=Tryz.isAgg3
 z3:=Tryz.sizeOf3
 v3:=Tryz.zeroValue3
 t4:=Tryz.underlying4
 a4:=Tryz.isAgg4
 z4:=Tryz.sizeOf4
 v4:=Tryz.zeroValue4
 t5:=Tryz.underlying5
 a5:=Tryz.isAgg5
 z5:=Tryz.sizeOf5
 v5:=Tryz.zeroValue5
 t9:=Tryz.underlying9
 a9:=Tryz.isAgg9
 z9:=Tryz.sizeOf9
 v9:=Tryz.zeroValue9
 t20:=Tryz.underlying20
 a20:=Tryz.isAgg20
 z20:=Tryz.sizeOf20
 v20:=Tryz.zeroValue20
 t21:=Tryz.underlying21
 a21:=Tryz.isAgg21
 z21:=Tryz.sizeOf21
 v21:=Tryz.zeroValue21
 t37:=Tryz.underlying50
 a37:=Tryz.isAgg50
 z37:=Tryz.sizeOf50
 v37:=Tryz.zeroValue50
 t46:=Tryz.underlying181
 a46:=Tryz.isAgg181
 z46:=Tryz.sizeOf181
 v46:=Tryz.zeroValue181
 t51:=Tryz.underlying184
 a51:=Tryz.isAgg184
 z51:=Tryz.sizeOf184
 v51:=Tryz.zeroValue184
 t53:=Tryz.underlying253
 a53:=Tryz.isAgg253
 z53:=Tryz.sizeOf253
 v53:=Tryz.zeroValue253
 t75:=Tryz.underlying199
 a75:=Tryz.isAgg199
 z75:=Tryz.sizeOf199
 v75:=Tryz.zeroValue199
 t85:=Tryz.underlying286
 a85:=Tryz.isAgg286
 z85:=Tryz.sizeOf286
 v85:=Tryz.zeroValue286
 t127:=Tryz.underlying271
 a127:=Tryz.isAgg271
 z127:=Tryz.sizeOf271
 v127:=Tryz.zeroValue271
 t143:=Tryz.underlying358
 a143:=Tryz.isAgg358
 z143:=Tryz.sizeOf358
 v143:=Tryz.zeroValue358
 t145:=Tryz.underlying360
 a145:=Tryz.isAgg360
 z145:=Tryz.sizeOf360
 v145:=Tryz.zeroValue360
 t167:=Tryz.underlying340
 a167:=Tryz.isAgg340
 z167:=Tryz.sizeOf340
 v167:=Tryz.zeroValue340
 t168:=Tryz.underlying343
 a168:=Tryz.isAgg343
 z168:=Tryz.sizeOf343
 v168:=Tryz.zeroValue343
 t171:=Tryz.underlying262
 a171:=Tryz.isAgg262
 z171:=Tryz.sizeOf262
 v171:=Tryz.zeroValue262
 t173:=Tryz.underlying265
 a173:=Tryz.isAgg265
 z173:=Tryz.sizeOf265
 v173:=Tryz.zeroValue265
 t175:=Tryz.underlying341
 a175:=Tryz.isAgg341
 z175:=Tryz.sizeOf341
 v175:=Tryz.zeroValue341
 t210:=Tryz.underlying355
 a210:=Tryz.isAgg355
 z210:=Tryz.sizeOf355
 v210:=Tryz.zeroValue355
 t212:=Tryz.underlying307
 a212:=Tryz.isAgg307
 z212:=Tryz.sizeOf307
 v212:=Tryz.zeroValue307
 t213:=Tryz.underlying308
 a213:=Tryz.isAgg308
 z213:=Tryz.sizeOf308
 t232:=Tryz.underlying349
 a232:=Tryz.isAgg349
 z232:=Tryz.sizeOf349
 v232:=Tryz.zeroValue349
 t233:=Tryz.underlying350
 a233:=Tryz.isAgg350
 z233:=Tryz.sizeOf350
 v233:=Tryz.zeroValue350
 g15:=by kernel_rfl
 g16:=by kernel_rfl
 g17:=by kernel_rfl
 g18:=by kernel_rfl
 g19:=by kernel_rfl
 t80:=Tryz.underlying203
 a80:=Tryz.isAgg203
 z80:=Tryz.sizeOf203
 v80:=Tryz.zeroValue203
 i0:=by kernel_rfl
 i2:=by kernel_rfl
 i3:=by kernel_rfl
 i4:=by kernel_rfl
 i5:=by kernel_rfl
 i9:=by kernel_rfl
 i20:=by kernel_rfl
 i21:=by kernel_rfl
 i37:=by kernel_rfl
 i46:=by kernel_rfl
 i51:=by kernel_rfl
 i53:=by kernel_rfl
 i75:=by kernel_rfl
 i80:=by kernel_rfl
 i85:=by kernel_rfl
 i127:=by kernel_rfl
 i143:=by kernel_rfl
 i145:=by kernel_rfl
 i167:=by kernel_rfl
 i168:=by kernel_rfl
 i171:=by kernel_rfl
 i173:=by kernel_rfl
 i175:=by kernel_rfl
 i210:=by kernel_rfl
 i212:=by kernel_rfl
 i232:=by kernel_rfl
 i233:=by kernel_rfl
 m15:=by kernel_rfl
 m16:=by kernel_rfl
 m17:=by kernel_rfl
 m18:=by kernel_rfl
 m19:=by kernel_rfl
 c0:=by kernel_rfl
 c2:=by kernel_rfl
 c3:=by kernel_rfl
 c4:=by kernel_rfl
 c5:=by kernel_rfl
 c9:=by kernel_rfl
 c20:=by kernel_rfl
 c21:=by kernel_rfl
 c37:=by kernel_rfl
 c46:=by kernel_rfl
 c51:=by kernel_rfl
 c53:=by kernel_rfl
 c75:=by kernel_rfl
 c80:=by kernel_rfl
 c85:=by kernel_rfl
 c127:=by kernel_rfl
 c143:=by kernel_rfl
 c145:=by kernel_rfl
 c167:=by kernel_rfl
 c168:=by kernel_rfl
 c171:=by kernel_rfl
 c173:=by kernel_rfl
 c175:=by kernel_rfl
 c210:=by kernel_rfl
 c212:=by kernel_rfl
 c213:=by kernel_rfl
 c232:=by kernel_rfl
 c233:=by kernel_rfl }
end Go.Proofs
namespace Go.Proofs.YtpokkciheejeiaaGreatDoor
open Go.RowKit
theorem Bd (s:ByteArray) (n:Nat) (a:s.data.toList=kQ n) (hn:n≤99999999) (w:World):Calls Tryz.prog 209 #[.string s,.int .i64 10,.int .i64 64] w fun e w'=>e = .returned (.tuple #[.int .i64 (n:Int),.nilIface])∧Below w.heap.size w w':=by
 have b:s.size=8:=by show s.data.size=8;rw[←Array.length_toList,a,iU hn]
 refine(Any.strconv_ParseInt_10_at64_ok Tryz.lays174 s (by omega) (n:Int) (by rw[a];exact vp hn) w).mono ?_
 rintro e w' ⟨rfl,rfl | ⟨t,rfl⟩⟩
 ·exact⟨rfl,Below.refl _ _⟩
 ·exact⟨rfl,Lib.below_freeze (((Below.refl _ w).drew).alloc (Nat.le_refl _) _) (p:=⟨w.heap.size,_,none⟩) (Nat.le_refl _) _⟩
theorem EH (s:ByteArray) (b:Bool) (a:4≤s.size) (c:((s.extract 0 4).toList == [115,101,103,46])=b) (w:World):Calls Tryz.prog 187 #[.string s,.string ⟨#[115,101,103,46]⟩] w fun e w'=>e = .returned (.bool b)∧w=w':=by
 have d:(4:Int)≤(s.size:Int):=by omega
 go_enter Tryz.func187,Tryz.ntmps187
 go_wp2
 go_ret
 exact⟨by simp,rfl⟩
theorem vQ (s:ByteArray) (a:s.size<4) (w:World):Calls Tryz.prog 187 #[.string s,.string ⟨#[115,101,103,46]⟩] w fun e w'=>e = .returned (.bool false)∧w=w':=by
 have b:¬ (4:Int)≤(s.size:Int):=by omega
 go_enter Tryz.func187,Tryz.ntmps187
 go_wp2
 go_ret
 exact⟨by simp,rfl⟩
def preB (s:ByteArray):Bool:=decide (4≤s.size)&&((s.extract 0 4).toList == [115,101,103,46])
theorem sH (s:ByteArray) (w:World):Calls Tryz.prog 187 #[.string s,.string ⟨#[115,101,103,46]⟩] w fun e w'=>e = .returned (.bool (preB s))∧w=w':=by
 unfold preB
 by_cases h:4≤s.size
 ·rw[decide_eq_true h,Bool.true_and]
  exact EH s _ h rfl w
 ·rw[decide_eq_false h,Bool.false_and]
  exact vQ s (by omega) w
theorem Ed (s:ByteArray) (h:preB s=false) (w:World):Calls Tryz.prog 208 #[.string s,.string ⟨#[115,101,103,46]⟩] w fun e w'=>e = .returned (.tuple #[.string s,.bool false])∧w=w':=by
 go_enter Tryz.func208,Tryz.ntmps208
 go_wp2_with fail
 have H:Calls Tryz.prog 252 #[.string s,.string ⟨#[115,101,103,46]⟩] w fun e w'=>e = .returned (.tuple #[.string s,.bool false])∧w=w':=by
  go_enter Tryz.func252,Tryz.ntmps252
  go_wp2_with fail
  refine(sH s w).mono ?_
  rw[h]
  rintro e a ⟨rfl,rfl⟩
  go_wp2
  go_ret2
  exact⟨rfl,rfl⟩
 refine H.mono ?_
 rintro e a ⟨rfl,rfl⟩
 go_wp2
 go_ret2
 exact⟨rfl,rfl⟩
theorem AJ (s d:ByteArray) (h:preB s=true) (b:s.size=12) (c:s.extract 4 12=d) (w:World):Calls Tryz.prog 208 #[.string s,.string ⟨#[115,101,103,46]⟩] w fun e w'=>e = .returned (.tuple #[.string d,.bool true])∧w=w':=by
 go_enter Tryz.func208,Tryz.ntmps208
 go_wp2_with fail
 have H:Calls Tryz.prog 252 #[.string s,.string ⟨#[115,101,103,46]⟩] w fun e w'=>e = .returned (.tuple #[.string d,.bool true])∧w=w':=by
  go_enter Tryz.func252,Tryz.ntmps252
  go_wp2_with fail
  refine(sH s w).mono ?_
  rw[h]
  rintro e a ⟨rfl,rfl⟩
  go_wp2
  go_ret2
  exact⟨rfl,rfl⟩
 refine H.mono ?_
 rintro e a ⟨rfl,rfl⟩
 go_wp2
 go_ret2
 exact⟨rfl,rfl⟩
theorem jb {n:Nat} (h:n≤99999999):(aA n).size=12∧((aA n).extract 0 4).toList = [115,101,103,46]∧((aA n).extract 4 12).data.toList=kQ n:=by
 have a:=fJ n
 have b:=iU h
 refine⟨?_,?_,?_⟩
 ·show(aA n).data.size=12
  rw[←Array.length_toList,a,List.length_append,b]
  rfl
 ·rw[ByteArray.toList_eq,ByteArray.data_extract,Array.toList_extract,a]
  rfl
 ·rw[ByteArray.data_extract,Array.toList_extract,a]
  simp
  exact List.take_of_length_le (by omega)
theorem yF (n:Nat) (k:1≤n) (a:n≤99999999) (w:World) (m:aX w):
 Calls Tryz.prog 140 #[.string (aA n)] w fun e w'=>e = .returned (.int .i64 (n:Int))∧Below w.heap.size w w':=by
 obtain⟨i,l,g⟩:=jb a
 have o:=fun W (hW:aX W)=>Lib.hid (iE n k a W hW)
 generalize aA n=s at *
 have q:(s.extract 4 12).size=8:=by show(s.extract 4 12).data.size=8;rw[←Array.length_toList,g,iU a]
 have hpre:((s.extract 0 4).toList == [115,101,103,46])=true:=by rw[l];rfl
 have j:=fun W=>Lib.hid (Bd (s.extract 4 12) n g a W)
 generalize p:s.extract 4 12=d at *
 have r:¬ (n:Int)<1:=by omega
 have t:(s.toList == s.toList)=true:=by simp
 go_enter Tryz.func140,Tryz.ntmps140
 go_wp2_with fail
 refine(AJ s d (by unfold preB;rw[hpre,i];rfl) i p _).mono ?_
 rintro e v ⟨rfl,rfl⟩
 go_wp2_with fail
 refine(j _).out.mono ?_
 rintro e u ⟨rfl,f⟩
 have b:=m.on f
 go_wp2_with fail
 refine(o _ b).out.mono ?_
 rintro e x ⟨rfl,c⟩
 go_wp2
 go_ret
 exact⟨rfl,(((hstart (X:=[]) (fun _ h=>by cases h)).on f).on c).below⟩
theorem yJ (s:ByteArray) (h:preB s=false) (w:World):Calls Tryz.prog 140 #[.string s] w fun e w'=>e = .returned (.int .i64 0)∧Below w.heap.size w w':=by
 go_enter Tryz.func140,Tryz.ntmps140
 go_wp2_with fail
 refine(Ed s h _).mono ?_
 rintro e a ⟨rfl,rfl⟩
 go_wp2
 go_ret
 exact⟨rfl,Below.refl _ _⟩
end Go.Proofs.YtpokkciheejeiaaGreatDoor
end
namespace Go.Proofs.YtpokkciheejeiaaGreatDoor
section
open Go.RowKit
def eA:Cx→List Evt→List UInt8
 | _,[] => []
 | c,e::l=>av 2 (aN c e)++eA (bR c e) l
def eu:Cx→List Evt→Cx
 | c,[]=>c
 | c,e::l=>eu (bR c e) l
def okL:Cx→List Evt→Prop
 | _,[]=>True
 | c,e::l=>ei c e=0∧okL (bR c e) l
theorem lK:∀ (c:Cx) (l:List Evt) (e:Evt),eA c (l ++ [e])=eA c l++av 2 (aN (eu c l) e)
 | c,[],e=>by simp[eA,eu]
 | c,x::l,e=>by simp[eA,eu,lK (bR c x) l e]
theorem nv:∀ (c:Cx) (l:List Evt) (e:Evt),eu c (l ++ [e])=bR (eu c l) e
 | c,[],e=>rfl
 | c,x::l,e=>nv (bR c x) l e
theorem oO:∀ (c:Cx) (l:List Evt) (e:Evt),okL c (l ++ [e]) ↔ okL c l∧ei (eu c l) e=0
 | c,[],e=>by simp[okL,eu]
 | c,x::l,e=>by simp[okL,eu,oO (bR c x) l e,and_assoc]
theorem kf:∀ (c:Cx) (l:List Evt),aJ c=true→okL c l→aJ (eu c l)=true
 | c,[],h,_=>h
 | c,x::l,h,hk=>kf (bR c x) l (jz hk.1) hk.2
def jq (s:Scn):List UInt8:=
 if s.num=0 then [] else av 1 (aW++aU s.num s.bq s.ba)++eA ⟨s.bq,s.ba,[]⟩ s.evs++(if s.sealed=true then av 3 (aU (s.evs.length:Int) s.c.q s.c.a) else [])
structure sC (s:Scn):Prop where
 none_:s.num=0→s.evs = []∧s.sealed=false
 num:s.num≠0→eZ s.num=true∧aJ ⟨s.bq,s.ba,[]⟩=true∧okL ⟨s.bq,s.ba,[]⟩ s.evs∧s.c=eu ⟨s.bq,s.ba,[]⟩ s.evs
theorem oF (bs:List UInt8) (i x:Int) (v:Nat) (h:cq bs i 0=(x,0,v)):0≤i∧i≤x∧x≤(bs.length:Int)∧ay v=(bs.drop i.toNat).take (x-i).toNat∧v<18446744073709551616:=by
 have a:=kg bs i 0
 obtain⟨-,k,d,b,e⟩:=iq bs i 0 x v h
 rw[h]at a
 unfold cq at h
 rw[if_pos ⟨b,by omega,rfl⟩]at h
 split at h
 ·rename_i c
  simp only[Prod.mk.injEq,true_and]at h
  obtain⟨j,g⟩:=h
  have f:=lD (bQ (bs.drop i.toNat)) (kL _) 0 (cL 0 (bQ (bs.drop i.toNat))).2.1 (cL 0 (bQ (bs.drop i.toNat))).2.2 (by omega) (Prod.ext c (Prod.ext rfl rfl))
  refine⟨b,e,d,?_,a⟩
  apply AI
  rw[pE,qo,←g,f.2.1]
  congr 1
  omega
 ·rename_i c
  simp only[Prod.mk.injEq]at h
  omega
theorem iu {α:Type} (l:List α) (a b:Nat) (h:a≤b):l.take a++(l.drop a).take (b-a)=l.take b:=by
 rw[←List.take_append_drop a (l.take b),List.take_take,Nat.min_eq_left h,List.drop_take]
theorem oP {v:Nat} (a:v<18446744073709551616) (h:0≤wrap64 (v:Int)):wrap64 (v:Int)=(v:Int):=by
 unfold wrap64 at h ⊢
 omega
theorem vR {s s':Scn} {p:List UInt8} (h:gN s p=some s'):∃ num q a,eZ num=true∧aJ ⟨q,a,[]⟩=true∧p=aW++aU num q a∧s'={ s with num:=num,bq:=q,ba:=a,c:=⟨q,a,[]⟩ }:=by
 unfold gN at h
 split at h
 ·rename_i F
  simp only at h
  split at h
  ·cases h
  ·rename_i hn
   injection h with h
   obtain⟨t,y⟩:=List.isPrefixOf_iff_prefix.1 F
   have I:p.drop 4=t:=by rw[←y];rfl
   rw[I]at hn h
   unfold three at hn h
   simp only at hn h
   simp only[not_or,ne_eq,Decidable.not_not]at hn
   obtain⟨b,e,n,d⟩:=hn
   rcases hr1:cq t 0 0 with⟨f,m,k⟩
   rw[hr1]at b e n d h
   simp only at b e n d h
   rcases hr2:cq t f m with⟨g,r,i⟩
   rw[hr2]at b e d h
   simp only at b e d h
   rcases hr3:cq t g r with⟨x,z,j⟩
   rw[hr3]at b e d h
   simp only at b e d h
   subst b
   obtain⟨rfl,-⟩:=iq _ _ _ _ _ hr3
   obtain⟨rfl,-⟩:=iq _ _ _ _ _ hr2
   obtain⟨W,P,U,J,L⟩:=oF _ _ _ _ hr1
   obtain⟨Q,X,O,C,G⟩:=oF _ _ _ _ hr2
   obtain⟨R,S,V,A,K⟩:=oF _ _ _ _ hr3
   have l:eZ (wrap64 (k:Int))=true:=by simpa using n
   have o:aJ ⟨wrap64 (i:Int),wrap64 (j:Int),[]⟩=true:=by simpa using d
   have v:wrap64 (k:Int)=(k:Int):=oP L (by unfold eZ at l;simp only[Bool.and_eq_true,decide_eq_true_eq]at l;omega)
   obtain⟨H,N,E,T⟩:=fe o
   have u:wrap64 (i:Int)=(i:Int):=oP G H
   have w:wrap64 (j:Int)=(j:Int):=oP K E
   rw[v,u,w]at h
   rw[v]at l
   rw[u,w]at o
   refine⟨(k:Int),(i:Int),(j:Int),l,o,?_,h.symm⟩
   rw[←y]
   unfold aU
   simp only[Int.toNat_natCast]
   rw[J,C,A]
   congr 1
   have M:(List.drop (0:Int).toNat t).take (f-0).toNat=t.take f.toNat:=by simp
   have D:(g-f).toNat=g.toNat-f.toNat:=by omega
   have B:(x-g).toNat=x.toNat-g.toNat:=by omega
   rw[M,D,B,iu _ _ _ (by omega),iu _ _ _ (by omega),List.take_of_length_le (by omega)]
 ·cases h
theorem yO:sC cM:=⟨fun _=>⟨rfl,rfl⟩,fun h=>absurd rfl h⟩
theorem vP {s s':Scn} {kind:Int} {p:List UInt8} (h:dx s kind p=some s') (m:sC s):sC s'∧jq s'=jq s++av kind p∧s.sealed=false∧s'.evs.take s.evs.length=s.evs∧s.evs.length≤s'.evs.length∧s'.num≠0:=by
 unfold dx at h
 split at h
 ·cases h
 rename_i b
 have b:s.sealed=false:=by simpa using b
 split at h
 ·rename_i hn
  split at h
  ·rename_i d
   subst d
   obtain⟨num,q,a,i,t,rfl,rfl⟩:=vR h
   obtain⟨g,-⟩:=m.none_ hn
   have c:num≠0:=by unfold eZ at i;simp only[Bool.and_eq_true,decide_eq_true_eq]at i;omega
   refine⟨⟨fun e=>absurd e c,fun _=>⟨i,t,by simp only[g];trivial,by simp only[g];rfl⟩⟩,?_,b,by simp,by simp,c⟩
   unfold jq
   rw[if_pos hn,if_neg c]
   simp only[g,b]
   simp[eA]
  ·cases h
 ·rename_i hn
  obtain⟨n,j,k,f⟩:=m.num hn
  split at h
  ·rename_i d
   subst d
   unfold rE at h
   split at h
   ·rename_i u
    obtain⟨-,-,w,r,v,o⟩:=oK u
    injection h with h
    subst h
    refine⟨⟨fun e=>absurd e hn,fun _=>⟨n,j,?_,?_⟩⟩,?_,b,by simp,by simp,hn⟩
    ·exact(oO _ _ _).2 ⟨k,by rw[←f];exact r⟩
    ·simp only[nv,←f];exact o
    ·unfold jq
     rw[if_neg hn,if_neg hn]
     simp only[b]
     rw[lK,←f,v]
     simp
   ·cases h
  ·split at h
   ·rename_i d
    subst d
    split at h
    ·rename_i l
     rw[beq_iff_eq]at l
     injection h with h
     subst h
     refine⟨⟨fun e=>absurd e hn,fun _=>⟨n,j,k,f⟩⟩,?_,b,by simp,by simp,hn⟩
     unfold jq
     rw[if_neg hn,if_neg hn]
     simp only[b]
     rw[l]
     simp
    ·cases h
   ·cases h
structure iz (bs:List UInt8) (s:Scn):Prop where
 good:sC s
 lo:0≤s.size
 hi:s.size≤(bs.length:Int)
 built:bs.take s.size.toNat=jq s
theorem sB (s:Scn) (k:Int):jq { s with size:=k }=jq s:=rfl
theorem iz.on {bs:List UInt8} {s s':Scn} {x:UInt8} {p:List UInt8} (h:iz bs s) (c:eB bs s.size = .inr (x,p)) (f:dx s (x.toNat:Int) p=some s'):iz bs { s' with size:=s.size+((p.length:Int)+7) }:=by
 obtain⟨k,i,j,l,m,d⟩:=jQ _ _ _ _ c
 obtain⟨a,g,-⟩:=vP f h.good
 have b:=h.lo
 refine⟨⟨fun e=>a.none_ e,fun e=>a.num e⟩,by simp only;omega,by simp only;omega,?_⟩
 rw[sB,g,←h.built,←d]
 simp only
 rw[show p.length+7=(s.size+((p.length:Int)+7)).toNat-s.size.toNat from by omega,iu _ _ _ (by omega)]
theorem um {bs:List UInt8} {P:Scn→Scn×Int→Prop} (hend:∀ s what,iz bs s→eB bs s.size = .inl what→P s (s,dF (what:Int) s.sealed))
 (hnot:∀ s x p,iz bs s→eB bs s.size = .inr (x,p)→dx s (x.toNat:Int) p=none→P s (s,dF 0 s.sealed))
 (a:∀ s s' x p r,iz bs s→eB bs s.size = .inr (x,p)→dx s (x.toNat:Int) p=some s'→P { s' with size:=s.size+((p.length:Int)+7) } r→P s r):
 ∀ (k:Nat) (s:Scn),iz bs s→(bs.length:Int)+1-s.size≤k→P s (bH bs s)
 | 0,s,h,hk=>by have:=h.hi;omega
 | k+1,s,h,hk=>by
   cases hn:eB bs s.size with
   | inl what=>rw[kI hn];exact hend s what h hn
   | inr xp=>
     obtain⟨x,p⟩:=xp
     cases ht:dx s (x.toNat:Int) p with
     | none=>rw[qn hn ht];exact hnot s x p h hn ht
     | some s'=>
       rw[jL hn ht]
       refine a s s' x p _ h hn ht (um hend hnot a k _ (h.on hn ht) ?_)
       simp only
       omega
theorem FK (bs:List UInt8):iz bs cM:=⟨yO,Int.le_refl _,by simp[cM],by simp[cM,jq]⟩
theorem sG (bs:List UInt8):iz bs (bH bs cM).1∧((bH bs cM).2=1∨(bH bs cM).2=4→(bH bs cM).1.size=(bs.length:Int)∧(((bH bs cM).2=4) ↔ (bH bs cM).1.sealed=true)):=by
 refine um (P:=fun s r=>iz bs r.1∧(r.2=1∨r.2=4→r.1.size=(bs.length:Int)∧(r.2=4 ↔ r.1.sealed=true))) ?_ ?_ ?_ (bs.length+1) cM (FK bs) (by simp[cM])
 ·intro s what h hn
  refine⟨h,fun a=>?_⟩
  obtain⟨g,f,d⟩:=qj _ _ _ hn
  simp only at a ⊢
  unfold dF at a ⊢
  by_cases b:(what:Int)=1
  ·rw[if_pos b]at a ⊢
   refine⟨d.1 (by omega),?_⟩
   cases s.sealed<;>simp
  ·rw[if_neg b]at a
   split at a<;>omega
 ·intro s x p h hn e
  refine⟨h,fun a=>?_⟩
  simp only at a
  unfold dF at a
  rw[if_neg (by omega),if_neg (by simp)]at a
  omega
 ·intro s s' x p r h hn e c
  exact c
theorem xe:∀ (c:Cx) (l:List Evt),okL c l → ∀ e ∈ l,bX e=0
 | c,x::l,h,e,a=>by
   rcases List.mem_cons.1 a with rfl | a
   ·exact(kO h.1).2.1
   ·exact xe _ l h.2 e a
theorem sD:∀ (c:Cx) (l:List Evt),okL c l → ∀ (i:Nat) (a b:Evt),l[i]?=some a→l[i+1]?=some b→a.q<b.q∧a.a≤b.a
 | c,[x],h,0,a,b,ha,hb=>by simp at hb
 | c,x::y::l,h,0,a,b,ha,hb=>by
   simp at ha hb
   subst ha hb
   have d:=kO h.2.1
   exact⟨d.2.2.1,d.2.2.2.1⟩
 | c,x::l,h,i+1,a,b,ha,hb=>sD (bR c x) l h.2 i a b (by simpa using ha) (by simpa using hb)
theorem CI {s:Scn} (h:sC s):∃ c,okL c s.evs:=by
 by_cases hn:s.num=0
 ·exact⟨⟨0,0,[]⟩,by rw[(h.none_ hn).1];trivial⟩
 ·exact⟨_,(h.num hn).2.2.1⟩
theorem sM (bs:List UInt8):(∀ e ∈ (bH bs cM).1.evs,bX e=0)∧(∀ (i:Nat) (a b:Evt),(bH bs cM).1.evs[i]?=some a→(bH bs cM).1.evs[i+1]?=some b→a.q<b.q∧a.a≤b.a):=by
 obtain⟨c,d⟩:=CI (sG bs).1.good
 exact⟨xe c _ d,sD c _ d⟩
def fR (num:Int) (c:Cx) (l:List Evt) (sealed:Bool):List UInt8:=av 1 (aW++aU num c.q c.a)++eA c l++(if sealed=true then av 3 (aU (l.length:Int) (eu c l).q (eu c l).a) else [])
end
section
open Go.RowKit
theorem gI {c:Cx} {e:Evt} (h:ei c e=0):(aN c e).length≤104:=by
 obtain⟨d,j,Q,L,K⟩:=kO h
 obtain⟨o,l,hn,m,N,F,M,R⟩:=cK j
 obtain⟨⟨v,T⟩,⟨B,r⟩,⟨H,G⟩,-,-⟩:=dB ⟨o,l⟩ m
 obtain⟨J,P,E,D⟩:=fe d
 have f:e.cm.size≤24:=by unfold dN at hn;simp only[Bool.and_eq_true,decide_eq_true_iff]at hn;exact hn.2
 have i:placeOf c.ns e.cm.data.toList≤32:=by
  have C:=lN c.ns e.cm.data.toList
  have g:dn c.ns=true:=by unfold aJ at d;simp only[Bool.and_eq_true,decide_eq_true_iff]at d;exact d.2
  unfold dn at g
  rw[decide_eq_true_iff]at g
  omega
 have A:=bB e.k.toNat (by omega)
 have S:=bB (e.q-c.q).toNat (by omega)
 have p:=bB (e.a-c.a).toNat (by omega)
 have s:=bB (placeOf c.ns e.cm.data.toList) (by omega)
 have O:(if placeOf c.ns e.cm.data.toList=0 then cx e.cm.data.toList else []).length≤34:=by
  split
  ·exact qd e.cm f
  ·exact Nat.zero_le _
 have u:((jX e).flatMap (fun n=>ay n.toNat)).length≤30:=by
  unfold jX
  have t:=bB e.x.toNat (by omega)
  have w:=bB e.y.toNat (by omega)
  have I:=bB e.z.toNat (by omega)
  have b:=iX e.k
  rcases(by omega:cu e.k=0∨cu e.k=1∨cu e.k=2∨cu e.k=3) with b | b | b | b<;>(rw[b];simp;try omega)
 unfold aN
 simp only[List.length_append]
 omega
def wG (c:Cx) (e0:Evt) (cells:Array Value) (X:List Nat) (w:World) (e:Ending) (w':World):Prop:=
 Below w.heap.size w w'∧((ei c e0≠0∧e = .returned (.tuple #[.slice none 0 0,.agg cells,.int .i64 (ei c e0)])) ∨
  (ei c e0=0 ∧ ∃ A cp A2 n2 c2,e = .returned (.tuple #[.slice A (av 2 (aN c e0)).length cp,.agg #[.int .i64 e0.q,.int .i64 e0.a,.slice A2 n2 c2],.int .i64 0])∧Sl au w' X A (av 2 (aN c e0)).length cp (av 2 (aN c e0))∧Sl af w' X A2 n2 c2 (bR c e0).ns))
theorem wN {W:World} {g:Nat} {x0 x1 x2 u v:Value} (h:Blk W g 34 #[x0,x1,x2]) (tmps:Array Value) (b:tmps[5]?.getD undef = .pointer (some ⟨g,0,none⟩)) (c:tmps[6]?.getD undef=u) (d:tmps[4]?.getD undef=v):(results Tryz.f62 tmps).run Tryz.prog W = .ok (.tuple #[v,.agg #[x0,x1,x2],u]) W:=by
 have c0:W.cell? ⟨g,0,none⟩=some x0:=h.cell 0
 have e:W.cell? ⟨g,1,none⟩=some x1:=h.cell 1
 have a:W.cell? ⟨g,2,none⟩=some x2:=h.cell 2
 simp[results,Tryz.results62,go_sem,b,c,d,c0,e,a]
set_option maxHeartbeats 4000000 in
theorem Ej (q a:Int) (ns:List (List UInt8)) (d:Option Addr) (nn c:Nat) (U:Evt) (X:List Nat) (w:World) (hX:XOk X w) (hs:Sl af w X d nn c ns) (ap:nn≤1000) (ar:U.cm.size≤maxLen):
 Calls Tryz.prog 62 #[.agg #[.int .i64 q,.int .i64 a,.slice d nn c],.agg (evA U)] w (wG ⟨q,a,ns⟩ U #[.int .i64 q,.int .i64 a,.slice d nn c] X w):=by
 have Z:=Lib.hid (@gI ⟨q,a,ns⟩ U)
 have F:=fun(X:List Nat) (W:World) (hX:XOk X W) (hs:Sl af W X d nn c ns)=>Lib.hid (rZ q a ns d nn c U X W hX hs ap ar)
 unfold wG
 unfold oh at F
 generalize ei ⟨q,a,ns⟩ U=er at Z F ⊢
 generalize aN ⟨q,a,ns⟩ U=eb at Z F ⊢
 generalize bR ⟨q,a,ns⟩ U=nx at F ⊢
 obtain⟨eq,ea,r,cm,ex,m,o⟩:=U
 simp only at F ⊢
 have x:Hid (an w [] X (((w.alloc (.cells #[.int .i64 q,.int .i64 a,.slice d nn c] 34)).alloc (.cells #[.int .i64 eq,.int .i64 ea,.int .i64 r,.string cm,.int .i64 ex,.int .i64 m,.int .i64 o] 44)).alloc (.cells #[.int .i64 0,.int .i64 0,.slice none 0 0] 34)) [.box (w.heap.size+2) 34 #[.int .i64 0,.int .i64 0,.slice none 0 0],.box (w.heap.size+1) 44 #[.int .i64 eq,.int .i64 ea,.int .i64 r,.string cm,.int .i64 ex,.int .i64 m,.int .i64 o],.box (w.heap.size) 34 #[.int .i64 q,.int .i64 a,.slice d nn c]] [Sl.fact af d nn c ns]):=(((((an.start w hX).alloc_at 34 #[.int .i64 q,.int .i64 a,.slice d nn c] (w.heap.size) (by simp)).alloc_at 44 #[.int .i64 eq,.int .i64 ea,.int .i64 r,.string cm,.int .i64 ex,.int .i64 m,.int .i64 o] (w.heap.size+1) (by simp)).alloc_at 34 #[.int .i64 0,.int .i64 0,.slice none 0 0] (w.heap.size+2) (by simp)).know0 (Sl.fact af d nn c ns) hs)
 clear hs
 go_enter Tryz.func62,Tryz.ntmps62
 go_wp2_with fail
 with_reducible refine((F _ _ x.out.xok' (x.out.sl 0 rfl)).out).mono ?_
 rintro e H ⟨hb,h1 | h1⟩
 ·skip
  obtain⟨he,rfl⟩:=h1
  have b1:(er != 0)=true:=by rw[bne_iff_ne];exact he
  have al:=Lib.hid he
  clear he
  have P:Hid (an w [] X H [.box (w.heap.size+2) 34 #[.int .i64 0,.int .i64 0,.slice none 0 0],.box (w.heap.size+1) 44 #[.int .i64 eq,.int .i64 ea,.int .i64 r,.string cm,.int .i64 ex,.int .i64 m,.int .i64 o],.box (w.heap.size) 34 #[.int .i64 q,.int .i64 a,.slice d nn c]] [Sl.fact af d nn c ns]):=(x.out.on hb)
  clear x
  clear hb
  have f:Hid (an w [] X (H.alloc (.cells #[.int .i64 q,.int .i64 a,.slice d nn c] 34)) [.box (H.heap.size) 34 #[.int .i64 q,.int .i64 a,.slice d nn c],.box (w.heap.size+2) 34 #[.int .i64 0,.int .i64 0,.slice none 0 0],.box (w.heap.size+1) 44 #[.int .i64 eq,.int .i64 ea,.int .i64 r,.string cm,.int .i64 ex,.int .i64 m,.int .i64 o],.box (w.heap.size) 34 #[.int .i64 q,.int .i64 a,.slice d nn c]] [Sl.fact af d nn c ns]):=P.out.alloc_at 34 #[.int .i64 q,.int .i64 a,.slice d nn c] (H.heap.size) (by simp)
  clear P
  go_upto_region 3 with(fail)
  generalize H.alloc (.cells #[.int .i64 q,.int .i64 a,.slice d nn c] 34)=w2 at f ⊢
  generalize H.heap.size=n at f ⊢
  have Q:w2.cell? ⟨w.heap.size,0,none⟩=some (.int .i64 q):=f.out.cell 3 rfl 0
  have R:w2.cell? ⟨w.heap.size,1,none⟩=some (.int .i64 a):=f.out.cell 3 rfl 1
  have N:w2.cell? ⟨w.heap.size,2,none⟩=some (.slice d nn c):=f.out.cell 3 rfl 2
  go_wp2_with fail
  clear Q R N
  refine wp_region_noPanic ?_
  refine wp_region_held_drew (S:=fun W'=>dU w [] X W' [.box (n) 34 #[.int .i64 q,.int .i64 a,.slice d nn c],.box (w.heap.size+2) 34 #[.int .i64 0,.int .i64 0,.slice none 0 0],.box (w.heap.size+1) 44 #[.int .i64 eq,.int .i64 ea,.int .i64 r,.string cm,.int .i64 ex,.int .i64 m,.int .i64 o],.box (w.heap.size) 34 #[.int .i64 q,.int .i64 a,.slice d nn c]] [Sl.fact af d nn c ns] 1 (w.heap.size+2) 34) (by kernel_rfl) (f.out.but 1 rfl).drew (fun b=>?_)
  have k:Hid (an w [] X w2.drew [.box (n) 34 #[.int .i64 q,.int .i64 a,.slice d nn c],.box (w.heap.size+2) 34 #[.int .i64 0,.int .i64 0,.slice none 0 0],.box (w.heap.size+1) 44 #[.int .i64 eq,.int .i64 ea,.int .i64 r,.string cm,.int .i64 ex,.int .i64 m,.int .i64 o],.box (w.heap.size) 34 #[.int .i64 q,.int .i64 a,.slice d nn c]] [Sl.fact af d nn c ns]):=f.out.drew
  clear f
  generalize w2.drew=wd at b k ⊢
  have L:wd.cell? ⟨w.heap.size+2,0,none⟩=some (.int .i64 0):=k.out.cell 1 rfl 0
  have J:wd.frozen? ⟨w.heap.size+2,0,none⟩=false:=k.out.frozen 1 rfl 0
  have t:wd.cell? ⟨w.heap.size+2,1,none⟩=some (.int .i64 0):=k.out.cell 1 rfl 1
  have z:wd.frozen? ⟨w.heap.size+2,1,none⟩=false:=k.out.frozen 1 rfl 1
  have B:wd.cell? ⟨w.heap.size+2,2,none⟩=some (.slice none 0 0):=k.out.cell 1 rfl 2
  have C:wd.frozen? ⟨w.heap.size+2,2,none⟩=false:=k.out.frozen 1 rfl 2
  refine tS 0 b ?_ (hy:=by(intro W j;(try dsimp only at j);have q0:W.cell? ⟨w.heap.size,0,none⟩=some (.int .i64 q):=j.cell 3 rfl (by decide) 0;have q1:W.cell? ⟨w.heap.size,1,none⟩=some (.int .i64 a):=j.cell 3 rfl (by decide) 1;have q2:W.cell? ⟨w.heap.size,2,none⟩=some (.slice d nn c):=j.cell 3 rfl (by decide) 2;go_simp;try with_reducible rfl))
  refine tS 1 b ?_
  refine tS 2 b ?_
  refine wpAnyH_ready (rs:=[3]) (by kernel_rfl) (by simp) ?_
  refine AllReadyH.cons rfl (fun K hK=>?_) AllReadyH.nil
  go_simp
  refine hK.out _ _ (((b.set_ (by simp) 0 (.int .i64 q)).set_ (by simp) 1 (.int .i64 a)).set_ (by simp) 2 (.slice d nn c)) (fun b=>?_)
  clear hK K
  try simp only[Act.put,sI,sZ,sS]
  refine tS 4 b ?_
  refine wpAnyH_done (by kernel_rfl) ?_ _
  refine NoPanic.normal ?_
  clear L J t z B C
  have Y:Hid (an w [] X (((wd.setCell ⟨w.heap.size+2,0,none⟩ (.int .i64 q)).setCell ⟨w.heap.size+2,1,none⟩ (.int .i64 a)).setCell ⟨w.heap.size+2,2,none⟩ (.slice d nn c)) [.box (n) 34 #[.int .i64 q,.int .i64 a,.slice d nn c],.box (w.heap.size+2) 34 #[.int .i64 q,.int .i64 a,.slice d nn c],.box (w.heap.size+1) 44 #[.int .i64 eq,.int .i64 ea,.int .i64 r,.string cm,.int .i64 ex,.int .i64 m,.int .i64 o],.box (w.heap.size) 34 #[.int .i64 q,.int .i64 a,.slice d nn c]] [Sl.fact af d nn c ns]):=(((k.out.set_ 1 rfl 0 (.int .i64 q)).set_ 1 rfl 1 (.int .i64 a)).set_ 1 rfl 2 (.slice d nn c))
  clear k
  go_wp2
  exact bodyPost_ret (wN (Y.out.blk 1 rfl) (u := .int .i64 er) (v := .slice none 0 0) _ rfl rfl rfl) rfl ⟨Y.out.below,.inl ⟨al.out,rfl⟩⟩
 obtain⟨he,A3,V,c3,h,i,g,rfl,ab,ad⟩:=h1
 have aw:=Z.out he
 have am:=Lib.hid he
 clear he
 have ag:=Lib.hid ab.len
 have ao:V≤200:=by rw[ag.out];omega
 have ae:=Lib.hid (show V+7=(av 2 eb).length from by rw[ag.out];exact(bP 2 eb).symm)
 have P:Hid (an w [] X H [.box (w.heap.size+2) 34 #[.int .i64 0,.int .i64 0,.slice none 0 0],.box (w.heap.size+1) 44 #[.int .i64 eq,.int .i64 ea,.int .i64 r,.string cm,.int .i64 ex,.int .i64 m,.int .i64 o],.box (w.heap.size) 34 #[.int .i64 q,.int .i64 a,.slice d nn c]] [Sl.fact af h i g nx.ns,Sl.fact au A3 V c3 eb,Sl.fact af d nn c ns]):=(((x.out.on hb).know (Sl.fact au A3 V c3 eb) ab).know (Sl.fact af h i g nx.ns) ad)
 clear x
 clear hb
 clear ab ad
 have f:Hid (an w [] X (H.alloc (.cells #[.int .i64 eq,.int .i64 ea,.slice h i g] 34)) [.box (H.heap.size) 34 #[.int .i64 eq,.int .i64 ea,.slice h i g],.box (w.heap.size+2) 34 #[.int .i64 0,.int .i64 0,.slice none 0 0],.box (w.heap.size+1) 44 #[.int .i64 eq,.int .i64 ea,.int .i64 r,.string cm,.int .i64 ex,.int .i64 m,.int .i64 o],.box (w.heap.size) 34 #[.int .i64 q,.int .i64 a,.slice d nn c]] [Sl.fact af h i g nx.ns,Sl.fact au A3 V c3 eb,Sl.fact af d nn c ns]):=P.out.alloc_at 34 #[.int .i64 eq,.int .i64 ea,.slice h i g] (H.heap.size) (by simp)
 clear P
 go_upto_region 4 with(fail)
 generalize H.alloc (.cells #[.int .i64 eq,.int .i64 ea,.slice h i g] 34)=w2 at f ⊢
 generalize H.heap.size=n at f ⊢
 go_wp2_with fail
 with_reducible refine(rf f.out.xok' (f.out.sl 1 rfl) 2 (by omega) (by omega) ao).mono ?_
 rintro e w3 ⟨A4,c4,rfl,ac,hb⟩
 rw[ae.out]at ac
 rw[ae.out]
 have E:Hid (an w [] X w3 [.box (n) 34 #[.int .i64 eq,.int .i64 ea,.slice h i g],.box (w.heap.size+2) 34 #[.int .i64 0,.int .i64 0,.slice none 0 0],.box (w.heap.size+1) 44 #[.int .i64 eq,.int .i64 ea,.int .i64 r,.string cm,.int .i64 ex,.int .i64 m,.int .i64 o],.box (w.heap.size) 34 #[.int .i64 q,.int .i64 a,.slice d nn c]] [Sl.fact au A4 (av 2 eb).length c4 (av 2 eb),Sl.fact af h i g nx.ns,Sl.fact au A3 V c3 eb,Sl.fact af d nn c ns]):=((f.out.on hb).know (Sl.fact au A4 (av 2 eb).length c4 (av 2 eb)) ac)
 clear f
 clear hb
 clear ac
 have O:w3.cell? ⟨n,0,none⟩=some (.int .i64 eq):=E.out.cell 0 rfl 0
 have T:w3.cell? ⟨n,1,none⟩=some (.int .i64 ea):=E.out.cell 0 rfl 1
 have M:w3.cell? ⟨n,2,none⟩=some (.slice h i g):=E.out.cell 0 rfl 2
 go_wp2_with fail
 clear O T M
 refine wp_region_noPanic ?_
 refine wp_region_held_drew (S:=fun W'=>dU w [] X W' [.box (n) 34 #[.int .i64 eq,.int .i64 ea,.slice h i g],.box (w.heap.size+2) 34 #[.int .i64 0,.int .i64 0,.slice none 0 0],.box (w.heap.size+1) 44 #[.int .i64 eq,.int .i64 ea,.int .i64 r,.string cm,.int .i64 ex,.int .i64 m,.int .i64 o],.box (w.heap.size) 34 #[.int .i64 q,.int .i64 a,.slice d nn c]] [Sl.fact au A4 (av 2 eb).length c4 (av 2 eb),Sl.fact af h i g nx.ns,Sl.fact au A3 V c3 eb,Sl.fact af d nn c ns] 1 (w.heap.size+2) 34) (by kernel_rfl) (E.out.but 1 rfl).drew (fun b=>?_)
 have l:Hid (an w [] X w3.drew [.box (n) 34 #[.int .i64 eq,.int .i64 ea,.slice h i g],.box (w.heap.size+2) 34 #[.int .i64 0,.int .i64 0,.slice none 0 0],.box (w.heap.size+1) 44 #[.int .i64 eq,.int .i64 ea,.int .i64 r,.string cm,.int .i64 ex,.int .i64 m,.int .i64 o],.box (w.heap.size) 34 #[.int .i64 q,.int .i64 a,.slice d nn c]] [Sl.fact au A4 (av 2 eb).length c4 (av 2 eb),Sl.fact af h i g nx.ns,Sl.fact au A3 V c3 eb,Sl.fact af d nn c ns]):=E.out.drew
 clear E
 generalize w3.drew=wd at b l ⊢
 have I:wd.cell? ⟨w.heap.size+2,0,none⟩=some (.int .i64 0):=l.out.cell 1 rfl 0
 have y:wd.frozen? ⟨w.heap.size+2,0,none⟩=false:=l.out.frozen 1 rfl 0
 have G:wd.cell? ⟨w.heap.size+2,1,none⟩=some (.int .i64 0):=l.out.cell 1 rfl 1
 have s:wd.frozen? ⟨w.heap.size+2,1,none⟩=false:=l.out.frozen 1 rfl 1
 have A:wd.cell? ⟨w.heap.size+2,2,none⟩=some (.slice none 0 0):=l.out.cell 1 rfl 2
 have D:wd.frozen? ⟨w.heap.size+2,2,none⟩=false:=l.out.frozen 1 rfl 2
 refine tS 0 b ?_
 refine tS 1 b ?_ (hy:=by(intro W j;(try dsimp only at j);have q0:W.cell? ⟨n,0,none⟩=some (.int .i64 eq):=j.cell 0 rfl (by decide) 0;have q1:W.cell? ⟨n,1,none⟩=some (.int .i64 ea):=j.cell 0 rfl (by decide) 1;have q2:W.cell? ⟨n,2,none⟩=some (.slice h i g):=j.cell 0 rfl (by decide) 2;go_simp;try with_reducible rfl))
 refine tS 2 b ?_
 refine wpAnyH_ready (rs:=[3]) (by kernel_rfl) (by simp) ?_
 refine AllReadyH.cons rfl (fun K hK=>?_) AllReadyH.nil
 go_simp
 refine hK.out _ _ (((b.set_ (by simp) 0 (.int .i64 eq)).set_ (by simp) 1 (.int .i64 ea)).set_ (by simp) 2 (.slice h i g)) (fun b=>?_)
 clear hK K
 try simp only[Act.put,sI,sZ,sS]
 refine tS 4 b ?_
 refine wpAnyH_done (by kernel_rfl) ?_ _
 refine NoPanic.normal ?_
 clear I y G s A D
 have p:Hid (an w [] X (((wd.setCell ⟨w.heap.size+2,0,none⟩ (.int .i64 eq)).setCell ⟨w.heap.size+2,1,none⟩ (.int .i64 ea)).setCell ⟨w.heap.size+2,2,none⟩ (.slice h i g)) [.box (n) 34 #[.int .i64 eq,.int .i64 ea,.slice h i g],.box (w.heap.size+2) 34 #[.int .i64 eq,.int .i64 ea,.slice h i g],.box (w.heap.size+1) 44 #[.int .i64 eq,.int .i64 ea,.int .i64 r,.string cm,.int .i64 ex,.int .i64 m,.int .i64 o],.box (w.heap.size) 34 #[.int .i64 q,.int .i64 a,.slice d nn c]] [Sl.fact au A4 (av 2 eb).length c4 (av 2 eb),Sl.fact af h i g nx.ns,Sl.fact au A3 V c3 eb,Sl.fact af d nn c ns]):=(((l.out.set_ 1 rfl 0 (.int .i64 eq)).set_ 1 rfl 1 (.int .i64 ea)).set_ 1 rfl 2 (.slice h i g))
 clear l
 go_wp2
 exact bodyPost_ret (wN (p.out.blk 1 rfl) (u := .int .i64 0) (v := .slice A4 (av 2 eb).length c4) _ rfl rfl rfl) rfl ⟨p.out.below,.inr ⟨am.out,A4,c4,h,i,g,rfl,p.out.back' 0 rfl,p.out.back' 1 rfl⟩⟩
end
section
open Go.RowKit
theorem me (pre rest:List UInt8) (n:Nat) (hn:n<18446744073709551616):cq (pre++ay n++rest) (pre.length:Int) 0=(((pre++ay n).length:Int),0,n):=by
 rw[wK _ _ (by simp),List.append_assoc,List.drop_left,nG,pE,uL (bQ rest) n 0 (by omega) (by simpa using hn) (by omega),if_pos rfl]
 simp only[List.length_append,jf,Int.natCast_add]
theorem mB (pre rest:List UInt8) (n most:Nat) (hn:n≤most) (a:most≤1099511627776):dw (pre++ay n++rest) (pre.length:Int) 0 most=(((pre++ay n).length:Int),0,n):=by
 unfold dw
 rw[me pre rest n (by omega),if_neg (by simpa using hn)]
theorem Eo (pre rest l:List UInt8) (most:Nat) (b:l.length≤most) (a:most≤200):kS (pre++cx l++rest) (pre.length:Int) 0 most=(((pre++cx l).length:Int),0,l):=by
 have h:=me pre (l++rest) l.length (by omega)
 have e:pre++cx l++rest=pre++ay l.length++(l++rest):=by unfold cx;simp
 unfold kS
 rw[e,h]
 simp only
 rw[if_neg (by simp),if_neg (by omega),if_neg (by simp;omega),Int.toNat_natCast,List.drop_left,List.take_left]
 simp only[Prod.mk.injEq,and_true]
 unfold cx
 simp only[List.length_append]
 omega
theorem uv (bs:List UInt8):∀ (n:Nat) (zs:List Int),zs.length=n → ∀ (pre rest:List UInt8),(∀ z ∈ zs,0≤z∧z≤2147483647)→bs=pre++zs.flatMap (fun n=>ay n.toNat)++rest→bT bs (pre.length:Int) 0 zs.length=(((pre++zs.flatMap (fun n=>ay n.toNat)).length:Int),0,zs):=by
 intro n
 induction n with
 | zero=>
   intro zs a pre rest _ _
   obtain rfl:=List.eq_nil_of_length_eq_zero a
   simp[bT]
 | succ n ih=>
   intro zs a pre rest c d
   obtain⟨ys,z,rfl⟩:∃ ys z,zs=ys ++ [z]:=⟨zs.dropLast,zs.getLast (by rintro rfl;cases a),(List.dropLast_concat_getLast _).symm⟩
   have b:=c z (by simp)
   have f:=ih ys (by simpa using a) pre (ay z.toNat++rest) (fun y hy=>c y (by simp[hy])) (by rw[d];simp)
   rw[List.length_append,List.length_singleton]
   unfold bT
   rw[f]
   have e:bs=(pre++ys.flatMap (fun n=>ay n.toNat))++ay z.toNat++rest:=by rw[d];simp
   simp only
   rw[e,mB _ _ _ _ (by omega) (by omega)]
   simp only[Prod.mk.injEq,true_and]
   exact⟨by simp,by rw[Int.toNat_of_nonneg b.1]⟩
theorem yX {l:List (List UInt8)} {s:List UInt8} (h:placeOf l s≠0):l[placeOf l s-1]?=some s:=by
 unfold placeOf at h ⊢
 by_cases a:s ∈ l
 ·rw[if_pos a,Nat.add_sub_cancel]
  have:=List.idxOf_lt_length_of_mem a
  rw[List.getElem?_eq_getElem this,List.getElem_idxOf]
 ·rw[if_neg a]at h;exact absurd rfl h
theorem zL {c:Cx} {e:Evt} (h:ei c e=0):dX c (aN c e)=(e,true):=by
 obtain⟨b,D,J,L,I⟩:=kO h
 obtain⟨o,m,kn,kw,ka,kb,kq,S⟩:=cK D
 obtain⟨⟨v,r⟩,⟨E,w⟩,⟨s,B⟩,_,_⟩:=dB ⟨o,m⟩ kw
 obtain⟨c0,M,O,R⟩:=fe b
 have j:dn c.ns=true:=by unfold aJ at b;simp at b;exact b.2
 have l:c.ns.length≤32:=nM j
 have p:=lN c.ns e.cm.data.toList
 have f:e.cm.data.toList.length≤24:=by unfold dN at kn;simp at kn;exact kn.2
 have d:(jX e).length=cu e.k:=by
  unfold jX
  have:=iX e.k
  simp;omega
 have i:∀ z ∈ jX e,0≤z∧z≤2147483647:=fun z C=>by
  have:=List.mem_of_mem_take C
  simp only[List.mem_cons,List.not_mem_nil,or_false]at this
  rcases this with rfl | rfl | rfl
  ·exact⟨v,r⟩
  ·exact⟨E,w⟩
  ·exact⟨s,B⟩
 generalize hK:ay e.k.toNat=K
 generalize hQ:ay (e.q-c.q).toNat=Q
 generalize hA:ay (e.a-c.a).toNat=A
 generalize hP:ay (placeOf c.ns e.cm.data.toList)=P
 generalize hT:(if placeOf c.ns e.cm.data.toList=0 then cx e.cm.data.toList else [])=T
 generalize hN:(jX e).flatMap (fun n=>ay n.toNat)=N
 have u:aN c e=K++Q++A++P++T++N:=by unfold aN;rw[hK,hQ,hA,hP,hT,hN]
 have F:dw (K++Q++A++P++T++N) 0 0 10=((K.length:Int),0,e.k.toNat):=by
  have:=mB [] (Q++A++P++T++N) e.k.toNat 10 (by omega) (by omega)
  rw[hK]at this
  simpa using this
 have y:dw (K++Q++A++P++T++N) (K.length:Int) 0 4294967296=(((K++Q).length:Int),0,(e.q-c.q).toNat):=by
  have:=mB K (A++P++T++N) (e.q-c.q).toNat 4294967296 (by omega) (by omega)
  rw[hQ]at this
  simpa only[List.append_assoc] using this
 have x:dw (K++Q++A++P++T++N) ((K++Q).length:Int) 0 1099511627776=(((K++Q++A).length:Int),0,(e.a-c.a).toNat):=by
  have:=mB (K++Q) (P++T++N) (e.a-c.a).toNat 1099511627776 (by omega) (by omega)
  rw[hA]at this
  simpa only[List.append_assoc] using this
 have H:dw (K++Q++A++P++T++N) ((K++Q++A).length:Int) 0 32=(((K++Q++A++P).length:Int),0,placeOf c.ns e.cm.data.toList):=by
  have:=mB (K++Q++A) (T++N) (placeOf c.ns e.cm.data.toList) 32 (by omega) (by omega)
  rw[hP]at this
  simpa only[List.append_assoc] using this
 have G:(if placeOf c.ns e.cm.data.toList=0 then kS (K++Q++A++P++T++N) ((K++Q++A++P).length:Int) 0 24 else(((K++Q++A++P).length:Int),0,(c.ns[placeOf c.ns e.cm.data.toList-1]?).getD []))=(((K++Q++A++P++T).length:Int),0,e.cm.data.toList):=by
  by_cases g:placeOf c.ns e.cm.data.toList=0
  ·rw[if_pos g]at hT ⊢
   have:=Eo (K++Q++A++P) N e.cm.data.toList 24 f (by omega)
   rw[hT]at this
   simp only[List.append_assoc]at this ⊢
   exact this
  ·rw[if_neg g]at hT ⊢
   subst hT
   rw[yX g]
   simp
 have t:bT (K++Q++A++P++T++N) ((K++Q++A++P++T).length:Int) 0 (cu e.k)=(((K++Q++A++P++T++N).length:Int),0,jX e):=by
  have:=uv (K++Q++A++P++T++N) _ (jX e) rfl (K++Q++A++P++T) [] i (by rw[hN];simp)
  rw[hN,d]at this
  exact this
 rw[u]
 unfold dX
 simp only[F,y,x,H,G,Int.toNat_of_nonneg (show 0≤e.k by omega),t]
 simp only[Int.toNat_of_nonneg (show 0≤e.q-c.q by omega),Int.toNat_of_nonneg (show 0≤e.a-c.a by omega),show c.q+(e.q-c.q)=e.q from by omega,show c.a+(e.a-c.a)=e.a from by omega,decide_true]
 have:=xq ⟨o,m⟩ kw ⟨e.q,e.a,e.k,eN e.cm.data.toList,0,0,0⟩ rfl
 rw[this]
theorem CP {c:Cx} {e:Evt} (h:ei c e=0):hJ c (aN c e)=(e,bR c e,0):=by
 obtain⟨a,_⟩:=kO h
 unfold hJ
 rw[zL h,if_neg (by rw[a];simp),if_neg (by simp),if_neg (by simp[h])]
theorem By {c:Cx} {e:Evt} {l:List Evt} (h:okL c (e::l)):(aN c e).length≤200:=by have:=gI h.1;omega
theorem yp (bs:List UInt8):∀ (l:List Evt) (s:Scn) (pre rest:List UInt8),okL s.c l→bs=pre++eA s.c l++rest→s.size=(pre.length:Int)→s.num≠0→s.sealed=false →
 bH bs s=bH bs { s with evs:=s.evs++l,c:=eu s.c l,size:=((pre++eA s.c l).length:Int) }:=by
 intro l
 induction l with
 | nil=>
   intro s pre rest _ _ b _ _
   simp only[List.append_nil,eA,eu]
   rw[←b]
 | cons e l ih=>
   intro s pre rest a d b hn f
   have i:eB bs s.size = .inr (UInt8.ofNat (2:Int).toNat,aN s.c e):=by
    rw[b,iW _ _ (by rw[d];simp),d,List.append_assoc,List.drop_left]
    simp only[eA,List.append_assoc]
    exact jS 2 _ _ (by omega) (by omega) (By a)
   have g:dx s ((UInt8.ofNat (2:Int).toNat).toNat:Int) (aN s.c e)=some { s with evs:=s.evs ++ [e],c:=bR s.c e }:=by
    unfold dx rE
    rw[f,if_neg (by simp),if_neg hn,if_pos (by rfl),CP a.1,if_pos rfl]
   rw[jL i g]
   have h:=ih { s with evs:=s.evs ++ [e],c:=bR s.c e,size:=s.size+(((aN s.c e).length:Int)+7) } (pre++av 2 (aN s.c e)) rest a.2 (by rw[d];simp[eA]) (by simp[b,bP]) hn f
   rw[h]
   simp[eA,eu]
theorem mX {n:Int} (a:0≤n) (b:n≤9223372036854775807):wrap64 n=n:=by unfold wrap64;omega
theorem yY {s:Scn} {num q a:Int} (hn:eZ num=true) (e:aJ ⟨q,a,[]⟩=true):gN s (aW++aU num q a)=some { s with num:=num,bq:=q,ba:=a,c:=⟨q,a,[]⟩ }:=by
 obtain⟨c0,j,d,k⟩:=fe e
 simp only at c0 j d k
 have b:=hn
 unfold eZ at b
 simp only[Bool.and_eq_true,decide_eq_true_eq]at b
 have f:cq (aU num q a) 0 0=(((ay num.toNat).length:Int),0,num.toNat):=by
  have:=me [] (ay q.toNat++ay a.toNat) num.toNat (by omega)
  simpa [aU] using this
 have i:cq (aU num q a) ((ay num.toNat).length:Int) 0=(((ay num.toNat++ay q.toNat).length:Int),0,q.toNat):=by
  have:=me (ay num.toNat) (ay a.toNat) q.toNat (by omega)
  simpa only[aU,List.append_assoc] using this
 have g:cq (aU num q a) ((ay num.toNat++ay q.toNat).length:Int) 0=(((aU num q a).length:Int),0,a.toNat):=by
  have:=me (ay num.toNat++ay q.toNat) [] a.toNat (by omega)
  simpa only[aU,List.append_nil] using this
 unfold gN
 rw[if_pos (by simp[aW,List.isPrefixOf]),show(aW++aU num q a).drop 4=aU num q a from rfl]
 unfold three
 simp only[f,i,g,Int.toNat_of_nonneg (show 0≤num by omega),Int.toNat_of_nonneg c0,Int.toNat_of_nonneg d,mX c0 (by omega),mX d (by omega),mX (show 0≤num by omega) (by omega)]
 rw[if_neg]
 rintro(h | h | h | h)
 ·exact h rfl
 ·omega
 ·rw[hn]at h;cases h
 ·rw[e]at h;cases h
theorem nJ {n q a:Int} (d:n<18446744073709551616) (b:q<18446744073709551616) (c:a<18446744073709551616):(aW++aU n q a).length≤200∧(aU n q a).length≤200:=by
 have:=jG d b c
 rw[List.length_append]
 have:aW.length=4:=rfl
 omega
theorem qB {num q a:Int} {l:List Evt} {sd:Bool} (hn:eZ num=true) (f:aJ ⟨q,a,[]⟩=true) (b:okL ⟨q,a,[]⟩ l) (x:l.length≤100000) (rest:List UInt8) (s:rest = []∨sd=false):
 bH (fR num ⟨q,a,[]⟩ l sd++rest) cM=if sd=true then(⟨num,q,a,l,eu ⟨q,a,[]⟩ l,((fR num ⟨q,a,[]⟩ l sd).length:Int),true⟩,4)
  else bH (fR num ⟨q,a,[]⟩ l sd++rest) ⟨num,q,a,l,eu ⟨q,a,[]⟩ l,((fR num ⟨q,a,[]⟩ l false).length:Int),false⟩:=by
 obtain⟨c0,o,r,u⟩:=fe f
 simp only at c0 o r u
 have d:=hn
 unfold eZ at d
 simp only[Bool.and_eq_true,decide_eq_true_eq]at d
 obtain⟨v,_⟩:=nJ (n:=num) (q:=q) (a:=a) (by omega) (by omega) (by omega)
 generalize e:fR num ⟨q,a,[]⟩ l sd++rest=bs
 generalize hT:(if sd=true then av 3 (aU (l.length:Int) (eu ⟨q,a,[]⟩ l).q (eu ⟨q,a,[]⟩ l).a) else [])=T
 have c:bs=av 1 (aW++aU num q a)++eA ⟨q,a,[]⟩ l++(T++rest):=by
  rw[←e];unfold fR;rw[hT];simp
 have k:eB bs cM.size = .inr (UInt8.ofNat (1:Int).toNat,aW++aU num q a):=by
  rw[show cM.size=((0:Nat):Int) from rfl,iW _ _ (Nat.zero_le _),c,List.drop_zero,List.append_assoc]
  exact jS 1 _ _ (by omega) (by omega) v
 have p:dx cM ((UInt8.ofNat (1:Int).toNat).toNat:Int) (aW++aU num q a)=some ⟨num,q,a,[],⟨q,a,[]⟩,0,false⟩:=by
  unfold dx
  rw[if_neg (by simp[cM]),if_pos (show cM.num=0 from rfl),if_pos (by rfl),yY hn f]
  rfl
 rw[jL k p]
 have j:=yp bs l ⟨num,q,a,[],⟨q,a,[]⟩,0+(((aW++aU num q a).length:Int)+7),false⟩ (av 1 (aW++aU num q a)) (T++rest) b c (by rw[bP];simp) (by simp only;omega) rfl
 simp only[List.nil_append]at j
 rw[show cM.size=0 from rfl]
 rw[j]
 cases sd with
 | false=>
   simp only[Bool.false_eq_true,if_false]at hT ⊢
   subst hT
   congr 2
   unfold fR
   simp
 | true=>
   simp only[if_true]at hT ⊢
   obtain rfl:rest = []:=by rcases s with h | h;exact h;cases h
   have i:=kf _ _ f b
   obtain⟨z,A,w,y⟩:=fe i
   obtain⟨_,t⟩:=nJ (n:=(l.length:Int)) (q:=(eu ⟨q,a,[]⟩ l).q) (a:=(eu ⟨q,a,[]⟩ l).a) (by omega) (by omega) (by omega)
   have m:eB bs ((av 1 (aW++aU num q a)++eA ⟨q,a,[]⟩ l).length:Int) = .inr (UInt8.ofNat (3:Int).toNat,aU (l.length:Int) (eu ⟨q,a,[]⟩ l).q (eu ⟨q,a,[]⟩ l).a):=by
    rw[iW _ _ (by rw[c];simp),c,List.drop_left,←hT]
    exact jS 3 _ _ (by omega) (by omega) t
   rw[jL (s':=⟨num,q,a,l,eu ⟨q,a,[]⟩ l,((av 1 (aW++aU num q a)++eA ⟨q,a,[]⟩ l).length:Int),true⟩) m (by
    unfold dx
    simp only[Bool.false_eq_true,if_false]
    rw[if_neg (by omega),if_neg (by decide),if_pos (by rfl),if_pos (by simp)])]
   have hlen:((av 1 (aW++aU num q a)++eA ⟨q,a,[]⟩ l).length:Int)+(((aU (l.length:Int) (eu ⟨q,a,[]⟩ l).q (eu ⟨q,a,[]⟩ l).a).length:Int)+7)=(bs.length:Int):=by
    rw[c,←hT]
    simp only[List.length_append,bP,List.length_nil,Int.natCast_add]
    omega
   have g:(fR num ⟨q,a,[]⟩ l true).length=bs.length:=by rw[←e];simp
   simp only[hlen,g]
   rw[kI (what:=1) (by
    rw[iW _ _ (Nat.le_refl _),List.drop_length]
    rfl)]
   rfl
theorem qz {num q a:Int} {l:List Evt} (hn:eZ num=true) (c:aJ ⟨q,a,[]⟩=true) (b:okL ⟨q,a,[]⟩ l) (d:l.length≤100000):
 bH (fR num ⟨q,a,[]⟩ l false) cM=(⟨num,q,a,l,eu ⟨q,a,[]⟩ l,((fR num ⟨q,a,[]⟩ l false).length:Int),false⟩,1):=by
 have h:=qB hn c b d [] (.inl rfl) (sd:=false)
 rw[List.append_nil]at h
 rw[h,if_neg (by simp),kI (what:=1) (by rw[iW _ _ (Nat.le_refl _),List.drop_length];rfl)]
 rfl
theorem nH {num q a:Int} {l:List Evt} (hn:eZ num=true) (c:aJ ⟨q,a,[]⟩=true) (b:okL ⟨q,a,[]⟩ l) (d:l.length≤100000):
 bH (fR num ⟨q,a,[]⟩ l true) cM=(⟨num,q,a,l,eu ⟨q,a,[]⟩ l,((fR num ⟨q,a,[]⟩ l true).length:Int),true⟩,4):=by
 have h:=qB hn c b d [] (.inl rfl) (sd:=true)
 rw[List.append_nil,if_pos rfl]at h
 exact h
end
section
open Go.RowKit
set_option maxHeartbeats 1000000 in
theorem uT (s:St) (b:Evt) (G:b.k=1) (A:Option Addr) (n H:Nat) (X:List Nat) (w:World) (hX:XOk X w) (I:Sl aB w X A n H s.cs) (h:cF s) (R:b.cm.size≤maxLen) (Q:cS s b=0):
 Calls Tryz.prog 38 #[.agg #[.slice A n H,.int .i64 s.q,.int .i64 s.a],.agg (evA b)] w (jY (bJ s b) 0 X w):=by
 obtain⟨V,m2,Z,m4⟩:=fM Q
 obtain⟨k1,k2,kn,kw,ka,kb,kq,kr⟩:=cK V
 have S:1≤b.x∧b.x≤3:=by
  unfold cJ inB cR at kw
  rw[G]at kw
  simp at kw
  omega
 have y:1≤b.cm.size∧b.cm.size≤24:=by unfold dN at kn;simpa using kn
 have o:n≤12:=by have:=I.len;have:=h.1;omega
 have HL:=Lib.hid I.len
 have HM:=Lib.hid Q
 have p:=Lib.hid G
 clear V m2 Z m4 k1 k2 kn kw Q G kq kr
 simp only[evA]
 go_enter Tryz.func38,Tryz.ntmps38
 go_wp2_with fail
 refine(hstart hX).cl fun W K=>?_
 have K:=K.ksl0 I
 clear I
 refine(uO s b A n H _ W K.xok (K.sl 0 rfl) h R).mono ?_
 rw[HM.out]
 rintro e w1 ⟨rfl,d⟩
 have K:=K.on d
 clear d
 have G:=p.out
 have N:=K.r 2 rfl
 go_wp2_with fail
 refine(pJ A n H _ w1 K.xok (K.sl 0 rfl) (by omega)).mono ?_
 rintro e w2 ⟨v,vs,rfl,c,D,d⟩
 have K:=(K.ft.kra c).nrow d D
 clear N d c D
 have P:=K.r 3 rfl
 have N:=K.r 2 rfl
 go_wp2_with fail
 refine(EV _ _ _ y.1 y.2 S.1 S.2 ka kb _ w2 K.xok).mono ?_
 rintro e w3 ⟨m,E,g,rfl,d,Y⟩
 have K:=(K.on d).kn (f:=aa.fact m E _) Y
 clear P N d Y
 go_upto_region 9 with(refine K.lw fun W K=>?_;refine K.sr 0 rfl fun W K=>?_)
 have P:=K.r 3 rfl
 obtain⟨T,l,rfl,ad⟩:=aE (K.row 1 rfl)
 obtain⟨A3,ab,J,F⟩:=K.out.done_row (s:=aB) 1 rfl (K.ra 1 rfl) (by decide) (by simp)
 injection J with J e4 B
 subst J B
 go_wp2_with fail
 refine(FP s.cs b.cm T n l _ W F.xok' (F.sl 0 rfl) h.2.2.2.2.2.2 o).mono ?_
 rintro e w4 ⟨i,bb,rfl,hi,O,L,d⟩
 have K:=K.on d
 clear F d P e4
 go_upto_region 10 with(fail)
 generalize Value.slice T n l=v at K ⊢
 go_wp2_with (refine K.ld 0 rfl ?_)
 refine K.cl fun W K=>?_
 have hone:∀ u ∈ aL (jm b.cm b.x b.a) m E g,u.oneCell'=true:=aB.one (w:=W) (X:=Exs _++X) ⟨m,E,g,rfl,K.fa 0 rfl,by unfold jm;split<;>(simp only[maxLen];omega)⟩
 refine(Fg vs (aL (jm b.cm b.x b.a) m E g) n i _ 0 v W hi (by omega) (K.row 2 rfl) (Nat.zero_le _) (K.out.blk 0 rfl) (fun e=>K.apart (i:=2) (j:=0) (by decide) rfl rfl _ e rfl) rfl hone (aF.one_ (K.ra 1 rfl))).mono ?_
 rintro e w5 ⟨v',rfl,D,U,t⟩
 have K:=K.app 2 rfl D U t
 have c:=(((K.ra 1 rfl).take i).append (aF.single (s:=aB) ⟨m,E,g,rfl,K.fa 0 rfl,by unfold jm;split<;>(simp only[maxLen];omega)⟩)).append ((K.ra 1 rfl).drop i)
 have K:=K.kra c
 clear c D U t hone
 obtain⟨A4,M,rfl,-⟩:=aE (K.row 2 rfl)
 have c4:=K.r 4 rfl
 go_wp2_with (refine K.lw fun W K=>?_;refine K.sr 3 rfl fun W K=>?_)
 obtain⟨A5,ac,B,F⟩:=K.out.done_row (s:=aB) 2 rfl (K.ra 0 rfl) (by decide) (by simp)
 injection B with B e6 e7
 subst B e7
 refine K.rc2 3 rfl rfl ⟨A4,n+1,M,rfl,K.below,?_⟩
 have z:(bJ s b).cs=s.cs.take i ++ [jm b.cm b.x b.a]++s.cs.drop i:=by
  have C:(jm b.cm b.x b.a).nm=b.cm:=by unfold jm;split<;>rfl
  unfold bJ
  rw[p.out,if_pos rfl,nX (i:=i) (by have:=HL.out;omega) (by rw[C];exact O) (by rw[C];exact L)]
  simp
 rw[z]
 exact(F.hh).slb 0 rfl
end
section
open Go.RowKit
set_option maxHeartbeats 1000000 in
theorem rX (s:St) (b:Evt) (hk:¬ b.k=1) (A:Option Addr) (n E:Nat) (X:List Nat) (w:World) (hX:XOk X w) (P:Sl aB w X A n E s.cs) (z:cF s) (B:b.cm.size≤maxLen) (hm:cS s b=0):
 Calls Tryz.prog 38 #[.agg #[.slice A n E,.int .i64 s.q,.int .i64 s.a],.agg (evA b)] w (jY (bJ s b) 0 X w):=by
 obtain⟨m1,m2,m3,m4⟩:=fM hm
 obtain⟨c,I,N⟩:∃ c,s.cs[fu s.cs b.cm]?=some c∧iw c b=0:=by
  rcases m4 with⟨h,_⟩ | ⟨_,h⟩
  ·exact absurd h hk
  ·exact h
 have H:bJ s b=⟨s.cs.set (fu s.cs b.cm) (cH c b),b.q,b.a⟩:=by
  unfold bJ
  rw[if_neg hk]
  simp only[I]
 have y:fu s.cs b.cm<s.cs.length:=(List.getElem?_eq_some_iff.1 I).1
 have L:cX s.cs b.cm=(fu s.cs b.cm:Int):=by unfold cX;rw[if_pos (show fF Cmp.nm s.cs b.cm<s.cs.length from y)]
 rw[H]
 have o:dr c:=z.2.2.2.2.2.1 c (List.mem_of_getElem? I)
 have F:n≤12:=by have:=P.len;have:=z.1;omega
 have HL:=Lib.hid P.len
 have HM:=Lib.hid hm
 have O:=Lib.hid I
 have J:=Lib.hid L
 clear m1 m2 m3 m4 hm H I L
 generalize fu s.cs b.cm=i at y O J ⊢
 have i1:(0:Int)≤(i:Int):=by omega
 have i2:(i:Int)<(n:Int):=by have:=HL.out;omega
 clear y
 simp only[evA]
 go_enter Tryz.func38,Tryz.ntmps38
 go_wp2_with fail
 refine(hstart hX).cl fun W K=>?_
 have K:=K.ksl0 P
 clear P
 refine(uO s b A n E _ W K.xok (K.sl 0 rfl) z B).mono ?_
 rw[HM.out]
 rintro e w1 ⟨rfl,d⟩
 have K:=K.on d
 clear d
 have Q:=K.r 2 rfl
 have c1:=K.r 1 rfl
 go_wp2_with fail
 refine(pJ A n E _ w1 K.xok (K.sl 0 rfl) (by omega)).mono ?_
 rintro e w2 ⟨v,vs,rfl,m,ho,d⟩
 have K:=(K.kra m).nrow d ho
 clear Q c1 d m ho
 have V:=K.r 3 rfl
 have Q:=K.r 2 rfl
 go_wp2_with fail
 refine(jO s.cs s.q s.a b.cm A n E _ w2 K.xok (K.sl 1 rfl) F).mono ?_
 rw[J.out]
 rintro e w3 ⟨rfl,d⟩
 have K:=K.on d
 clear V Q d
 go_upto_region 12 with(fail)
 obtain⟨A2,D,rfl,-⟩:=aE (K.row 0 rfl)
 obtain⟨g,rfl⟩:∃ g,A2=some ⟨g,0,none⟩:=by
  rcases(K.row 0 rfl).2 with⟨h,_⟩ | ⟨g,cap,cur,h,_⟩
  ·injection h with h1 h2 h3;omega
  ·injection h with h1 h2 h3;exact⟨g,h1⟩
 obtain⟨r,⟨S,n1,C,rfl,M,R⟩,Z⟩:=rowAt (K.ra 0 rfl) (e:=95) (g:=g) (n:=n) (cap:=D) O.out
 have K:=K.kn (f:=aa.fact S n1 c.cells) M
 clear M
 refine Dy (α:=Nat) (β:=World) (γ:=Option Addr) (δ:=Nat) (ε:=Nat) (G:=?G) ?main ?key
 case main=>
  intro key
  refine K.rg fun W K=>?_
  refine tK 0 K ?_
  refine tK 1 K ?_
  refine tK 2 K ?_
  refine tL 3 (fun _ h=>h) K ?_ (hy:=fun w T=>aD (Z w (T.row 0 rfl)))
  refine tL 4 (fun _ h=>h) K ?_ (hy:=fun w T=>aD (T.at_ 2 rfl))
  refine tC2 5 9 (fun K' hK=>?_) (fun K' hK=>?_)
  ·go_simp
   refine(wP c S n1 C b _ _ K.xok (K.fa 0 rfl) o B N).mono ?_
   rintro e Y ⟨u,t,j,rfl,d,l⟩
   have x:=K.on d
   have K:=x.kn (f:=aa.fact u t _) l
   refine hK.out _ _ x fun _=>?_
   clear hK K' d l
   try simp only[Act.put,aq,aj,ai]
   refine tK 6 x ?_
   refine tK 7 x ?_
   refine tK 8 x ?_
   refine tC 9 fun K' hK=>?_
   go_simp
   have K:=K.to (W':=Y.alloc (.cells #[.string ⟨#[]⟩,.int .i64 0,.int .i64 0,.int .i64 0,.int .i64 0,.slice none 0 0,.int .i64 0,.int .i64 0,.int .i64 0,.int .i64 0,.int .i64 0,.int .i64 0,.int .i64 0,.int .i64 0,.int .i64 0,.int .i64 0,.int .i64 0,.int .i64 0,.int .i64 0,.int .i64 0,.int .i64 0] 95))
   refine hK.out _ _ K.tl.ft fun _=>?_
   clear hK K'
   try simp only[Act.put,aq,aj,ai]
   refine tSt 10 K 0 rfl (fun U h=>h.tl.ft) fun U K=>?_
   refine tK 11 K.tl.ft ?_
   refine tE ?_
   clear x
   generalize Y.heap.size=p at K ⊢
   revert K
   exact key.out p U u t j
  ·go_simp
   have K:=K.to (W':=W.alloc (.cells #[.string ⟨#[]⟩,.int .i64 0,.int .i64 0,.int .i64 0,.int .i64 0,.slice none 0 0,.int .i64 0,.int .i64 0,.int .i64 0,.int .i64 0,.int .i64 0,.int .i64 0,.int .i64 0,.int .i64 0,.int .i64 0,.int .i64 0,.int .i64 0,.int .i64 0,.int .i64 0,.int .i64 0,.int .i64 0] 95))
   refine hK.out _ _ K.tl fun _=>?_
   clear hK K'
   try simp only[Act.put,aq,aj,ai]
   refine tC 5 fun K' hK=>?_
   go_simp
   refine(wP c S n1 C b _ _ K.xok (K.fa 0 rfl) o B N).mono ?_
   rintro e Y ⟨u,t,j,rfl,d,l⟩
   have K:=(K.on d).kn (f:=aa.fact u t _) l
   refine hK.out _ _ K.tl.ft fun _=>?_
   clear hK K' d l
   try simp only[Act.put,aq,aj,ai]
   refine tK 6 K.tl.ft ?_
   refine tK 7 K.tl.ft ?_
   refine tK 8 K.tl.ft ?_
   refine tSt 10 K 0 rfl (fun U h=>h.tl.ft) fun U K=>?_
   refine tK 11 K.tl.ft ?_
   refine tE ?_
   generalize W.heap.size=p at K ⊢
   revert K
   exact key.out p U u t j
 case key=>
  intro p W u t j K
  have ab:vs.length=s.cs.length*21:=(K.ra 2 rfl).length
  have ac:=(List.getElem?_eq_some_iff.1 O.out).1
  go_upto_region 15 with(fail)
  have V:=K.r 3 rfl
  go_upto_region 16 with(first | refine K.ld 0 rfl ?_ | refine K.rs (k:=i*21) (cells:=(aL (cH c b) u t j).toArray) 1 rfl (by show i*21+21≤vs.length;omega) fun W K=>?_)
  have V:=K.r 3 rfl
  go_wp2_with (refine K.lw fun W K=>?_;refine K.sr 2 rfl fun W K=>?_)
  have m:=aF.put (s:=aB) (K.ra 2 rfl) O.out ⟨u,t,j,rfl,K.fa 0 rfl,by rw[mK];exact R⟩
  obtain⟨A5,ad,e5,x⟩:=K.out.done_row (s:=aB) 1 rfl m (by decide) (by simp)
  injection e5 with e5 e6 e7
  subst e5 e7
  refine K.rc2 2 rfl rfl ⟨_,n,D,rfl,K.below,?_⟩
  exact(x.hh).slb 0 rfl
end
section
open Go.RowKit
def dR (s:St) (e:Evt):St:=if cS s e=0 then bJ s e else s
theorem iJ (s:St) (b:Evt) (A:Option Addr) (n f:Nat) (X:List Nat) (w:World) (hX:XOk X w) (g:Sl aB w X A n f s.cs) (c:cF s) (d:b.cm.size≤maxLen):
 Calls Tryz.prog 38 #[.agg #[.slice A n f,.int .i64 s.q,.int .i64 s.a],.agg (evA b)] w (jY (dR s b) (cS s b) X w):=by
 unfold dR
 by_cases e:cS s b=0
 ·rw[if_pos e,e]
  by_cases h:b.k=1
  ·exact uT s b h A n f X w hX g c d e
  ·exact rX s b h A n f X w hX g c d e
 ·rw[if_neg e]
  exact zu s b A n f X w hX g c d e
set_option maxHeartbeats 1000000 in
theorem FF (cs:List Cmp) (A:Option Addr) (n m:Nat) (p:Option Addr) (n2 a:Nat) (X:List Nat) (w:World) (hX:XOk X w) (h:Sl aB w X A n m cs) (b:Sl aB w X p n2 a cs) (hn:n≤12) (s:∀ c ∈ cs,c.cells.length≤1000):
 Calls Tryz.prog 72 #[.slice A n m,.slice p n2 a,.func (.func 73) #[] #[]] w fun e w'=>e = .returned (.bool true)∧Below w.heap.size w w':=by
 obtain rfl:n2=n:=by rw[h.len,b.len]
 have D:=Lib.hid h.len
 have C:=Lib.hid h
 have o:=Lib.hid b
 clear h b
 go_enter Tryz.func72,Tryz.ntmps72
 go_wp2
 go_loopw [17] (fun i wr => ∃ (k:Nat),k≤n2∧i = .int .i64 k∧HH w [] X wr [] [Sl.fact aB A n2 m cs,Sl.fact aB p n2 a cs]) (fun i _=>n2-(intOf i).toNat)
 case atStart=>exact⟨0,Nat.zero_le _,rfl,((hstart hX).ksl0 o.out).ksl0 C.out⟩
 case round=>
  obtain⟨k,H,rfl,K⟩:=hrel
  by_cases E:k<n2
  ·obtain⟨x,d⟩:∃ x,cs[k]?=some x:=⟨_,List.getElem?_eq_getElem (by have:=D.out;omega)⟩
   obtain⟨ad,r,rfl,K,⟨q,g,l,rfl,u,-⟩⟩:=K.elem 0 rfl d
   have K:=K.kn (f:=aa.fact q g x.cells) u
   obtain⟨G,L,rfl,K,⟨B,v,j,rfl,z,-⟩⟩:=K.elem 3 rfl d
   have K:=K.kn (f:=aa.fact B v x.cells) z
   have F:=Lib.hid d
   have I:(0:Int)≤(k:Int):=by omega
   have J:(k:Int)<(n2:Int):=by omega
   clear d u z
   have t:g≤9223372036854775807:=by have:=s x (List.mem_of_getElem? F.out);have:=(K.fa (f:=aa.fact q g x.cells) 2 rfl).1;omega
   go_upto_region 7 with(first | (refine bu (K.at' 3 rfl) ?_) | (refine bu (K.at' 1 rfl) ?_) | (refine K.lw fun W K=>?_;refine K.sr 0 rfl fun W K=>?_))
   go_wp2_with (first | refine K.ld 1 rfl ?_ | refine K.ld 0 rfl ?_ | (go_at_call 73;refine(CW x q g l B v j _ _ K.xok (K.fa 2 rfl) (K.fa 0 rfl) t).mono ?_;rintro e M ⟨rfl,y⟩;have K:=K.on y;clear y))
   go_roundw
   case rel=>exact⟨k+1,by omega,by go_num,K.tl.tl.ft.ft.ft.ft⟩
   case measure=>simp[intOf];omega
  ·obtain rfl:k=n2:=by omega
   go_wp2
   go_ret
   exact⟨rfl,K.below⟩
theorem De (s:St) (A:Option Addr) (n f:Nat) (g:Option Addr) (i b:Nat) (X:List Nat) (w:World) (hX:XOk X w) (j:Sl aB w X A n f s.cs) (d:Sl aB w X g i b s.cs) (hn:n≤12) (h:∀ c ∈ s.cs,c.cells.length≤1000):
 Calls Tryz.prog 25 #[.agg #[.slice A n f,.int .i64 s.q,.int .i64 s.a],.agg #[.slice g i b,.int .i64 s.q,.int .i64 s.a]] w fun e w'=>e = .returned (.bool true)∧Below w.heap.size w w':=by
 have l:(s.q == s.q)=true:=by simp
 have o:(s.a == s.a)=true:=by simp
 go_enter Tryz.func25,Tryz.ntmps25
 go_wp2_with fail
 refine(hstart hX).cl fun W K=>?_
 have K:=(K.ksl0 d).ksl0 j
 clear j d
 refine(FF s.cs A n f g i b _ W K.xok (K.sl 0 rfl) (K.sl 1 rfl) hn h).mono ?_
 rintro e m ⟨rfl,k⟩
 have K:=K.on k
 go_wp2
 go_ret
 exact⟨rfl,K.below⟩
end
section
open Go.RowKit
theorem rK:∀ (l:List UInt8) (acc:Nat),(∀ c ∈ l,48≤c.toNat∧c.toNat≤57)→acc*10^l.length≤ga acc l∧ga acc l<(acc+1)*10^l.length
 | [],acc,_=>by simp[ga]
 | c::l,acc,h=>by
   have f:=h c (by simp)
   have ih:=rK l (acc*10+(c.toNat-48)) (fun d a=>h d (by simp[a]))
   have e:ga acc (c::l)=ga (acc*10+(c.toNat-48)) l:=rfl
   rw[e,List.length_cons,Nat.pow_succ]
   have g:acc*10*10^l.length≤(acc*10+(c.toNat-48))*10^l.length:=Nat.mul_le_mul_right _ (by omega)
   have b:(acc*10+(c.toNat-48)+1)*10^l.length≤(acc+1)*10*10^l.length:=Nat.mul_le_mul_right _ (by omega)
   rw[Nat.mul_comm (10^_) 10,←Nat.mul_assoc,←Nat.mul_assoc]
   exact⟨by omega,by omega⟩
theorem qa:∀ (x y:List UInt8) (acc:Nat),x.length=y.length→(∀ c ∈ x,48≤c.toNat∧c.toNat≤57)→(∀ c ∈ y,48≤c.toNat∧c.toNat≤57)→ga acc x<ga acc y→Op.bytesLess x y=true
 | [],[],acc,_,_,_,h=>absurd h (Nat.lt_irrefl _)
 | [],d::y,acc,hl,_,_,_=>by simp at hl
 | c::x,[],acc,hl,_,_,_=>by simp at hl
 | c::x,d::y,acc,hl,hx,hy,h=>by
   have o:=hx c (by simp)
   have n:=hy d (by simp)
   have a:∀ e ∈ x,48≤e.toNat∧e.toNat≤57:=fun e i=>hx e (by simp[i])
   have f:∀ e ∈ y,48≤e.toNat∧e.toNat≤57:=fun e i=>hy e (by simp[i])
   have k:ga acc (c::x)=ga (acc*10+(c.toNat-48)) x:=rfl
   have m:ga acc (d::y)=ga (acc*10+(d.toNat-48)) y:=rfl
   have b:x.length=y.length:=by simpa using hl
   simp only[Op.bytesLess,Bool.or_eq_true,decide_eq_true_eq,Bool.and_eq_true,beq_iff_eq,UInt8.lt_iff_toNat_lt]
   rcases Nat.lt_trichotomy c.toNat d.toNat with g | g | g
   ·exact .inl g
   ·have j:=UInt8.toNat_inj.1 g
    subst j
    exact .inr ⟨rfl,qa x y _ b a f h⟩
   ·have l:=(rK x (acc*10+(c.toNat-48)) a).1
    have q:=(rK y (acc*10+(d.toNat-48)) f).2
    rw[b]at l
    have p:(acc*10+(d.toNat-48)+1)*10^y.length≤(acc*10+(c.toNat-48))*10^y.length:=Nat.mul_le_mul_right _ (by omega)
    rw[k,m]at h
    omega
theorem Dj {n m:Nat} (h:n<m) (c:m≤99999999):ltB (aA n) (aA m)=true:=by
 have b:=jI (n:=n) (by omega)
 have a:=jI c
 have d:=qa (kQ n) (kQ m) 0 (by rw[iU (by omega),iU c]) b.1 a.1 (by rw[b.2,a.2];exact h)
 unfold ltB
 rw[ByteArray.toList_eq,ByteArray.toList_eq,fJ,fJ]
 simp[Op.bytesLess,d]
theorem DU {n:Nat} (h:n≤99999999):fnB (aA n)=true:=by
 obtain⟨b,-,-⟩:=jb h
 have d:=(jI h).1
 unfold fnB
 rw[b,ByteArray.toList_eq,fJ,Bool.and_eq_true]
 refine⟨by decide,List.all_eq_true.2 fun c e=>?_⟩
 rcases List.mem_append.1 e with a | a
 ·simp only[List.mem_cons,List.not_mem_nil,or_false]at a
  rcases a with rfl | rfl | rfl | rfl<;>decide
 ·have:=d c a
  unfold qx
  exact decide_eq_true (by omega)
theorem zV {n:Nat} (h:n≤99999999):preB (aA n)=true:=by
 obtain⟨b,a,-⟩:=jb h
 unfold preB
 rw[b,a]
 rfl
def iF (nm:ByteArray):Nat:=if preB nm=true then ga 0 (nm.data.toList.drop 4) else 0
theorem jM {n:Nat} (h:n≤99999999):iF (aA n)=n:=by
 unfold iF
 rw[if_pos (zV h),fJ]
 exact(jI h).2
def uI (nm:ByteArray):Prop:=preB nm=false ∨ ∃ n,1≤n∧n≤99999999∧nm=aA n
theorem uI.le {nm:ByteArray} (h:uI nm):iF nm≤99999999:=by
 rcases h with h | ⟨n,b,a,rfl⟩
 ·unfold iF;rw[h];simp
 ·rw[jM a];exact a
theorem Br (nm:ByteArray) (h:uI nm) (w:World) (c:aX w):Calls Tryz.prog 140 #[.string nm] w fun e w'=>e = .returned (.int .i64 (iF nm:Int))∧Below w.heap.size w w':=by
 rcases h with h | ⟨n,b,a,rfl⟩
 ·have e:iF nm=0:=by unfold iF;rw[h];simp
  rw[e]
  exact yJ nm h w
 ·rw[jM a]
  exact yF n b a w c
def fW (bs:List UInt8):Prt:=⟨(bH (bs.take (bH bs cM).1.size.toNat) cM).1,(bH (bs.take (bH bs cM).1.size.toNat) cM).2,bs.length⟩
def Eh (acc:List Prt×List ByteArray) (x:Fil):Prop:=acc.2 = []∧(fW x.all).s.num=(iF x.nm:Int) ∧ ∀ a,acc.1.getLast?=some a→uH (fW x.all) a=true
open Classical in
noncomputable def bZ (acc:List Prt×List ByteArray) (x:Fil):List Prt×List ByteArray:=
 if iF x.nm=0 then acc else if Eh acc x then(acc.1 ++ [fW x.all],acc.2) else(acc.1,acc.2 ++ [x.nm])
noncomputable def eI (fs:List Fil):List Prt×List ByteArray:=fs.foldl bZ ([],[])
theorem AX {fs:List Fil} {k:Nat} {x:Fil} (h:fs[k]?=some x):eI (fs.take (k+1))=bZ (eI (fs.take k)) x:=by
 obtain⟨a,rfl⟩:=List.getElem?_eq_some_iff.1 h
 unfold eI
 rw[List.take_succ_eq_append_getElem a,List.foldl_append]
 rfl
theorem dS (fs:List Fil) (h:∀ f ∈ fs,uI f.nm):(eI fs).1.length+(eI fs).2.length≤fs.length ∧ ∀ p ∈ (eI fs).1,1≤p.s.num∧p.s.num≤99999999:=by
 have key:∀ (l:List Fil) (acc:List Prt×List ByteArray),(∀ f ∈ l,uI f.nm)→(∀ p ∈ acc.1,1≤p.s.num∧p.s.num≤99999999)→(l.foldl bZ acc).1.length+(l.foldl bZ acc).2.length≤acc.1.length+acc.2.length+l.length ∧ ∀ p ∈ (l.foldl bZ acc).1,1≤p.s.num∧p.s.num≤99999999:=by
  intro l
  induction l with
  | nil=>intro acc _ b;exact⟨by simp,b⟩
  | cons x l ih=>
    intro acc c b
    have i:=(c x (by simp)).le
    have d:(bZ acc x).1.length+(bZ acc x).2.length≤acc.1.length+acc.2.length+1 ∧ ∀ p ∈ (bZ acc x).1,1≤p.s.num∧p.s.num≤99999999:=by
     unfold bZ
     split
     ·exact⟨by omega,b⟩
     ·split
      ·rename_i hn e
       refine⟨by simp;omega,fun p a=>?_⟩
       rcases List.mem_append.1 a with a | a
       ·exact b p a
       ·rw[List.mem_singleton]at a
        subst a
        have:=e.2.1
        omega
      ·exact⟨by simp;omega,b⟩
    have:=ih (bZ acc x) (fun f g=>c f (by simp[g])) d.2
    rw[List.foldl_cons,List.length_cons]
    exact⟨by omega,this.2⟩
 have:=key fs ([],[]) h (by simp)
 simpa [eI] using this
structure Sg where
 bq:Int
 ba:Int
 evs:List Evt
 sd:Bool
def Sg.c0 (g:Sg):Cx:=⟨g.bq,g.ba,[]⟩
def Sg.c (g:Sg):Cx:=eu g.c0 g.evs
def Sg.bt (n:Nat) (g:Sg):List UInt8:=fR (n:Int) g.c0 g.evs g.sd
def Sg.pr (n:Nat) (g:Sg):Prt:=⟨⟨n,g.bq,g.ba,g.evs,g.c,((g.bt n).length:Int),g.sd⟩,if g.sd=true then 4 else 1,(g.bt n).length⟩
def jw:St→List Evt→Option St
 | s,[]=>some s
 | s,e::l=>if cS s e=0 then jw (bJ s e) l else none
def ri (s:St) (g:Sg) (t:St):Prop:=g.bq=s.q∧g.ba=s.a∧g.evs ≠ []∧okL g.c0 g.evs∧jw s g.evs=some t
def gS:St→List Sg→St→Prop
 | s,[],t=>s=t
 | s,g::l,t => ∃ u,ri s g u∧(l ≠ []→g.sd=true)∧gS u l t
def bK:Nat→List Fil→List Sg→Prop
 | _,[],[]=>True
 | n,f::fs,g::gs=>f.nm=aA (n+1)∧f.all=g.bt (n+1)∧bK (n+1) fs gs
 | _,_,_=>False
def aQ:Nat→List Sg→List Prt
 | _,[] => []
 | n,g::l=>g.pr (n+1)::aQ (n+1) l
theorem iG (s:St) (e:Evt):(bJ s e).q=e.q∧(bJ s e).a=e.a:=by
 unfold bJ
 split
 ·exact⟨rfl,rfl⟩
 ·split<;>exact⟨rfl,rfl⟩
theorem gm:∀ (l:List Evt) (s t:St),cF s→jw s l=some t→cF t∧t.q=s.q+l.length
 | [],s,t,hs,h=>by
   simp only[jw,Option.some.injEq]at h
   subst h
   exact⟨hs,by simp⟩
 | e::l,s,t,hs,h=>by
   unfold jw at h
   by_cases a:cS s e=0
   ·rw[if_pos a]at h
    have:=gm l _ t (kj hs a) h
    refine⟨this.1,?_⟩
    rw[this.2,(iG s e).1,(fM a).2.1,List.length_cons]
    omega
   ·rw[if_neg a]at h;cases h
theorem wO:∀ (l:List Evt) (c:Cx) (s t:St),c.q=s.q→c.a=s.a→jw s l=some t→(eu c l).q=t.q∧(eu c l).a=t.a
 | [],c,s,t,h1,h2,h=>by
   simp only[jw,Option.some.injEq]at h
   subst h
   exact⟨h1,h2⟩
 | e::l,c,s,t,h1,h2,h=>by
   unfold jw at h
   by_cases b:cS s e=0
   ·rw[if_pos b]at h
    have:=iG s e
    exact wO l (bR c e) _ t (by rw[this.1];rfl) (by rw[this.2];rfl) h
   ·rw[if_neg b]at h;cases h
theorem ri.ctx {s t:St} {g:Sg} (h:ri s g t):g.c.q=t.q∧g.c.a=t.a:=wO _ _ s t h.1 h.2.1 h.2.2.2.2
theorem ri.right {s t:St} {g:Sg} (h:ri s g t) (e:cF s):aJ g.c0=true:=by
 obtain⟨f,a,d,c,b,i⟩:=e
 unfold Sg.c0
 rw[h.1,h.2.1]
 unfold aJ
 simp[a,d,c,b,dn]
theorem zU {s t:St} {g:Sg} (h:ri s g t) (f:cF s) (n:Nat) (j:1≤n) (i:n≤99999999) (d:g.evs.length≤100000):fW (g.bt n)=g.pr n:=by
 have hn:eZ (n:Int)=true:=by unfold eZ;simp;omega
 have b:=h.right f
 have a:bH (g.bt n) cM=((g.pr n).s,(g.pr n).st):=by
  unfold Sg.pr Sg.c Sg.c0 Sg.bt Sg.c0
  cases hd:g.sd with
  | false=>
    rw[qz hn b h.2.2.2.1 d]
    simp
  | true=>
    rw[nH hn b h.2.2.2.1 d]
    simp
 unfold fW
 have e:(bH (g.bt n) cM).1.size.toNat=(g.bt n).length:=by rw[a];simp[Sg.pr]
 rw[e,List.take_length,a]
 rfl
theorem qq:∀ (gs:List Sg) (fs:List Fil) (n:Nat) (s t:St) (acc:List Prt),bK n fs gs→gS s gs t→cF s→n+gs.length≤99999999→(∀ g ∈ gs,g.evs.length≤100000) →
 (gs ≠ [] → ∀ a,acc.getLast?=some a→a.st=4∧a.s.num=n∧a.s.c.q=s.q∧a.s.c.a=s.a)→fs.foldl bZ (acc,[])=(acc++aQ n gs,[])
 | [],[],n,s,t,acc,_,_,_,_,_,_=>by simp[aQ]
 | [],f::fs,n,s,t,acc,hf,_,_,_,_,_=>hf.elim
 | g::gs,[],n,s,t,acc,hf,_,_,_,_,_=>hf.elim
 | g::gs,f::fs,n,s,t,acc,⟨f1,f2,f3⟩,⟨u,g1,g2,g3⟩,hs,hn,hl,ha=>by
   have d:n+1≤99999999:=by simp at hn;omega
   have j:fW f.all=g.pr (n+1):=by rw[f2];exact zU g1 hs (n+1) (by omega) d (hl g (by simp))
   have b:iF f.nm=n+1:=by rw[f1];exact jM d
   have i:Eh (acc,[]) f:=by
    refine⟨rfl,by rw[j,b];rfl,fun a h=>?_⟩
    obtain⟨p,m,o,r⟩:=ha (by simp) a h
    rw[j]
    unfold uH Sg.pr
    simp only[p,m,o,r,g1.1,g1.2.1]
    simp
   have k:bZ (acc,[]) f=(acc ++ [g.pr (n+1)],[]):=by
    unfold bZ
    rw[if_neg (by omega),if_pos i,j]
   rw[List.foldl_cons,k,qq gs fs (n+1) u t (acc ++ [g.pr (n+1)]) f3 g3 (gm _ _ _ hs g1.2.2.2.2).1 (by simp at hn;omega) (fun x e=>hl x (by simp[e])) (fun l a h=>by
    rw[List.getLast?_append,List.getLast?_singleton,Option.some_or,Option.some.injEq]at h
    subst h
    have e:=g1.ctx
    unfold Sg.pr
    simp only[g2 l,if_true]
    exact⟨trivial,trivial,e.1,e.2⟩)]
   simp[aQ]
def mw (k:Int):List Evt→St→Option St
 | [],s=>some s
 | e::l,s=>if e.q≤k then mw k l s else if cS s e=0 then mw k l (bJ s e) else none
def oW (k:Int):List Prt→St→Option St
 | [],s=>some s
 | p::l,s=>if(p.s.evs.length:Int)=p.s.c.q-p.s.bq then(mw k p.s.evs s).bind (oW k l) else none
theorem sN (k:Int):∀ (l:List Evt) (s:St),k≤s.q→mw k l s=jw s l∨jw s l=none
 | [],s,_=>.inl rfl
 | e::l,s,h=>by
   unfold mw jw
   by_cases a:cS s e=0
   ·have:=(fM a).2.1
    rw[if_neg (by omega),if_pos a,if_pos a]
    exact sN k l _ (by rw[(iG s e).1];omega)
   ·exact .inr (if_neg a)
theorem qw (k:Int):∀ (gs:List Sg) (n:Nat) (s t:St),gS s gs t→cF s→k≤s.q→oW k (aQ n gs) s=some t
 | [],n,s,t,h,_,_=>by simp only[gS]at h;subst h;rfl
 | g::gs,n,s,t,⟨u,g1,g2,g3⟩,hs,hk=>by
   have a:=gm _ _ _ hs g1.2.2.2.2
   have b:=g1.ctx
   unfold aQ oW
   have d:((g.pr (n+1)).s.evs.length:Int)=(g.pr (n+1)).s.c.q-(g.pr (n+1)).s.bq:=by
    show(g.evs.length:Int)=g.c.q-g.bq
    rw[b.1,g1.1,a.2]
    omega
   rw[if_pos d]
   have e:mw k (g.pr (n+1)).s.evs s=some u:=by
    rcases sN k g.evs s hk with h | h
    ·rw[←g1.2.2.2.2];exact h
    ·rw[g1.2.2.2.2]at h;cases h
   rw[e]
   exact qw k gs (n+1) u t g3 a.1 (by rw[a.2];omega)
theorem qb:∀ (gs:List Sg) (n:Nat) (s t:St),gS s gs t → ∀ p,(aQ n gs).getLast?=some p→p.s.c.q=t.q∧p.s.c.a=t.a
 | [],n,s,t,h,p,hp=>by simp[aQ]at hp
 | [g],n,s,t,⟨u,g1,g2,g3⟩,p,hp=>by
   simp only[aQ,List.getLast?_singleton,Option.some.injEq]at hp
   subst hp
   simp only[gS]at g3
   subst g3
   exact g1.ctx
 | g::g'::gs,n,s,t,⟨u,g1,g2,g3⟩,p,hp=>qb (g'::gs) (n+1) u t g3 p (by simpa [aQ] using hp)
end
section
open Go.RowKit
theorem qM {pre post:List Fil} {x:Fil} (h:∀ d ∈ pre,d.nm≠x.nm):fF Fil.nm (pre++x::post) x.nm=pre.length:=
 mG (c:=x) (by simp) rfl (fun j d b a=>h d (by
  rw[List.getElem?_append_left b]at a
  exact List.mem_of_getElem? a))
theorem rA {pre post:List Fil} {x:Fil} (h:∀ d ∈ pre,d.nm≠x.nm):vh (pre++x::post) x.nm:=by
 unfold vh
 rw[qM h]
 exact⟨x,by simp,rfl⟩
theorem zC {pre post:List Fil} {x:Fil} (h:∀ d ∈ pre,d.nm≠x.nm) (bs:List UInt8):fA (.wr x.nm bs) (pre++x::post)=pre++⟨x.nm,x.su,x.lo++bs⟩::post:=by
 unfold fA
 simp only
 rw[qM h]
 simp
theorem Et {pre post:List Fil} {x:Fil} (h:∀ d ∈ pre,d.nm≠x.nm):fA (.sy x.nm) (pre++x::post)=pre++⟨x.nm,x.su++x.lo,[]⟩::post:=by
 unfold fA
 simp only
 rw[qM h]
 simp
theorem zF {pre post:List Fil} {nm:ByteArray} (h:∀ d ∈ pre,ltB d.nm nm=true) (b:∀ d ∈ post,ltB d.nm nm=false):fA (.mk nm) (pre++post)=pre++⟨nm,[],[]⟩::post:=by
 unfold fA
 simp only
 rw[nX (i:=pre.length) (by simp) (fun j d c a=>?_) (fun d a=>?_)]
 ·simp
 ·rw[List.getElem?_append_left c]at a
  exact h d (List.mem_of_getElem? a)
 ·rw[List.getElem?_append_right (Nat.le_refl _)]at a
  exact b d (List.mem_of_getElem? a)
theorem zG {pre post:List Fil} {nm:ByteArray} (h:∀ d ∈ pre,d.nm≠nm) (a:∀ d ∈ post,d.nm≠nm):findD (pre++post) nm = -1:=by
 unfold findD
 rw[jF (fun d b=>(List.mem_append.1 b).elim (h d) (a d)),if_neg (Nat.lt_irrefl _)]
theorem kC (l m:List Fil):aI (l++m)=aI l+aI m:=by unfold aI;rw[List.map_append,List.sum_append]
theorem dZ (x:Fil) (m:List Fil):aI (x::m)=x.all.length+aI m:=by unfold aI;rw[List.map_cons,List.sum_cons]
theorem oM (x:Fil):∀ l:List Fil,aI (eY Fil.nm x l)=x.all.length+aI l
 | []=>by simp[eY,aI]
 | y::l=>by
   unfold eY
   split
   ·rw[dZ,oM x l,dZ];omega
   ·rw[dZ]
theorem qC {l:List Fil} {i:Nat} {x y:Fil} (h:l[i]?=some x):aI (l.set i y)+x.all.length=aI l+y.all.length:=by
 obtain⟨a,rfl⟩:=List.getElem?_eq_some_iff.1 h
 have b:l.set i y=l.take i++y::l.drop (i+1):=by rw[List.set_eq_take_append_cons_drop,if_pos a]
 have c:l=l.take i++l[i]::l.drop (i+1):=by rw[List.getElem_cons_drop,List.take_append_drop]
 rw[b]
 conv=>rhs;rw[c]
 rw[kC,dZ,kC,dZ]
 omega
theorem qN {room:Int} {s:Stp} {fs:List Fil} (h:eO ⟨fs,room⟩) (o:jD room s fs):eO ⟨fA s fs,room⟩∧(aI (fA s fs):Int)=aI fs+(match s with | .wr _ bs=>(bs.length:Int) | _=>0)∧(fA s fs).length=fs.length+(match s with | .mk _=>1 | _=>0):=by
 obtain⟨l,j,k,g,i,p⟩:=h
 simp only at l j k g i p
 cases s with
 | mk nm=>
   obtain⟨q,m,t⟩:=o
   have c:=oM ⟨nm,[],[]⟩ fs
   have r:(⟨nm,[],[]⟩:Fil).all.length=0:=rfl
   rw[r,Nat.zero_add]at c
   have n:∀ d ∈ fs,d.nm≠nm:=by
    refine mQ ?_
    unfold findD at m
    split at m
    ·omega
    ·exact List.getElem?_eq_none_iff.2 (by omega)
   unfold fA
   refine⟨⟨by rw[ke];omega,j,k,fun f a=>?_,tD i n,by rw[c];exact p⟩,by rw[c];simp,by rw[ke]⟩
   rcases oy.1 a with rfl | a
   ·exact q
   ·exact g f a
 | wr nm bs=>
   obtain⟨⟨x,b,rfl⟩,m⟩:=o
   unfold fA
   simp only[b]
   have c:=qC (y:=⟨x.nm,x.su,x.lo++bs⟩) b
   have e:(⟨x.nm,x.su,x.lo++bs⟩:Fil).all.length=x.all.length+bs.length:=by simp[Fil.all];omega
   rw[e]at c
   refine⟨⟨by rw[List.length_set];exact l,j,k,fun f a=>?_,i.set b rfl,by show(aI (fs.set _ _):Int)≤room;omega⟩,by omega,by simp⟩
   rcases List.mem_or_eq_of_mem_set a with a | rfl
   ·exact g f a
   ·exact g x (List.mem_of_getElem? b)
 | sy nm=>
   obtain⟨x,b,rfl⟩:=o
   unfold fA
   simp only[b]
   have c:=qC (y:=⟨x.nm,x.su++x.lo,[]⟩) b
   have e:(⟨x.nm,x.su++x.lo,[]⟩:Fil).all.length=x.all.length:=by simp[Fil.all]
   rw[e]at c
   refine⟨⟨by rw[List.length_set];exact l,j,k,fun f a=>?_,i.set b rfl,by show(aI (fs.set _ _):Int)≤room;omega⟩,by omega,by simp⟩
   rcases List.mem_or_eq_of_mem_set a with a | rfl
   ·exact g f a
   ·exact g x (List.mem_of_getElem? b)
theorem bK.len:∀ {n:Nat} {fs:List Fil} {gs:List Sg},bK n fs gs→fs.length=gs.length
 | _,[],[],_=>rfl
 | n,f::fs,g::gs,h=>by rw[List.length_cons,List.length_cons,bK.len h.2.2]
 | _,[],_::_,h=>h.elim
 | _,_::_,[],h=>h.elim
theorem bK.nm:∀ {n:Nat} {fs:List Fil} {gs:List Sg},bK n fs gs → ∀ f ∈ fs,∃ m,n<m∧m≤n+gs.length∧f.nm=aA m
 | _,[],[],_,f,hf=>by cases hf
 | n,f::fs,g::gs,h,x,a=>by
   rcases List.mem_cons.1 a with rfl | a
   ·exact⟨n+1,by omega,by simp,h.1⟩
   ·obtain⟨m,d,c,b⟩:=bK.nm h.2.2 x a
    exact⟨m,by omega,by rw[List.length_cons];omega,b⟩
 | _,[],_::_,h,_,_=>h.elim
 | _,_::_,[],h,_,_=>h.elim
theorem bK.snoc:∀ {n:Nat} {fs:List Fil} {gs:List Sg} {f:Fil} {g:Sg},bK n fs gs→f.nm=aA (n+gs.length+1)→f.all=g.bt (n+gs.length+1)→bK n (fs ++ [f]) (gs ++ [g])
 | n,[],[],f,g,_,h1,h2=>⟨h1,h2,trivial⟩
 | n,x::fs,y::gs,f,g,h,h1,h2=>by
   refine⟨h.1,h.2.1,bK.snoc h.2.2 ?_ ?_⟩
   ·rw[h1,List.length_cons];congr 1;omega
   ·rw[h2,List.length_cons];congr 1;omega
 | _,[],_::_,_,_,h,_,_=>h.elim
 | _,_::_,[],_,_,h,_,_=>h.elim
theorem bK.last:∀ {n:Nat} {fs:List Fil} {gs:List Sg} {g:Sg},bK n fs (gs ++ [g]) → ∃ fa f,fs=fa ++ [f]∧bK n fa gs∧f.nm=aA (n+gs.length+1)∧f.all=g.bt (n+gs.length+1)
 | n,[],gs,g,h=>by cases gs<;>exact h.elim
 | n,x::fs,[],g,h=>by
   obtain⟨c,a,b⟩:=h
   cases fs with
   | nil=>exact⟨[],x,rfl,trivial,c,a⟩
   | cons _ _=>exact b.elim
 | n,x::fs,y::gs,g,h=>by
   obtain⟨fa,f,c,a,b,d⟩:=bK.last h.2.2
   refine⟨x::fa,f,by rw[c];rfl,⟨h.1,h.2.1,a⟩,?_,?_⟩
   ·rw[b,List.length_cons];congr 1;omega
   ·rw[d,List.length_cons];congr 1;omega
theorem eo:∀ (n:Nat) (gs:List Sg) (g:Sg),aQ n (gs ++ [g])=aQ n gs ++ [g.pr (n+gs.length+1)]
 | n,[],g=>rfl
 | n,x::gs,g=>by
   simp only[List.cons_append,aQ,eo (n+1) gs g,List.length_cons]
   congr 4
   omega
theorem ep:∀ (gs:List Sg) (g:Sg) (s t:St),gS s (gs ++ [g]) t ↔ ∃ u,gS s gs u∧(∀ x ∈ gs,x.sd=true)∧ri u g t
 | [],g,s,t=>by
   constructor
   ·rintro⟨u,b,_,a⟩
    simp only[gS]at a
    subst a
    exact⟨s,rfl,by simp,b⟩
   ·rintro⟨u,b,_,a⟩
    simp only[gS]at b
    subst b
    exact⟨t,a,by simp,rfl⟩
 | x::gs,g,s,t=>by
   constructor
   ·rintro⟨u,b,a,f⟩
    obtain⟨v,d,c,e⟩:=(ep gs g u t).1 f
    refine⟨v,⟨u,b,fun _=>a (by simp),d⟩,fun y hy=>?_,e⟩
    rcases List.mem_cons.1 hy with rfl | hy
    ·exact a (by simp)
    ·exact c y hy
   ·rintro⟨v,⟨u,b,a,d⟩,c,e⟩
    exact⟨u,b,fun _=>c x (by simp),(ep gs g u t).2 ⟨v,d,fun y hy=>c y (by simp[hy]),e⟩⟩
theorem qD:∀ (l:List Evt) (e:Evt) (s t:St),jw s l=some t→cS t e=0→jw s (l ++ [e])=some (bJ t e)
 | [],e,s,t,h,hm=>by
   simp only[jw,Option.some.injEq]at h
   subst h
   simp[jw,hm]
 | x::l,e,s,t,h,hm=>by
   unfold jw at h
   rw[List.cons_append]
   unfold jw
   by_cases a:cS s x=0
   ·rw[if_pos a]at h ⊢
    exact qD l e _ t h hm
   ·rw[if_neg a]at h;cases h
theorem zY {gs:List Sg} {g:Sg} {s t:St} {e:Evt} (h:gS s (gs ++ [g]) t) (a:cS t e=0) (i:ei g.c e=0):gS s (gs ++ [{ g with evs:=g.evs ++ [e] }]) (bJ t e):=by
 obtain⟨u,k,b,j,d,m,l,f⟩:=(ep gs g s t).1 h
 exact(ep gs _ s _).2 ⟨u,k,b,j,d,by simp,(oO _ _ _).2 ⟨l,i⟩,qD _ _ _ _ f a⟩
theorem yH {gs:List Sg} {g:Sg} {s t:St} (h:gS s (gs ++ [g]) t):gS s (gs ++ [{ g with sd:=true }]) t:=by
 obtain⟨u,c,a,b⟩:=(ep gs g s t).1 h
 exact(ep gs _ s _).2 ⟨u,c,a,b⟩
theorem fG {s:St} {e:Evt} (j:cF s) (k:cS s e=0):ei ⟨s.q,s.a,[]⟩ e=0:=by
 obtain⟨d,m,l,-⟩:=fM k
 obtain⟨n,b,i,g,c,o⟩:=j
 have f:aJ ⟨s.q,s.a,[]⟩=true:=by unfold aJ;simp[b,i,g,c,dn]
 unfold ei
 rw[f]
 simp only
 split
 ·rename_i h;simp at h
 split
 ·exact d
 split
 ·rename_i h;omega
 split
 ·rename_i h;omega
 ·rename_i h;simp
theorem uU {gs:List Sg} {s t:St} {e:Evt} (d:cF t) (h:gS s gs t) (c:∀ x ∈ gs,x.sd=true) (b:cS t e=0):gS s (gs ++ [⟨t.q,t.a,[e],false⟩]) (bJ t e):=
 (ep gs _ s _).2 ⟨t,h,c,rfl,rfl,by simp,⟨fG d b,trivial⟩,by simp[jw,b]⟩
theorem Ba (n:Nat) (g:Sg) (e:Evt) (h:g.sd=false):Sg.bt n { g with evs:=g.evs ++ [e] }=g.bt n++av 2 (aN g.c e):=by
 unfold Sg.bt fR Sg.c Sg.c0
 simp only[h]
 rw[lK]
 simp
theorem Di (n:Nat) (g:Sg) (h:g.sd=false):Sg.bt n { g with sd:=true }=g.bt n++av 3 (aU (g.evs.length:Int) g.c.q g.c.a):=by
 unfold Sg.bt fR Sg.c Sg.c0
 simp only[h]
 simp
theorem EN (n:Nat) (q a:Int):Sg.bt n ⟨q,a,[],false⟩=av 1 (aW++aU n q a):=by
 unfold Sg.bt fR Sg.c0
 simp[eA]
end
section
open Go.RowKit
def Beh (post:List Fil):Prop := ∀ d ∈ post,∀ n,n≤99999999→ltB (aA n) d.nm=true
structure WI (post:List Fil) (room:Int) (fs:List Fil) (sg:List Sgi) (c:Cx) (gs:List Sg) (st:St):Prop where
 fa:∃ fa,fs=fa++post∧bK 0 fa gs
 goes:gS ⟨[],0,0⟩ gs st
 sg:sg=(aQ 0 gs).map aC
 c:c=ah (aQ 0 gs)
 dk:eO ⟨fs,room⟩
theorem ki:∀ (gs:List Sg) (s t:St),gS s gs t→cF s→cF t
 | [],s,t,h,hs=>by simp only[gS]at h;subst h;exact hs
 | g::gs,s,t,⟨u,h1,_,h2⟩,hs=>ki gs u t h2 (gm _ _ _ hs h1.2.2.2.2).1
theorem mO (a b:List Stp) (fs:List Fil):cU (a++b) fs=cU b (cU a fs):=by unfold cU;rw[List.foldl_append]
theorem iD (room:Int):∀ (a b:List Stp) (fs:List Fil),fo room a fs→fo room b (cU a fs)→fo room (a++b) fs
 | [],b,fs,_,h=>h
 | s::a,b,fs,h,h2=>⟨h.1,h.2.1,iD room a b _ h.2.2 h2⟩
theorem zx {n m:Nat} (hn:n≤99999999) (a:m≤99999999) (h:aA n=aA m):n=m:=by rw[←jM hn,h,jM a]
theorem bK.ne {fa:List Fil} {gs:List Sg} (h:bK 0 fa gs) (hn:gs.length+1≤99999999):(∀ d ∈ fa,d.nm≠aA (gs.length+1)) ∧ ∀ d ∈ fa,ltB d.nm (aA (gs.length+1))=true:=by
 constructor
 ·intro d a e
  obtain⟨m,f,c,b⟩:=h.nm d a
  have:=zx (by omega) hn (b.symm.trans e)
  omega
 ·intro d a
  obtain⟨m,f,c,b⟩:=h.nm d a
  rw[b]
  exact Dj (by omega) hn
theorem gY (n:Nat) (g:Sg):aC (g.pr n)=⟨n,g.bq,g.c.q,g.ba,g.c.a,((g.bt n).length:Int),g.sd⟩:=by
 unfold aC Sg.pr
 cases g.sd<;>simp
theorem eM (gs:List Sg) (g:Sg):ah (aQ 0 (gs ++ [g]))=if g.sd=true then⟨0,0,[]⟩ else g.c:=by
 unfold ah
 rw[eo,List.getLast?_append,List.getLast?_singleton]
 unfold Sg.pr
 cases g.sd<;>simp
theorem rI {post:List Fil} {room:Int} {fs:List Fil} {l:List Sg} {g g':Sg} {bs:List UInt8} (h:∃ fa,fs=fa++post∧bK 0 fa (l ++ [g])) (c:eO ⟨fs,room⟩) (hn:l.length+1≤99999999) (m:(aI fs:Int)+bs.length≤room) (q:g'.bt (l.length+1)=g.bt (l.length+1)++bs):
 fo room [.wr (aA (l.length+1)) bs] fs∧(∃ fa,cU [.wr (aA (l.length+1)) bs] fs=fa++post∧bK 0 fa (l ++ [g']))∧eO ⟨cU [.wr (aA (l.length+1)) bs] fs,room⟩∧aI (cU [.wr (aA (l.length+1)) bs] fs)=aI fs+bs.length∧(cU [.wr (aA (l.length+1)) bs] fs).length=fs.length:=by
 obtain⟨fb,rfl,o⟩:=h
 obtain⟨fa,f,rfl,i,a,j⟩:=o.last
 rw[Nat.zero_add]at a j
 obtain⟨b,-⟩:=i.ne hn
 rw[←a]at b ⊢
 rw[List.append_assoc,List.singleton_append]at c m ⊢
 have d:jD room (.wr f.nm bs) (fa++f::post):=⟨rA b,m⟩
 obtain⟨r,p,n⟩:=qN c d
 have e:=zC (post:=post) b bs
 have k:cU [.wr f.nm bs] (fa++f::post)=fA (.wr f.nm bs) (fa++f::post):=rfl
 refine⟨⟨c,d,trivial⟩,⟨fa ++ [⟨f.nm,f.su,f.lo++bs⟩],by rw[k,e];simp,i.snoc (by simpa using a) ?_⟩,by rw[k];exact r,by rw[k];simp only at p;omega,by rw[k];exact n⟩
 rw[Nat.zero_add,q,←j]
 simp[Fil.all]
theorem xh {post:List Fil} {room:Int} {fs:List Fil} {l:List Sg} {g:Sg} (h:∃ fa,fs=fa++post∧bK 0 fa (l ++ [g])) (c:eO ⟨fs,room⟩) (hn:l.length+1≤99999999):
 fo room [.sy (aA (l.length+1))] fs∧(∃ fa,cU [.sy (aA (l.length+1))] fs=fa++post∧bK 0 fa (l ++ [g]))∧eO ⟨cU [.sy (aA (l.length+1))] fs,room⟩∧aI (cU [.sy (aA (l.length+1))] fs)=aI fs∧(cU [.sy (aA (l.length+1))] fs).length=fs.length:=by
 obtain⟨fb,rfl,n⟩:=h
 obtain⟨fa,f,rfl,i,a,j⟩:=n.last
 rw[Nat.zero_add]at a j
 obtain⟨b,-⟩:=i.ne hn
 rw[←a]at b ⊢
 rw[List.append_assoc,List.singleton_append]at c ⊢
 have d:jD room (.sy f.nm) (fa++f::post):=rA b
 obtain⟨p,o,m⟩:=qN c d
 have e:=Et (post:=post) b
 have k:cU [.sy f.nm] (fa++f::post)=fA (.sy f.nm) (fa++f::post):=rfl
 refine⟨⟨c,d,trivial⟩,⟨fa ++ [⟨f.nm,f.su++f.lo,[]⟩],by rw[k,e];simp,i.snoc (by simpa using a) ?_⟩,by rw[k];exact p,by rw[k];simp only at o;omega,by rw[k];exact m⟩
 rw[Nat.zero_add,←j]
 simp[Fil.all]
theorem Dl {post:List Fil} {room:Int} {fs:List Fil} {gs:List Sg} {g:Sg} {bs:List UInt8} (h:∃ fa,fs=fa++post∧bK 0 fa gs) (t:Beh post) (i:eO ⟨fs,room⟩) (hn:gs.length+1≤99999999) (u:fs.length<64) (y:(aI fs:Int)+bs.length≤room) (v:g.bt (gs.length+1)=bs):
 fo room [.mk (aA (gs.length+1)),.wr (aA (gs.length+1)) bs] fs∧(∃ fa,cU [.mk (aA (gs.length+1)),.wr (aA (gs.length+1)) bs] fs=fa++post∧bK 0 fa (gs ++ [g]))∧eO ⟨cU [.mk (aA (gs.length+1)),.wr (aA (gs.length+1)) bs] fs,room⟩ ∧
  aI (cU [.mk (aA (gs.length+1)),.wr (aA (gs.length+1)) bs] fs)=aI fs+bs.length∧(cU [.mk (aA (gs.length+1)),.wr (aA (gs.length+1)) bs] fs).length=fs.length+1:=by
 obtain⟨fa,rfl,n⟩:=h
 obtain⟨b,k⟩:=n.ne hn
 have p:∀ d ∈ post,ltB (aA (gs.length+1)) d.nm=true:=fun d f=>t d f _ hn
 have c:jD room (.mk (aA (gs.length+1))) (fa++post):=⟨DU hn,zG b (fun d f e=>jj (p d f) e.symm),u⟩
 obtain⟨l,o,m⟩:=qN i c
 have e:=zF (post:=post) k (fun d f=>kz (p d f))
 simp only at o m
 rw[e]at l o m
 have a:jD room (.wr (aA (gs.length+1)) bs) (fa++⟨aA (gs.length+1),[],[]⟩::post):=⟨rA (x:=⟨aA (gs.length+1),[],[]⟩) b,by omega⟩
 obtain⟨s,w,r⟩:=qN l a
 have q:=zC (post:=post) (x:=⟨aA (gs.length+1),[],[]⟩) b bs
 simp only at q w r
 have j:cU [.mk (aA (gs.length+1)),.wr (aA (gs.length+1)) bs] (fa++post)=fA (.wr (aA (gs.length+1)) bs) (fa++⟨aA (gs.length+1),[],[]⟩::post):=by
  show fA (.wr (aA (gs.length+1)) bs) (fA (.mk (aA (gs.length+1))) (fa++post))=_
  rw[e]
 refine⟨⟨i,c,by rw[e];exact⟨l,a,trivial⟩⟩,⟨fa ++ [⟨aA (gs.length+1),[],[]++bs⟩],by rw[j,q];simp,n.snoc (by simp) ?_⟩,by rw[j];exact s,by rw[j];omega,by rw[j];omega⟩
 rw[Nat.zero_add,v]
 simp[Fil.all]
theorem WI.sealW {post:List Fil} {room:Int} {fs:List Fil} {n:List Sgi} {c:Cx} {l:List Sg} {g:Sg} {st:St} (h:WI post room fs n c (l ++ [g]) st) (u:g.sd=false) (hn:l.length+1≤99999999)
 (m:(aI fs:Int)+(av 3 (aU (g.evs.length:Int) g.c.q g.c.a)).length≤room):
 fo room [.wr (aA (l.length+1)) (av 3 (aU (g.evs.length:Int) g.c.q g.c.a)),.sy (aA (l.length+1))] fs ∧
 WI post room (cU [.wr (aA (l.length+1)) (av 3 (aU (g.evs.length:Int) g.c.q g.c.a)),.sy (aA (l.length+1))] fs)
  ((aQ 0 l).map aC ++ [{ aC (g.pr (l.length+1)) with sz:=((g.bt (l.length+1)).length:Int)+(av 3 (aU (g.evs.length:Int) g.c.q g.c.a)).length,sd:=true }]) ⟨0,0,[]⟩ (l ++ [{ g with sd:=true }]) st ∧
 aI (cU [.wr (aA (l.length+1)) (av 3 (aU (g.evs.length:Int) g.c.q g.c.a)),.sy (aA (l.length+1))] fs)=aI fs+(av 3 (aU (g.evs.length:Int) g.c.q g.c.a)).length∧(cU [.wr (aA (l.length+1)) (av 3 (aU (g.evs.length:Int) g.c.q g.c.a)),.sy (aA (l.length+1))] fs).length=fs.length:=by
 generalize d:av 3 (aU (g.evs.length:Int) g.c.q g.c.a)=bs at *
 have b:Sg.bt (l.length+1) { g with sd:=true }=g.bt (l.length+1)++bs:=by rw[Di _ _ u,d]
 obtain⟨s,k,r,t,v⟩:=rI (g':={ g with sd:=true }) h.fa h.dk hn m b
 obtain⟨o,w,j,i,p⟩:=xh k r hn
 have e:([.wr (aA (l.length+1)) bs,.sy (aA (l.length+1))]:List Stp) = [.wr (aA (l.length+1)) bs] ++ [.sy (aA (l.length+1))]:=rfl
 rw[e,mO]
 refine⟨iD _ _ _ _ s o,⟨w,yH h.goes,?_,by rw[eM];rfl,j⟩,by rw[i,t],by rw[p,v]⟩
 rw[eo,List.map_append,Nat.zero_add,List.map_singleton,gY,gY,b]
 have f:Sg.c { g with sd:=true }=g.c:=rfl
 simp[f]
theorem WI.more {post:List Fil} {room:Int} {fs:List Fil} {o:List Sgi} {c:Cx} {l:List Sg} {g:Sg} {st:St} {e:Evt} (h:WI post room fs o c (l ++ [g]) st) (i:g.sd=false) (hn:l.length+1≤99999999) (k:cS st e=0) (j:ei g.c e=0)
 (n:(aI fs:Int)+(av 2 (aN g.c e)).length≤room):
 fo room [.wr (aA (l.length+1)) (av 2 (aN g.c e))] fs ∧
 WI post room (cU [.wr (aA (l.length+1)) (av 2 (aN g.c e))] fs)
  ((aQ 0 l).map aC ++ [{ aC (g.pr (l.length+1)) with sz:=((g.bt (l.length+1)).length:Int)+(av 2 (aN g.c e)).length,la:=e.q,tt:=e.a }]) (bR g.c e) (l ++ [{ g with evs:=g.evs ++ [e] }]) (bJ st e) ∧
 aI (cU [.wr (aA (l.length+1)) (av 2 (aN g.c e))] fs)=aI fs+(av 2 (aN g.c e)).length∧(cU [.wr (aA (l.length+1)) (av 2 (aN g.c e))] fs).length=fs.length:=by
 generalize f:av 2 (aN g.c e)=bs at *
 have d:Sg.bt (l.length+1) { g with evs:=g.evs ++ [e] }=g.bt (l.length+1)++bs:=by rw[Ba _ _ _ i,f]
 obtain⟨r,m,p,s,t⟩:=rI (g':={ g with evs:=g.evs ++ [e] }) h.fa h.dk hn n d
 have b:Sg.c { g with evs:=g.evs ++ [e] }=bR g.c e:=nv _ _ _
 refine⟨r,⟨m,zY h.goes k j,?_,by rw[eM,b];simp[i],p⟩,s,t⟩
 rw[eo,List.map_append,Nat.zero_add,List.map_singleton,gY,gY,d,b]
 simp[bR]
theorem WI.beg {post:List Fil} {room:Int} {fs:List Fil} {sg:List Sgi} {c:Cx} {gs:List Sg} {st:St} {e:Evt} (h:WI post room fs sg c gs st) (n:Beh post) (z:∀ x ∈ gs,x.sd=true) (hn:gs.length+1≤99999999) (w:fs.length<64) (o:cS st e=0)
 (C:(aI fs:Int)+(av 1 (aW++aU ((gs.length+1:Nat):Int) st.q st.a)).length+(av 2 (aN ⟨st.q,st.a,[]⟩ e)).length≤room):
 fo room [.mk (aA (gs.length+1)),.wr (aA (gs.length+1)) (av 1 (aW++aU ((gs.length+1:Nat):Int) st.q st.a)),.wr (aA (gs.length+1)) (av 2 (aN ⟨st.q,st.a,[]⟩ e))] fs ∧
 WI post room (cU [.mk (aA (gs.length+1)),.wr (aA (gs.length+1)) (av 1 (aW++aU ((gs.length+1:Nat):Int) st.q st.a)),.wr (aA (gs.length+1)) (av 2 (aN ⟨st.q,st.a,[]⟩ e))] fs)
  (sg ++ [⟨((gs.length+1:Nat):Int),st.q,e.q,st.a,e.a,((av 1 (aW++aU ((gs.length+1:Nat):Int) st.q st.a)).length:Int)+(av 2 (aN ⟨st.q,st.a,[]⟩ e)).length,false⟩]) (bR ⟨st.q,st.a,[]⟩ e) (gs ++ [⟨st.q,st.a,[e],false⟩]) (bJ st e) ∧
 aI (cU [.mk (aA (gs.length+1)),.wr (aA (gs.length+1)) (av 1 (aW++aU ((gs.length+1:Nat):Int) st.q st.a)),.wr (aA (gs.length+1)) (av 2 (aN ⟨st.q,st.a,[]⟩ e))] fs)=aI fs+(av 1 (aW++aU ((gs.length+1:Nat):Int) st.q st.a)).length+(av 2 (aN ⟨st.q,st.a,[]⟩ e)).length ∧
 (cU [.mk (aA (gs.length+1)),.wr (aA (gs.length+1)) (av 1 (aW++aU ((gs.length+1:Nat):Int) st.q st.a)),.wr (aA (gs.length+1)) (av 2 (aN ⟨st.q,st.a,[]⟩ e))] fs).length=fs.length+1:=by
 have i:=ki _ _ _ h.goes dD
 generalize k:av 1 (aW++aU ((gs.length+1:Nat):Int) st.q st.a)=b1 at *
 generalize j:av 2 (aN ⟨st.q,st.a,[]⟩ e)=b2 at *
 have d:Sg.bt (gs.length+1) ⟨st.q,st.a,[],false⟩=b1:=by rw[EN,k]
 have b:Sg.bt (gs.length+1) ⟨st.q,st.a,[e],false⟩=Sg.bt (gs.length+1) ⟨st.q,st.a,[],false⟩++b2:=by
  rw[←j]
  exact Ba (gs.length+1) ⟨st.q,st.a,[],false⟩ e rfl
 obtain⟨y,r,u,l,B⟩:=Dl (g:=⟨st.q,st.a,[],false⟩) (bs:=b1) h.fa n h.dk hn w (by omega) d
 obtain⟨s,t,v,m,A⟩:=rI (g':=⟨st.q,st.a,[e],false⟩) r u hn (by rw[l];omega) b
 have p:([.mk (aA (gs.length+1)),.wr (aA (gs.length+1)) b1,.wr (aA (gs.length+1)) b2]:List Stp) = [.mk (aA (gs.length+1)),.wr (aA (gs.length+1)) b1] ++ [.wr (aA (gs.length+1)) b2]:=rfl
 rw[p,mO]
 have f:Sg.c ⟨st.q,st.a,[e],false⟩=bR ⟨st.q,st.a,[]⟩ e:=rfl
 refine⟨iD _ _ _ _ y s,⟨t,uU i h.goes z o,?_,by rw[eM];rfl,v⟩,by rw[m,l],by rw[A,B]⟩
 rw[h.sg,eo,List.map_append,Nat.zero_add,List.map_singleton,gY,b,d,f]
 simp[bR]
end
section
open Go.RowKit
abbrev jnA (A:Option Addr) (n cp:Nat) (room b age:Int) (S:Option Addr) (m mc:Nat) (q a:Int) (N:Option Addr) (nn cn:Nat) (C:Option Addr) (k ck:Nat) (sq sa sure kept:Int) (shut:Bool):List Value:=
 [.slice A n cp,.int .i64 room,.int .i64 (-1),.bool false,.int .i64 b,.int .i64 age,.slice S m mc,.int .i64 q,.int .i64 a,.slice N nn cn,.slice C k ck,.int .i64 sq,.int .i64 sa,.int .i64 sure,.int .i64 kept,.bool shut]
end
end Go.Proofs.YtpokkciheejeiaaGreatDoor
