/- Lemmas and contracts that the proof of TopCut uses, part 13 of 16: each is a theorem for every input that its premises allow. -/
import Derived.Test.YtpokkciheejeiaaGreatDoorTuL
set_option linter.unusedVariables false
set_option linter.unusedSimpArgs false
set_option maxRecDepth 100000
namespace Go.Proofs.YtpokkciheejeiaaGreatDoor
section
open Go.RowKit
theorem yj {α β γ δ:Type} {G:α→β→γ→δ→Prop} {T:Prop} (a:Hid (∀ x y z u,G x y z u)→T) (key:∀ x y z u,G x y z u):T:=a key
theorem tLd {P:Program} {o:Oper} {a:Act} {w:World} {K':Act→World→Prop} {Q:Exit→Act→World→Prop} {p:Addr} {ty:TypeId} {x:Operand} {cs:List Value} (h:At w p cs) (b:K' (a.put o.dst (.agg cs.toArray)) w) (c:o.op = .load ty x:=by rfl) (hx:a.eval x = .pointer (some p):=by rfl) (hT:lM P ty cs.length=true:=by kernel_rfl) (hw:Region.wanted o (yielded #[] a.tmps)=true:=by rfl) (ops:Array Oper:=#[]):
 Oper.wp P o a w K' Q:=by
 unfold Oper.wp
 rw[aM (ev:=a.eval) h c hx hT]
 exact b
theorem zI (ps:List Prt) (os:List ByteArray):(dK ps os).length≤os.length+ps.length+1:=by
 have a:=yq ps.reverse
 have b:(jC ps).length≤1:=by
  unfold jC
  split
  ·split<;>simp
  ·simp
 unfold dK
 rw[List.length_append,List.length_append,List.length_map,List.length_reverse]
 rw[List.length_reverse]at a
 omega
set_option maxHeartbeats 4000000 in
theorem rC (fs:List Fil) (room:Int) (ps:List Prt) (os:List ByteArray) (k0 t:St) (m:cR fs room ps os k0 t) (j:os.length≤64) (f:∀ p ∈ ps,(1≤p.s.num∧p.s.num≤99999999)∧0≤p.s.size) (hrun:gm room (dK ps os) fs) (b g:Int) (E:dH b g=true) (A:Option Addr) (n z:Nat) (X:List Nat) (w:World) (hX:XOk X w) (L:Sl ax w X A n z fs) (C:aV w):
 Calls Tryz.prog 8 #[.agg #[.slice A n z,.int .i64 room,.int .i64 (-1),.bool false],.agg #[.int .i64 b,.int .i64 g]] w (JPc (dX (dK ps os) fs) room b g (ps.map aD) (aa ps) t t.q k0.q false 0 X w):=by
 have d:=m.len64
 have ad:=zI ps os
 have v:=Lib.hid m
 clear m
 go_enter Tryz.func8,Tryz.ntmps8
 go_upto_region 1 with(fail)
 refine(hstart hX).cw fun W K=>?_
 have K:=K.ksl0 L
 clear L
 go_wp2_with (first | refine K.ld 2 rfl ?_)
 refine(eZ ⟨fs,room⟩ A n z _ _ K.xok (K.sl 0 rfl) v.out.dk).mono ?_
 rintro e w1 ⟨rfl,c⟩
 have K:=K.on c
 clear c
 go_wp2_with (first | refine bF (K.at_ 1 rfl) ?_)
 refine(rI b g _).mono ?_
 rw[E]
 rintro e w2 ⟨rfl,c⟩
 have K:=K.on c
 clear c
 have c2:=K.r 2 rfl
 go_upto_region 5 with(fail)
 clear c2
 go_wp2_with (first | refine K.ld 2 rfl ?_)
 refine(wJ fs room ps os k0 t v.out A n z _ _ K.xok (K.sl 0 rfl) (C.on K.below)).mono ?_
 rintro e w3 ⟨B,u,bc,O,on,F,I,J,y,rfl,S,R,H,ab,c⟩
 have K:=(((K.on c).ksl R).ksl H).ksl S
 clear c S R H
 go_upto_region 6 with(refine K.lw fun W K=>?_;refine K.sr 0 rfl fun W K=>?_)
 have c0:=K.r 0 rfl
 go_upto_region 8 with(fail)
 clear c0
 have K:=K.mv 3 rfl
 refine yj (α:=World) (β:=Option Addr) (γ:=Nat) (δ:=Nat) (G:=?G) ?main ?key
 case main=>
  intro key
  refine K.rgt (fun V h=>h.tl) fun W K=>?_
  refine tC2 0 1 (fun K' hK=>?_) (fun K' hK=>?_)
  ·refine(if_pos (by rfl)).mpr ?_
   refine tLd (K.at_ 0 rfl) ?_
   refine hK.out _ _ K.tl fun _=>?_
   clear hK K'
   try simp only[Act.put,an,ai,aj]
   refine tC 1 fun K' hK=>?_
   refine(if_pos (by rfl)).mpr ?_
   refine tLd (K.at_ 1 rfl) ?_
   refine hK.out _ _ K.tl fun _=>?_
   clear hK K'
   try simp only[Act.put,an,ai,aj]
   refine tC 2 fun K' hK=>?_
   go_simp
   refine(vV _ _ _ _ _ ps os d j f B u bc O on F _ _ K.xok (K.sl 0 rfl) (K.sl 2 rfl) (C.on K.below)).mono ?_
   rintro e o ⟨Q,l,k,rfl,i,c⟩
   have K:=(K.on c).ksl i
   refine hK.out _ _ K.tl.ft fun _=>?_
   clear hK K' c i
   try simp only[Act.put,an,ai,aj]
   revert K
   exact key.out o Q l k
  ·refine(if_pos (by rfl)).mpr ?_
   refine tLd (K.at_ 1 rfl) ?_
   refine hK.out _ _ K.tl fun _=>?_
   clear hK K'
   try simp only[Act.put,an,ai,aj]
   refine tC2 0 2 (fun K' hK=>?_) (fun K' hK=>?_)
   ·refine(if_pos (by rfl)).mpr ?_
    refine tLd (K.at_ 0 rfl) ?_
    refine hK.out _ _ K.tl fun _=>?_
    clear hK K'
    try simp only[Act.put,an,ai,aj]
    refine tC 2 fun K' hK=>?_
    go_simp
    refine(vV _ _ _ _ _ ps os d j f B u bc O on F _ _ K.xok (K.sl 0 rfl) (K.sl 2 rfl) (C.on K.below)).mono ?_
    rintro e o ⟨Q,l,k,rfl,i,c⟩
    have K:=(K.on c).ksl i
    refine hK.out _ _ K.tl.ft fun _=>?_
    clear hK K' c i
    try simp only[Act.put,an,ai,aj]
    revert K
    exact key.out o Q l k
   ·go_simp
    refine(vV _ _ _ _ _ ps os d j f B u bc O on F _ _ K.xok (K.sl 0 rfl) (K.sl 2 rfl) (C.on K.below)).mono ?_
    rintro e o ⟨Q,l,k,rfl,i,c⟩
    have K:=(K.on c).ksl i
    refine hK.out _ _ K.tl.ft fun _=>?_
    clear hK K' c i
    try simp only[Act.put,an,ai,aj]
    refine tC 0 fun K' hK=>?_
    refine(if_pos (by rfl)).mpr ?_
    refine tLd (K.at_ 0 rfl) ?_
    refine hK.out _ _ K.tl.ft fun _=>?_
    clear hK K'
    try simp only[Act.put,an,ai,aj]
    revert K
    exact key.out o Q l k
 case key=>
 intro o Q l k K
 have D:=Lib.hid (K.sl 0 rfl).len
 refine tC 3 fun K' hK=>?_
 go_simp
 refine(FU (dK ps os) fs room Q l k A n z _ _ K.xok (K.sl 4 rfl) (K.sl 0 rfl) hrun (by have:=D.out;omega)).mono ?_
 rintro e w5 ⟨Z,T,rfl,M,c⟩
 have K:=(K.on c).ksl M
 refine hK.out _ _ K.tl.ft.ft fun _=>?_
 clear hK K' c M
 try simp only[Act.put,an,ai,aj]
 refine tK 4 K.tl.ft.ft ?_
 refine tK 5 K.tl.ft.ft ?_
 refine tK 6 K.tl.ft.ft ?_
 refine tSt 7 K 0 rfl (fun U h=>h.tl.ft.ft) fun U K=>?_
 refine tK 8 K.tl.ft.ft ?_
 refine tE ?_
 go_upto_region 11 with(fail)
 have K:=K.mv 2 rfl
 refine K.rgt (fun V h=>h.tl) fun W K=>?_
 refine tL 0 (fun _ h=>h.at_ 0 rfl) K.tl ?_ (hy:=fun w x=>aM x)
 refine tL 1 (fun _ h=>h.at_ 2 rfl) K.tl ?_ (hy:=fun w x=>aM x)
 refine tK 2 K.tl ?_
 refine tL 3 (fun _ h=>h.r 1 rfl) K.tl ?_
 refine tK 5 K.tl ?_
 refine tL 6 (fun _ h=>h.r 1 rfl) K.tl ?_
 refine tK 8 K.tl ?_
 refine tL 9 (fun _ h=>h.sub 1 rfl 3 [.slice I J y,.int .i64 t.q,.int .i64 t.a]) K.tl ?_ (hy:=fun w x=>aM x)
 refine tK 10 K.tl ?_
 refine tK 11 K.tl ?_
 refine tL 12 (fun _ h=>h.r 1 rfl) K.tl ?_
 refine tK 13 K.tl ?_
 refine tL 14 (fun _ h=>h.r 1 rfl) K.tl ?_
 refine tC 4 fun K' hK=>?_
 go_simp
 refine(Aq ps B u bc _ _ K.xok (K.sl 2 rfl) (by omega)).mono ?_
 rintro e w6 ⟨B4,c4,rfl,N,c⟩
 have K:=(K.on c).ksl N
 refine hK.out _ _ K.tl.ft fun _=>?_
 clear hK K' c N
 try simp only[Act.put,an,ai,aj]
 refine tC 7 fun K' hK=>?_
 go_simp
 refine(yl ps B u bc _ _ K.xok (K.sl 3 rfl) (by omega)).mono ?_
 rintro e w7 ⟨B6,Y,c6,rfl,P,ac,c⟩
 have K:=(K.on c).ksl P
 refine hK.out _ _ K.tl.ft.ft fun _=>?_
 clear hK K' c P
 try simp only[Act.put,an,ai,aj]
 refine tK 15 K.tl.ft.ft ?_
 refine tSt 16 K 0 rfl (fun U h=>h.tl.ft.ft) fun U K=>?_
 refine tK 17 K.tl.ft.ft ?_
 refine tE ?_
 go_wp2
 exact K.rc2 0 rfl rfl ⟨Z,_,T,B4,u,c4,B6,Y,c6,I,J,y,rfl,K.slb 2 rfl,K.slb 1 rfl,K.slb 0 rfl,K.slb 5 rfl,K.below⟩
end
section
open Go.RowKit
theorem AD {room:Int} (h:0≤room∧room≤65536):JG room 0 [] [] [] zS 0:=
 ⟨⟨⟨[],rfl,trivial⟩,rfl,rfl,rfl,by simp,h.1,h.2,by simp,List.Pairwise.nil,by simpa [aA] using h.1⟩,⟨by simp,List.Pairwise.nil⟩,Int.le_refl _,by omega,Int.le_refl _,Int.le_refl _⟩
abbrev st0:St:=⟨[],0,0⟩
abbrev we1:Evt:=⟨st0.q+1,3,1,⟨#[98]⟩,1,0,0⟩
def st1:St:=gy st0 we1
abbrev we2:Evt:=⟨st1.q+1,9,4,⟨#[98]⟩,1,0,0⟩
def st2:St:=gy st1 we2
theorem DF:cH st0 we1=0:=by kernel_rfl
theorem Gy:st1.q=1:=by kernel_rfl
theorem Ec:cH st1 we2=0:=by kernel_rfl
theorem GM:st2.q=2:=by kernel_rfl
theorem EH:st2.cs.length=1∧(st2.cs.map (fun c=>c.cells.length)) = [4]:=⟨by kernel_rfl,by kernel_rfl⟩
theorem yZ:(cW st2).length≤350:=by
 have d:bD st2:=by
  have p:=iu bI DF
  have i:st1=aZ st0 we1:=by unfold st1 gy;rw[if_pos DF]
  have l:bD st1:=i ▸ p
  have o:=iu l Ec
  have m:st2=aZ st1 we2:=by unfold st2 gy;rw[if_pos Ec]
  exact m ▸ o
 obtain⟨w,v,u,x,t,k,r⟩:=d
 obtain⟨h,f⟩:=EH
 have g:=aP [(st2.cs.length:Int)] (aE (by omega) (by omega) bC)
 have j:=aP [st2.q,st2.a] (aE (by omega) (by omega) (aE (by omega) (by omega) bC))
 simp only[List.length_cons,List.length_nil]at g j
 obtain⟨c,b⟩:∃ c,st2.cs = [c]:=by
  match st2.cs,h with
  | [c],_=>exact⟨c,rfl⟩
 rw[b]at f
 have n:c.cells.length=4:=by simpa using f
 have s:=(qx (k c (by rw[b];simp))).1
 unfold cW
 rw[mS,List.length_append]
 unfold stE
 rw[List.length_append,List.length_append]
 have e:(st2.cs.flatMap dU)=dU c:=by rw[b];simp
 rw[e]
 simp only[List.length_cons,List.length_nil]
 omega
set_option maxHeartbeats 4000000 in
theorem zi (w:World) (O:aV w):Calls Tryz.prog 6 #[] w fun e w'=>e = .returned (.bool true)∧Below w.heap.size w w':=by
 have hX:XOk [] w:=fun b f=>(by cases f)
 have y:dH 64 2=true:=by kernel_rfl
 have Q:(⟨#[98]⟩:ByteArray).size≤maxLen:=by unfold maxLen;decide
 go_enter Tryz.func6,Tryz.ntmps6
 go_upto_region 1 with(fail)
 refine(hstart hX).cw fun W K=>?_
 go_wp2_with fail
 have M:JG 900 0 [] [] [] zS 0:=AD (by omega)
 refine(rC [] 900 [] [] zS zS M.look (by simp) (by simp) trivial 64 2 y none 0 0 _ _ K.xok Sl.nil_ (O.on K.below)).mono ?_
 rw[show dX (dK [] []) [] = [] from rfl]
 rintro e w1 ⟨A1,n1,ab,S1,m1,S,N1,ae,ah,C1,k1,Y,rfl,k,d,l,v,f⟩
 have K:=((((K.on f).ksl v).ksl l).ksl d).ksl k
 clear f k d l v
 go_upto_region 2 with(refine K.lw fun W K=>?_;refine K.sr 0 rfl fun W K=>?_)
 go_wp2_with (first | refine K.ld 0 rfl ?_)
 refine(ng M (by omega) 64 2 y A1 n1 ab S1 m1 S N1 ae ah C1 k1 Y false _ _ K.xok (K.sl 0 rfl) (K.sl 1 rfl) (K.sl 2 rfl) (K.sl 3 rfl) (O.on K.below) 0 3 1 ⟨#[98]⟩ 1 0 0 Q).mono ?_
 rintro e w2 (⟨a,-⟩ | ⟨-,a,-⟩ | ⟨-,E,G,bb,h,i,-,A2,n2,U,S2,m2,V,N2,Z,ag,C2,k2,X,rfl,k,d,l,v,f⟩)
 ·exact absurd DF a
 ·rcases a with a | a
  ·cases a
  ·exact absurd ⟨by simp,by simp[aA]⟩ a
 rw[show aZ zS ⟨zS.q+1,3,1,⟨#[98]⟩,1,0,0⟩=st1 from by unfold st1 gy;rw[if_pos DF]]at h ⊢
 have K:=(((((K.on f).ft.ft.ft.ft).ksl v).ksl l).ksl d).ksl k
 clear f k d l v
 obtain⟨g,rfl,ac⟩:∃ g,G = [] ++ [g]∧g.ba=0:=by
  have k:=h.sizes.2.1
  have d:=h.1.goes
  rw[i]at k
  match G,i,k,d with
  | [g],_,_,d=>
    obtain⟨u,g1,-⟩:=d
    exact⟨g,rfl,g1.2.1⟩
  | [],i,_,_=>simp[aY]at i
 go_upto_region 3 with(refine K.lw fun W K=>?_;refine K.sr 0 rfl fun W K=>?_)
 go_wp2_with (first | refine K.ld 0 rfl ?_)
 have P:E.length<64∧(aA E:Int)+200≤900:=by
  obtain⟨fa,o,t⟩:=h.1.fa
  rw[List.map_nil,List.append_nil]at o
  subst o
  have l:(aY ([] ++ [g])).length=1:=by rw[i];rfl
  have v:([] ++ [g]).length=1:=rfl
  have k:=lB _ E 0 _ _ t h.1.goes bI (by omega) (by omega)
  have h5:=t.len
  omega
 refine(ng h (by omega) 64 2 y A2 n2 U S2 m2 V N2 Z ag C2 k2 X false _ _ K.xok (K.sl 0 rfl) (K.sl 1 rfl) (K.sl 2 rfl) (K.sl 3 rfl) (O.on K.below) 0 9 4 ⟨#[98]⟩ 1 0 0 Q).mono ?_
 rintro e w3 (⟨a,-⟩ | ⟨-,a,-⟩ | ⟨-,z,m,T,c,n,F,A3,n3,J,S3,m3,R,N3,H,N,C3,k3,L,rfl,k,d,l,v,f⟩)
 ·exact absurd Ec a
 ·rcases a with a | a
  ·cases a
  ·exact absurd P a
 rw[show aZ st1 ⟨st1.q+1,9,4,⟨#[98]⟩,1,0,0⟩=st2 from by unfold st2 gy;rw[if_pos Ec]]at c ⊢
 have F:m.length=2:=F [] g rfl (by show(2:Int)<9-g.ba;omega)
 rw[i]at n
 clear h i ac P
 have K:=(((((K.on f).ft.ft.ft.ft).ksl v).ksl l).ksl d).ksl k
 clear f k d l v
 have hu:z.length<64∧(aA z:Int)+(cW st2).length≤900:=by
  obtain⟨fa,o,t⟩:=c.1.fa
  rw[List.map_nil,List.append_nil]at o
  subst o
  have l:(aY m).length=2:=by rw[n];rfl
  have k:=lB m z 0 _ _ t c.1.goes bI (by omega) (by omega)
  have d:=yZ
  have h5:=t.len
  omega
 go_upto_region 4 with(refine K.lw fun W K=>?_;refine K.sr 0 rfl fun W K=>?_)
 go_wp2_with (first | refine K.ld 0 rfl ?_)
 have C:(aJ 0 m).flatMap (fun p=>p.s.evs) = [we1,we2]:=by rw[ug,n];rfl
 refine(nF z 900 (aJ 0 m) (kOf []) st2 c.look c.al 64 2 y A3 n3 J S3 m3 R N3 H N C3 k3 L T c.2.2.2.2 false c.ok _ _ K.xok (K.sl 0 rfl) (K.sl 1 rfl) (K.sl 2 rfl) (by have:=c.ns;have:=(K.sl 2 rfl).len;omega) (K.sl 3 rfl) (O.on K.below) (by rw[C];simp)).mono ?_
 rw[C]
 rintro e w4 ⟨B,nb,cb,rfl,D,f⟩
 have K:=(K.on f).ksl D
 obtain rfl:nb=2:=D.len
 clear f D
 go_wp2_with (first | refine K.ld 0 rfl ?_)
 refine(xx c 64 2 y A3 n3 J S3 m3 R N3 H N C3 k3 L false _ _ K.xok (K.sl 1 rfl) (K.sl 2 rfl) (K.sl 3 rfl) (K.sl 4 rfl) (O.on K.below)).mono ?_
 rintro e w5 A
 rcases A with⟨-,A⟩ | ⟨a,-⟩
 rotate_left
 ·exact absurd hu a
 obtain⟨am,I,A5,n5,ao,S5,m5,bc,N5,ar,ap,C5,k5,aw,rfl,k,d,l,v,f⟩:=A
 obtain rfl:m5=2:=by rw[d.len,List.length_map,gD,F]
 have K:=K.on f
 clear f k d l v I hu c C
 rw[GM]
 go_upto_region 6 with(refine K.lw fun W K=>?_;refine K.sr 0 rfl fun W K=>?_)
 obtain⟨ad,rr,rfl,K,⟨rfl,-⟩⟩:=K.elem 0 rfl (j:=1) (x:=we2) rfl
 have c0:=K.r 0 rfl
 have s0:W.cell? ⟨ad.block,ad.off+7,none⟩=some (.int .i64 2):=by
  have d:W.cell? ((ad.add 7).add 0)=some (.int .i64 (st1.q+1)):=K.at' 0 rfl 0 _ rfl
  rw[Gy]at d
  rw[cB,Nat.add_zero]at d
  exact d
 go_wp2
 go_ret
 exact⟨rfl,K.below⟩
end
section
open Go.RowKit
theorem yB {a b:List Fil} (h:a.Sublist b):aA a≤aA b:=by
 induction h with
 | slnil=>exact Nat.le_refl _
 | cons x _ ih=>rw[bH];omega
 | cons_cons x _ ih=>rw[bH,bH];omega
theorem wH {room:Int} {a b:List Fil} (h:cj ⟨b,room⟩) (c:a.Sublist b):cj ⟨a,room⟩:=by
 obtain⟨l,g,k,e,d,i⟩:=h
 have m:=c.length_le
 have n:=yB c
 simp only at l e d i
 exact⟨by simp only;omega,g,k,fun f j=>e f (c.subset j),d.sublist c,by simp only;omega⟩
theorem vQ {room:Int} {pre post:List Fil} {x y:Fil} (h:cj ⟨pre++x::post,room⟩) (j:y.nm=x.nm) (o:y.all.length≤x.all.length):cj ⟨pre++y::post,room⟩:=by
 obtain⟨k,m,n,g,d,i⟩:=h
 simp only at k g d i
 refine⟨by simpa using k,m,n,fun f c=>?_,?_,?_⟩
 ·rcases List.mem_append.1 c with c | c
  ·exact g f (List.mem_append_left _ c)
  ·rcases List.mem_cons.1 c with rfl | c
   ·rw[j];exact g x (by simp)
   ·exact g f (List.mem_append_right _ (List.mem_cons_of_mem _ c))
 ·show Srt Fil.nm (pre++y::post)
  have e:(pre++y::post).map Fil.nm=(pre++x::post).map Fil.nm:=by simp[j]
  unfold Srt at d ⊢
  rw[←List.pairwise_map (f:=Fil.nm) (R:=fun a b=>ltB a b=true)]at d ⊢
  rw[e]
  exact d
 ·have l:((aA (pre++x::post):Nat):Int)≤room:=i
  rw[fQ,bH]at l
  show((aA (pre++y::post):Nat):Int)≤room
  rw[fQ,bH]
  omega
theorem tP {room:Int} {pre post:List Fil} {x:Fil} (h:cj ⟨pre++x::post,room⟩):∀ d ∈ pre,d.nm≠x.nm:=fun d a=>by
 have b:Srt Fil.nm (pre++x::post):=h.2.2.2.2.1
 exact iW ((List.pairwise_append.1 b).2.2 d a x (by simp))
theorem Cr {pre post:List Fil} {x:Fil} (h:∀ d ∈ pre,d.nm≠x.nm):mm (.rm x.nm) (pre++x::post)=pre++post:=by
 unfold mm
 simp only
 rw[iS h,List.eraseIdx_append_of_length_le (Nat.le_refl _),Nat.sub_self]
 rfl
theorem Fm {pre post:List Fil} {x:Fil} (h:∀ d ∈ pre,d.nm≠x.nm) (k:Nat):mm (.ct x.nm k) (pre++x::post)=pre++iP x k::post:=by
 unfold mm
 simp only
 rw[iS h]
 simp
theorem FC {pre post:List Fil} {x:Fil} (h:∀ d ∈ pre,d.nm≠x.nm):mm (.sy x.nm) (pre++x::post)=pre++⟨x.nm,x.su++x.lo,[]⟩::post:=AA h
theorem BB {pre post:List Fil} {x:Fil} (h:∀ d ∈ pre,d.nm≠x.nm) {k:Nat} (a:k≤x.all.length):qM (.ct x.nm k) (pre++x::post):=⟨x,by rw[iS h];simp,rfl,a⟩
theorem zA (a b:List Stq) (fs:List Fil):dX (a++b) fs=dX b (dX a fs):=by unfold dX;rw[List.foldl_append]
theorem pO (room:Int):∀ (a b:List Stq) (fs:List Fil),gm room a fs→gm room b (dX a fs)→gm room (a++b) fs
 | [],b,fs,_,h=>h
 | s::a,b,fs,h,h2=>⟨h.1,h.2.1,pO room a b _ h.2.2 h2⟩
theorem CG (room:Int) (post:List Fil):∀ (k:Nat) (fa:List Fil),fa.length=k→cj ⟨fa++post,room⟩→dX ((fa.map Fil.nm).reverse.map .rm) (fa++post)=post∧gm room ((fa.map Fil.nm).reverse.map .rm) (fa++post)
 | 0,fa,hk,h=>by
   obtain rfl:=List.eq_nil_of_length_eq_zero hk
   exact⟨rfl,trivial⟩
 | k+1,fa,hk,h=>by
   rcases List.eq_nil_or_concat fa with rfl | ⟨fb,x,rfl⟩
   ·cases hk
   ·rw[List.concat_eq_append]at *
    have e:(((fb ++ [x]).map Fil.nm).reverse.map Stq.rm) = .rm x.nm::((fb.map Fil.nm).reverse.map Stq.rm):=by simp
    rw[List.append_assoc]at h ⊢
    have b:=tP (x:=x) h
    have f:=wH h (a:=fb++post) (List.Sublist.append (List.Sublist.refl _) (List.sublist_cons_self _ _))
    obtain⟨d,g⟩:=CG room post k fb (by simpa using hk) f
    rw[e]
    have c:mm (.rm x.nm) (fb++([x]++post))=fb++post:=Cr b
    refine⟨?_,h,iO b,?_⟩
    ·show dX _ (mm (.rm x.nm) (fb++([x]++post)))=post
     rw[c]
     exact d
    ·rw[c]
     exact g
theorem jU:∀ (n:Nat) (fs:List Fil) (gs:List Sg),bg n fs gs→eY (aJ n gs)=fs.map Fil.nm
 | _,[],[],_=>rfl
 | n,f::fs,g::gs,⟨f1,f2,f3⟩=>by
   have e:=jU (n+1) fs gs f3
   unfold eY at e ⊢
   rw[aJ,List.map_cons,List.map_cons,e,f1]
   rfl
 | _,[],_::_,h=>h.elim
 | _,_::_,[],h=>h.elim
theorem ri (gs:List Sg) (n:Nat):(aJ n gs).reverse.flatMap ctP = []:=by
 rw[List.flatMap_eq_nil_iff]
 intro p a
 have:=jJ gs n p (List.mem_reverse.1 a)
 unfold ctP
 rw[if_neg (by omega)]
theorem rF {gs:List Sg} {n:Nat} (h:∀ x ∈ gs,x.sd=true):jC (aJ n gs) = []:=by
 rcases List.eq_nil_or_concat gs with rfl | ⟨l,g,rfl⟩
 ·rfl
 ·rw[List.concat_eq_append]at *
  unfold jC
  rw[cQ,List.getLast?_append,List.getLast?_singleton]
  have:=h g (by simp)
  simp[Sg.pr,this]
theorem xV (k:Int) (p:Prt) (a:Nat):∀ (ps:List Prt) (s:St),jh k (ps ++ [{ p with al:=a }]) s=jh k (ps ++ [p]) s
 | [],s=>rfl
 | q::ps,s=>by
   have e:=fun u=>xV k p a ps u
   show(if _ then _ else _)=(if _ then _ else _)
   split
   ·congr 1
    funext u
    exact e u
   ·rfl
theorem zn {l:List Evt} {s t:St} (h:cC s l=some t) (m:Nat):∃ u,cC s (l.take m)=some u:=by
 rw[←List.take_append_drop m l,mC]at h
 cases hq:cC s (l.take m) with
 | none=>rw[hq]at h;cases h
 | some u=>exact⟨u,rfl⟩
end
section
open Go.RowKit
structure xw (fs':List Fil) (room:Int) (k0:St) (all:List Evt) (ps:List Prt) (os:List ByteArray) (ps':List Prt) (t':St):Prop where
 look:cR fs' room ps os k0 t'
 os64:os.length≤64
 bd:∀ p ∈ ps,(1≤p.s.num∧p.s.num≤99999999)∧0≤p.s.size
 run:gm room (dK ps os) fs'
 look2:cR (dX (dK ps os) fs') room ps' [] k0 t'
 sg:ps'.map aD=ps.map aD
 ah:aa ps'=aa ps
 al:∀ p ∈ ps',(p.al:Int)≤p.s.size
 ns:(aa ps').ns.length≤32
 q:k0.q≤t'.q∧t'.q≤all.length
 st:cC zS (all.take t'.q.toNat)=some t'
 evs:ps'.flatMap (fun p=>p.s.evs)=all.take t'.q.toNat∨(ps'.flatMap (fun p=>p.s.evs) = []∧t'.q=k0.q)
theorem mq:∀ (gs:List Sg) (n:Nat),(aJ n gs).flatMap (fun p=>p.s.evs)=aY gs
 | [],_=>rfl
 | g::gs,n=>by rw[lC,aJ,List.flatMap_cons,mq gs];rfl
theorem sH:∀ (gs:List Sg) (n:Nat) (p:Prt),p ∈ aJ n gs→((n:Int)+1≤p.s.num∧p.s.num≤n+gs.length)∧0≤p.s.size
 | [],n,p,h=>by simp[aJ]at h
 | g::gs,n,p,h=>by
   rw[aJ]at h
   rcases List.mem_cons.1 h with rfl | h
   ·refine⟨⟨?_,?_⟩,Int.natCast_nonneg _⟩
    ·show(n:Int)+1≤((n+1:Nat):Int);omega
    ·show((n+1:Nat):Int)≤_;rw[List.length_cons];omega
   ·have:=sH gs (n+1) p h
    rw[List.length_cons]
    omega
section
variable {room:Int} {fb:List Fil} {y:Fil} {l:List Sg} {ss:List St} {all:List Evt} {n:Nat}
theorem rA {fs:List Fil} (d:fs=ss.map snF) (c:cj ⟨fs,room⟩) (b:jA ss all) (a:all.length≤40):cR fs room [] [] (kOf ss) (kOf ss):=by
 subst d
 obtain⟨g,e,-⟩:=pN (fa:=[]) (gs:=[]) (ev:=all) (by exact trivial) (by simp) b a (by simp)
 have f:=oL (fa:=[]) (by simp) b a
 rw[List.nil_append]at g e f
 exact⟨c,g,f,e,⟨[],[],by unfold cU;rw[nk],.inl ⟨rfl,rfl,by simp⟩⟩,rfl,by simp,by simp,b.k.1⟩
theorem pI {ps d:List Prt} {os rs:List ByteArray} {t':St} (v:cj ⟨fb++y::ss.map snF,room⟩) (u:bg 0 fb l) (A:l.length≤64) (E:n=l.length+1) (hy:y.nm=az n) (hlen:∀ f ∈ fb ++ [y],f.all.length≤10000) (j:jA ss all) (h:all.length≤40)
 (hrow:bA (cU fb) y=(d,rs)) (C:(ps=d∧os=rs ∧ ∀ p,d.getLast?=some p→(kOf ss).q≤p.s.c.q)∨(ps = []∧os=eY d++rs ∧ ∃ p,d.getLast?=some p∧p.s.c.q<(kOf ss).q))
 (g:jh (kOf ss).q ps (kOf ss)=some t') (D:∀ p,ps[0]?=some p→p.s.bq≤(kOf ss).q) (e:∀ p,ps.getLast?=some p→p.s.c.a=t'.a):cR (fb++y::ss.map snF) room ps os (kOf ss) t':=by
 have r:fb++y::ss.map snF=(fb ++ [y])++ss.map snF:=by simp
 have i:∀ f ∈ fb ++ [y],∃ m,1≤m∧m≤99999999∧f.nm=az m:=fun f b=>by
  rcases List.mem_append.1 b with b | b
  ·obtain⟨m,B,z,t⟩:=u.nm f b
   exact⟨m,by omega,by omega,t⟩
  ·rw[List.mem_singleton]at b
   subst b
   exact⟨n,by omega,by omega,hy⟩
 have o:∀ f ∈ fb ++ [y],snB f.nm=false:=fun f b=>by
  obtain⟨m,B,z,t⟩:=i f b
  rw[t]
  exact yt z
 have hrows:cU (fb++y::ss.map snF)=(d,rs):=by
  unfold cU at hrow ⊢
  rw[List.foldl_append,List.foldl_cons,hrow,nk]
 obtain⟨x,w,-⟩:=pN (fa:=[]) (gs:=[]) (ev:=all) (by exact trivial) (by simp) j h (by simp)
 rw[List.nil_append]at x w
 refine⟨v,fun f b=>?_,by rw[r];exact oL o j h,fun f b=>?_,⟨d,rs,hrows,C⟩,g,D,e,j.k.1⟩
 ·rw[r]at b
  rcases List.mem_append.1 b with b | b
  ·exact .inr (i f b)
  ·exact x f b
 ·rw[r]at b
  rcases List.mem_append.1 b with b | b
  ·exact hlen f b
  ·exact w f b
theorem tf {i:List Prt} {rs:List ByteArray} (b:cj ⟨fb++y::ss.map snF,room⟩) (g:bg 0 fb l) (r:l.length≤39) (v:n=l.length+1) (hy:y.nm=az n) (hlen:∀ f ∈ fb ++ [y],f.all.length≤10000) (j:jA ss all) (e:all.length≤40)
 (hrow:bA (cU fb) y=(i,rs)) (a:eY i++rs=(fb ++ [y]).map Fil.nm) (p:Prt) (t:i.getLast?=some p) (m:p.s.c.q<(kOf ss).q):xw (fb++y::ss.map snF) room (kOf ss) all [] ((fb ++ [y]).map Fil.nm) [] (kOf ss):=by
 have h:fb++y::ss.map snF=(fb ++ [y])++ss.map snF:=by simp
 have d:=CG room (ss.map snF) _ (fb ++ [y]) rfl (by rw[←h];exact b)
 have em:dK [] ((fb ++ [y]).map Fil.nm)=((fb ++ [y]).map Fil.nm).reverse.map .rm:=by unfold dK jC;simp
 have u:=g.len
 have o:=j.k
 refine⟨pI b g (by omega) v hy hlen j e hrow (.inr ⟨rfl,a.symm,p,t,m⟩) rfl (by simp) (by simp),by simp;omega,by simp,by rw[em,h];exact d.2,?_,rfl,rfl,by simp,by simp[aa],⟨Int.le_refl _,o.2.1⟩,o.2.2,.inr ⟨rfl,rfl⟩⟩
 rw[em,h,d.1]
 exact rA rfl (wH b (by rw[h];exact List.sublist_append_right _ _)) j e
theorem Ce {u:St} (m:cj ⟨fb++y::ss.map snF,room⟩) (d:bg 0 fb l) (G:l.length≤39) (S:n=l.length+1) (hy:y.nm=az n) (hlen:∀ f ∈ fb ++ [y],f.all.length≤10000) (B:jA ss all) (t:all.length≤40)
 (A:dY zS l u) (R:∀ x ∈ l,x.sd=true) (D:∀ g ∈ l,g.evs.length≤40) (hpre:∃ more,all=aY l++more) (T:(ej y.all).s.num=0):∃ ps os ps' t',xw (fb++y::ss.map snF) room (kOf ss) all ps os ps' t':=by
 have hrows:=lO l fb zS u rfl d A (by omega) (fun g h=>by have:=D g h;omega)
 have hrow:bA (cU fb) y=(aJ 0 l,[az n]):=by
  rw[hrows]
  unfold bA
  have O:gZ y.nm=n:=by rw[hy];exact iA (by omega)
  rw[if_neg (by omega),if_neg (fun h=>by have:=h.2.1;rw[T,O]at this;omega),hy]
  rfl
 have r:eY (aJ 0 l) ++ [az n]=(fb ++ [y]).map Fil.nm:=by rw[jU 0 fb l d,List.map_append,←hy];rfl
 have K:=B.k
 obtain⟨I,hrun⟩:=ou _ _ _ A bI
 have I:u.q=(aY l).length:=by rw[I];show(0:Int)+_=_;omega
 have V:=jn _ _ _ A bI
 obtain⟨more,hall⟩:=hpre
 by_cases o:∃ p,(aJ 0 l).getLast?=some p∧p.s.c.q<(kOf ss).q
 ·obtain⟨p,w,Q⟩:=o
  exact⟨_,_,_,_,tf m d G S hy hlen B t hrow r p w Q⟩
 have z:=fP l 0 _ u A
 have hkeep:∀ p,(aJ 0 l).getLast?=some p→(kOf ss).q≤p.s.c.q:=fun p w=>by
  by_cases h:(kOf ss).q≤p.s.c.q
  ·exact h
  ·exact absurd ⟨p,w,by omega⟩ o
 have H:∀ t',jh (kOf ss).q (aJ 0 l) (kOf ss)=some t'→(∀ p,(aJ 0 l)[0]?=some p→p.s.bq≤(kOf ss).q)→(∀ p,(aJ 0 l).getLast?=some p→p.s.c.a=t'.a)→cR (fb++y::ss.map snF) room (aJ 0 l) [az n] (kOf ss) t':=fun t' a b c=>
  pI m d (by omega) S hy hlen B t hrow (.inl ⟨rfl,rfl,hkeep⟩) a b c
 have E:=tP m
 have em:dK (aJ 0 l) [az n] = [.rm y.nm]:=by unfold dK;rw[ri,rF R,hy];rfl
 have j:gm room (dK (aJ 0 l) [az n]) (fb++y::ss.map snF):=by rw[em];exact⟨m,iO E,trivial⟩
 have i:dX (dK (aJ 0 l) [az n]) (fb++y::ss.map snF)=fb++ss.map snF:=by rw[em];exact Cr E
 have v:cj ⟨fb++ss.map snF,room⟩:=wH m (List.Sublist.append (List.Sublist.refl _) (List.sublist_cons_self _ _))
 have F:∀ p ∈ aJ 0 l,(1≤p.s.num∧p.s.num≤99999999)∧0≤p.s.size:=fun p w=>by
  have:=sH l 0 p w
  omega
 rcases List.eq_nil_or_concat l with rfl | ⟨J,L,rfl⟩
 ·obtain rfl:fb = []:=List.eq_nil_of_length_eq_zero d.len
  have P:=H (kOf ss) rfl (by simp[aJ]) (by simp[aJ])
  refine⟨_,_,[],_,P,by simp,F,j,?_,rfl,rfl,by simp,by simp[aa],⟨Int.le_refl _,K.2.1⟩,K.2.2,.inr ⟨rfl,rfl⟩⟩
  rw[i]
  exact rA rfl v B t
 ·rw[List.concat_eq_append]at *
  have C:(kOf ss).q≤u.q:=by
   have e:(aJ 0 (J ++ [L])).getLast?=some (L.pr (0+J.length+1)):=by rw[cQ,List.getLast?_append,List.getLast?_singleton];rfl
   have a:=hkeep _ e
   rw[(z _ e).1]at a
   exact a
  have N:cC zS ((aY (J ++ [L])).take (kOf ss).q.toNat)=some (kOf ss):=by
   have h:=K.2.2
   rw[hall,List.take_append_of_le_length (by have:=K.1.2.1;omega)]at h
   exact h
  have M:cR (fb++ss.map snF) room (aJ 0 (J ++ [L])) [] (kOf ss) u:=
   sG rfl d A v B t (fun _=>⟨C,N⟩) (fun e=>by simp at e) D (by omega) (fun f U=>hlen f (List.mem_append_left _ U))
  have P:=H u M.rep M.first M.last
  refine⟨_,_,_,_,P,by simp,F,j,by rw[i];exact M,rfl,rfl,fun p w=>by rw[jJ _ 0 p w];exact Int.le_refl _,oI A,⟨C,?_⟩,?_,.inl ?_⟩
  ·rw[I,hall,List.length_append];omega
  ·rw[hall,I,Int.toNat_natCast,List.take_append_of_le_length (Nat.le_refl _),List.take_of_length_le (Nat.le_refl _)]
   exact hrun
  ·rw[mq,hall,I,Int.toNat_natCast,List.take_append_of_le_length (Nat.le_refl _),List.take_of_length_le (Nat.le_refl _)]
theorem Em {u t':St} {g':Sg} (m:cj ⟨fb++y::ss.map snF,room⟩) (r:bg 0 fb l) (P:l.length≤39) (G:n=l.length+1) (hy:y.nm=az n) (hlen:∀ f ∈ fb ++ [y],f.all.length≤10000) (R:jA ss all) (E:all.length≤40)
 (S:dY zS l u) (K:∀ x ∈ l,x.sd=true) (M:∀ g ∈ l,g.evs.length≤40) (o:mO u g' t') (L:g'.evs.length≤40) (hpre:∃ more,all=aY (l ++ [g'])++more)
 (T:ej y.all={ g'.pr n with al:=y.all.length }) (htk:y.all.take (g'.bt n).length=g'.bt n) (hle:(g'.bt n).length≤y.all.length):∃ ps os ps' t',xw (fb++y::ss.map snF) room (kOf ss) all ps os ps' t':=by
 have C:dY zS (l ++ [g']) t':=(gN l g' _ _).2 ⟨u,S,K,o⟩
 have D:=fP l 0 _ u S
 have hrows:=lO l fb zS u rfl r S (by omega) (fun g h=>by have:=M g h;omega)
 obtain⟨p',b⟩:∃ p':Prt,p'={ g'.pr n with al:=y.all.length }:=⟨_,rfl⟩
 have hrow:bA (cU fb) y=(aJ 0 l ++ [p'],[]):=by
  rw[hrows]
  refine row_step (g:=g') (u:=u) (by omega) (by rw[hy,G]) (T.trans b.symm) (by rw[b,←G];rfl) (by rw[b];exact⟨o.1,o.2.1⟩) K D
 have H:aJ 0 (l ++ [g'])=aJ 0 l ++ [g'.pr n]:=by rw[cQ,G,Nat.zero_add]
 have t:p'.s.num.toNat=n:=by rw[b];rfl
 have v:eY (aJ 0 l ++ [p']) ++ []=(fb ++ [y]).map Fil.nm:=by
  rw[List.append_nil]
  unfold eY
  rw[List.map_append,List.map_append,List.map_cons,List.map_nil,t,←hy]
  have:=jU 0 fb l r
  unfold eY at this
  rw[this]
  rfl
 have hk:=R.k
 have ac:p'.s.c.q=t'.q:=by rw[b];exact o.ctx.1
 have Y:p'.s.c.a=t'.a:=by rw[b];exact o.ctx.2
 by_cases ab:t'.q<(kOf ss).q
 ·exact⟨_,_,_,_,tf m r P G hy hlen R E hrow v p' (by rw[List.getLast?_append,List.getLast?_singleton];rfl) (by omega)⟩
 obtain⟨Q,hrun⟩:=ou _ _ _ C bI
 have Q:t'.q=(aY (l ++ [g'])).length:=by rw[Q];show(0:Int)+_=_;omega
 obtain⟨more,hall⟩:=hpre
 have U:cC zS ((aY (l ++ [g'])).take (kOf ss).q.toNat)=some (kOf ss):=by
  have h:=hk.2.2
  rw[hall,List.take_append_of_le_length (by have:=hk.1.2.1;omega)]at h
  exact h
 have J:∀ g ∈ l ++ [g'],g.evs.length≤40:=fun g h=>by
  rcases List.mem_append.1 h with h | h
  ·exact M g h
  ·rw[List.mem_singleton]at h;subst h;exact L
 have N:=tP m
 have hm:∃ z:Fil,z.nm=az n∧z.all=g'.bt n∧dX (dK (aJ 0 l ++ [p']) []) (fb++y::ss.map snF)=fb++z::ss.map snF∧gm room (dK (aJ 0 l ++ [p']) []) (fb++y::ss.map snF):=by
  have e1:(aJ 0 l ++ [p']).reverse.flatMap ctP=if(g'.bt n).length<y.all.length then [.ct y.nm (g'.bt n).length] else []:=by
   rw[List.reverse_append,List.flatMap_append,ri,List.append_nil,List.reverse_singleton,List.flatMap_singleton]
   unfold ctP
   rw[t,←hy,b]
   show(if(((g'.bt n).length:Int)).toNat<y.all.length then [Stq.ct y.nm (((g'.bt n).length:Int)).toNat] else [])=_
   rw[Int.toNat_natCast]
  have e2:jC (aJ 0 l ++ [p'])=if g'.sd=true then [] else [.sy y.nm]:=by
   unfold jC
   rw[List.getLast?_append,List.getLast?_singleton]
   simp only[Option.some_or]
   rw[t,←hy,b]
   cases hsd':g'.sd<;>simp[Sg.pr,hsd']
  have em:dK (aJ 0 l ++ [p']) []=(if(g'.bt n).length<y.all.length then [Stq.ct y.nm (g'.bt n).length] else [])++(if g'.sd=true then [] else [.sy y.nm]):=by
   unfold dK
   rw[e1,e2]
   rfl
  rw[em]
  obtain⟨j,a1,a2,X,a4,a5⟩:∃ j:Fil,j.nm=y.nm∧j.all=g'.bt n∧dX (if(g'.bt n).length<y.all.length then [Stq.ct y.nm (g'.bt n).length] else []) (fb++y::ss.map snF)=fb++j::ss.map snF∧gm room (if(g'.bt n).length<y.all.length then [Stq.ct y.nm (g'.bt n).length] else []) (fb++y::ss.map snF)∧j.all.length≤y.all.length:=by
   by_cases hc:(g'.bt n).length<y.all.length
   ·rw[if_pos hc]
    refine⟨iP y (g'.bt n).length,rfl,by rw[jD];exact htk,Fm N _,⟨m,BB N hle,trivial⟩,by rw[jD,htk];exact hle⟩
   ·rw[if_neg hc]
    have e:y.all=g'.bt n:=by rw[←htk,List.take_of_length_le (by omega)]
    exact⟨y,rfl,e,rfl,trivial,Nat.le_refl _⟩
  have B:cj ⟨fb++j::ss.map snF,room⟩:=vQ m a1 a5
  have A:=tP B
  by_cases hd:g'.sd=true
  ·rw[if_pos hd,List.append_nil]
   exact⟨j,by rw[a1,hy],a2,X,a4⟩
  ·rw[if_neg hd,←a1]
   refine⟨⟨j.nm,j.su++j.lo,[]⟩,by rw[a1,hy],?_,?_,?_⟩
   ·rw[←a2]
    show(j.su++j.lo) ++ []=j.su++j.lo
    rw[List.append_nil]
   ·rw[zA,a1,X,←a1]
    exact FC A
   ·refine pO _ _ _ _ (by rw[a1];exact a4) ?_
    rw[a1,X,←a1]
    exact⟨B,iO A,trivial⟩
 obtain⟨z,z1,V,z3,z4⟩:=hm
 have O:cj ⟨fb++z::ss.map snF,room⟩:=vQ m (z1.trans hy.symm) (by rw[V];exact hle)
 have W:bg 0 (fb ++ [z]) (l ++ [g']):=r.snoc (by rw[z1,G,Nat.zero_add]) (by rw[V,G,Nat.zero_add])
 have Z:cR (fb++z::ss.map snF) room (aJ 0 (l ++ [g'])) [] (kOf ss) t':=
  sG (fa:=fb ++ [z]) (by simp) W C O R E (fun _=>⟨by omega,U⟩) (fun e=>by simp at e) J (by simp;omega) (fun f I=>by
   rcases List.mem_append.1 I with I | I
   ·exact hlen f (List.mem_append_left _ I)
   ·rw[List.mem_singleton]at I
    subst I
    have:=hlen y (by simp)
    rw[V]
    omega)
 have w:=Z.rep
 have i:=Z.first
 rw[H]at w i
 have h1:cR (fb++y::ss.map snF) room (aJ 0 l ++ [p']) [] (kOf ss) t':=by
  refine pI m r (by omega) G hy hlen R E hrow (.inl ⟨rfl,rfl,fun p d=>?_⟩) (by rw[b,xV];exact w) (fun p d=>?_) (fun p d=>?_)
  ·rw[List.getLast?_append,List.getLast?_singleton]at d
   injection d with d
   subst d
   omega
  ·by_cases h:(aJ 0 l) = []
   ·rw[h]at d i
    simp only[List.nil_append,List.getElem?_cons_zero,Option.some.injEq]at d
    rw[←d,b]
    exact i (g'.pr n) rfl
   ·refine i p ?_
    have h0:0<(aJ 0 l).length:=List.length_pos_iff.2 h
    rw[List.getElem?_append_left h0]at d ⊢
    exact d
  ·rw[List.getLast?_append,List.getLast?_singleton]at d
   injection d with d
   subst d
   exact Y
 have F:1≤p'.s.num∧p'.s.num≤99999999∧0≤p'.s.size:=by
  rw[b]
  refine⟨?_,?_,Int.natCast_nonneg _⟩
  ·show(1:Int)≤((n:Nat):Int);omega
  ·show((n:Nat):Int)≤_;omega
 refine⟨_,_,_,_,h1,by simp,fun p d=>?_,z4,by rw[z3];exact Z,?_,?_,fun p d=>by rw[jJ _ 0 p d];exact Int.le_refl _,oI C,⟨by omega,?_⟩,?_,.inl ?_⟩
 ·rcases List.mem_append.1 d with d | d
  ·have:=sH l 0 p d
   omega
  ·rw[List.mem_singleton]at d
   subst d
   exact⟨⟨F.1,F.2.1⟩,F.2.2⟩
 ·rw[H,List.map_append,List.map_append,b]
  rfl
 ·unfold aa
  rw[H,List.getLast?_append,List.getLast?_append,List.getLast?_singleton,List.getLast?_singleton,b]
  rfl
 ·rw[Q,hall,List.length_append];omega
 ·rw[hall,Q,Int.toNat_natCast,List.take_append_of_le_length (Nat.le_refl _),List.take_of_length_le (Nat.le_refl _)]
  exact hrun
 ·rw[mq,hall,Q,Int.toNat_natCast,List.take_append_of_le_length (Nat.le_refl _),List.take_of_length_le (Nat.le_refl _)]
end
end
section
open Go.RowKit
theorem JG.cut {room:Int} {k:Nat} {fs:List Fil} {l:List Sg} {g:Sg} {ss:List St} {t:St} {L:Int} (h:JG room k fs (l ++ [g]) ss t L):∃ fb x,fs=fb++x::ss.map snF∧x.nm=az (l.length+1)∧(∀ d ∈ fb,d.nm≠x.nm)∧x.all.length≤5000 ∧
 ∀ kk,kk≤x.all.length → ∃ ps os ps' t',xw (fs.set fb.length (iP x kk)) room (kOf ss) (aY (l ++ [g])) ps os ps' t':=by
 obtain⟨Q,O,A,G⟩:=h.sizes
 obtain⟨fa,C,s⟩:=h.1.fa
 obtain⟨fb,x,rfl,y,p,e⟩:=s.last
 rw[Nat.zero_add]at p e
 have hlen:=nI _ _ _ _ _ s h.1.goes.weak bI (by omega) A
 have a:fs=fb++x::ss.map snF:=by rw[C];simp
 have n:=h.1.dk
 rw[a]at n
 obtain⟨u,E,F,z⟩:=(eH l g _ t).1 h.1.goes
 have P:=kj _ _ _ E bI
 have j:l.length≤39:=by simp at O;omega
 refine⟨fb,x,a,p,tP n,hlen x (by simp),fun kk B=>?_⟩
 have q:fs.set fb.length (iP x kk)=fb++iP x kk::ss.map snF:=by rw[a];simp
 have b:(iP x kk).all=(g.bt (l.length+1)).take kk:=by rw[jD,e]
 have i:cj ⟨fb++iP x kk::ss.map snF,room⟩:=vQ n rfl (by rw[jD,List.length_take];omega)
 have c:∀ f ∈ fb ++ [iP x kk],f.all.length≤10000:=fun f o=>by
  rcases List.mem_append.1 o with o | o
  ·have:=hlen f (List.mem_append_left _ o);omega
  ·rw[List.mem_singleton]at o
   subst o
   have:=hlen x (by simp)
   rw[jD,List.length_take]
   omega
 have v:∀ x ∈ l,x.evs.length≤40:=fun x p=>A x (List.mem_append_left _ p)
 have r:aY (l ++ [g])=aY l++g.evs:=by simp[aY]
 rw[q]
 rcases DW z P (l.length+1) (by omega) (by omega) (by have:=A g (by simp);omega) kk (by rw[←e];exact B) with J | ⟨m,sd,R,M,K,N,H⟩
 ·exact Ce (u:=u) i y j rfl p c h.2.1 G E.weak F v ⟨g.evs,r⟩ (by rw[b];exact J)
 ·obtain⟨t',D⟩:=zn z.2.2.2.2 m
  have I:(g.bt (l.length+1)).take kk=(iP x kk).all:=b.symm
  have w:(iP x kk).all.length=kk:=by rw[b,List.length_take,←e];omega
  refine Em (u:=u) (t':=t') (g':=⟨g.bq,g.ba,g.evs.take m,sd⟩) i y j rfl p c h.2.1 G E.weak F v ⟨z.1,z.2.1,M,D⟩ (by have:=A g (by simp);simp;omega) ⟨g.evs.drop m,?_⟩ ?_ ?_ ?_
  ·rw[r]
   simp[aY]
  ·rw[w,b]
   exact K
  ·rw[b,List.take_take,Nat.min_eq_left H]
   exact N
  ·rw[w]
   exact H
end
section
open Go.RowKit
theorem HH.rcF {P:Program} {f W:World} {M X:List Nat} {L:List Itm} {F:List Fact} {fn:Func} {R:Ending→World→Prop} {a:Act} {g:Nat} {p q r:Tmp} {t ty:TypeId} {cs:Array Value} (K:HH f M X W L F) (i:Nat) (d:L[i]?=some (.box g t cs)) (e:fn.results=#[.cell p ty,.tmp q,.tmp r]) (hR:R (.returned (.tuple #[.agg cs,a.tmps.getD q undef,a.tmps.getD r undef])) W)
 (c:a.tmps.getD p undef = .pointer (some ⟨g,0,none⟩):=by rfl) (hT:lM P ty cs.size=true:=by kernel_rfl) (hd:a.defers = []:=by rfl):bodyPost P fn R .ret a W:=by
 have b:a.tmps[p]?.getD undef = .pointer (some ⟨g,0,none⟩):=by simpa using c
 exact⟨hd,.tuple #[.agg cs,a.tmps.getD q undef,a.tmps.getD r undef],by simp[results,e,b,asAddr,fe K i d hT],hR⟩
theorem EB {l:List Evt} {j:Nat} {e:Evt} {s t:St} (h:cC s (l.drop j)=some t) (c:l[j]?=some e):cH s e=0∧cC (aZ s e) (l.drop (j+1))=some t:=by
 obtain⟨b,rfl⟩:=List.getElem?_eq_some_iff.1 c
 rw[←List.getElem_cons_drop (h:=b)]at h
 unfold cC at h
 by_cases a:cH s l[j]=0
 ·rw[if_pos a]at h;exact⟨a,h⟩
 ·rw[if_neg a]at h;cases h
set_option maxHeartbeats 1500000 in
theorem Fo (l:List Evt) (s t:St) (C:Option Addr) (k B:Nat) (A:Option Addr) (n x:Nat) (X:List Nat) (w:World) (hX:XOk X w) (F:Sl aI w X C k B s.cs) (m:Sl iz w X A n x l) (u:bD s) (h:cC s l=some t) (R:n≤100000):
 Calls Tryz.prog 24 #[.agg #[.slice C k B,.int .i64 s.q,.int .i64 s.a],.slice A n x] w fun e w' => ∃ c k' b,e = .returned (.tuple #[.agg #[.slice c k' b,.int .i64 t.q,.int .i64 t.a],.int .i64 (n:Int),.int .i64 0])∧Sl aI w' X c k' b t.cs∧Below w.heap.size w w':=by
 have D:=Lib.hid m.len
 have I:=Lib.hid h
 clear h
 go_enter Tryz.func24,Tryz.ntmps24
 go_upto_region 1 with(fail)
 refine(hstart hX).cw fun W K=>?_
 have K:=(K.ksl0 m).ksl0 F
 clear m F
 go_upto_region 2 with(fail)
 go_wp2
 go_loopw [13] (fun i wr => ∃ (a:Nat) (sc:St) (c:Option Addr) (k' b:Nat),a≤n∧i = .int .i64 a∧Hid (cC sc (l.drop a)=some t)∧bD sc∧HH w [] X wr [.box (w.heap.size+1) 37 #[.slice none 0 0,.int .i64 0,.int .i64 0],.box w.heap.size 37 #[.slice c k' b,.int .i64 sc.q,.int .i64 sc.a]] [Sl.fact aI c k' b sc.cs,Sl.fact iz A n x l]) (fun i _=>n-(intOf i).toNat)
 case atStart=>exact⟨0,s,C,k,B,Nat.zero_le _,rfl,I,u,K⟩
 case round=>
  obtain⟨a,sc,c,k',b,Q,rfl,z,f,K⟩:=hrel
  by_cases O:a<n
  ·obtain⟨y,hy⟩:∃ y,l[a]?=some y:=⟨_,List.getElem?_eq_getElem (by have:=D.out;omega)⟩
   obtain⟨ad,r,rfl,K,d⟩:=K.elem 1 rfl hy
   obtain⟨rfl,p⟩:=d
   have T:(0:Int)≤(a:Int):=by omega
   have P:(a:Int)<(n:Int):=by omega
   obtain⟨H,E⟩:=EB z.out hy
   have G:=Lib.hid H
   have N:=Lib.hid E
   clear hy z H E
   go_upto_region 4 with(first | (refine bF (K.at' 0 rfl) ?_) | (refine K.lw fun W K=>?_;refine K.sr 0 rfl fun W K=>?_))
   go_wp2_with (first | refine K.ld 2 rfl ?_ | refine K.ld 0 rfl ?_)
   refine(gh sc y c k' b _ _ K.xok (K.sl 1 rfl) f p.2.2.2.1).mono ?_
   unfold gy
   rw[G.out,if_pos rfl]
   rintro e S ⟨L,M,v,rfl,j,g⟩
   have K:=(K.on j).ksl g
   clear j g
   go_upto_region 5 with(refine K.lw fun W K=>?_;refine K.sr 0 rfl fun W K=>?_)
   go_wp2_with (first | refine K.ld 0 rfl ?_ | refine K.sr 3 rfl fun W K=>?_)
   go_roundw
   case rel=>exact⟨a+1,aZ sc y,L,M,v,by omega,by go_num,N,iu f G.out,(K.tl.tl.out.forget (List.Sublist.cons_cons _ (List.Sublist.cons _ (List.Sublist.cons _ (List.Sublist.refl _))))).hh⟩
   case measure=>simp[intOf];omega
  ·obtain rfl:a=n:=by omega
   have J:l.drop a = []:=List.drop_eq_nil_of_le (by have:=D.out;omega)
   have o:sc=t:=by
    have:=z.out
    rw[J]at this
    simpa [cC] using this
   subst o
   go_wp2_with (first | refine K.ld 1 rfl ?_ | (refine K.lw fun W K=>?_;refine K.sr 0 rfl fun W K=>?_))
   exact K.rcF 0 rfl rfl ⟨c,k',b,rfl,K.slb 0 rfl,K.below⟩
end
section
open Go.RowKit
structure JE where
 fs:List Fil
 gs:List Sg
 ss:List St
 su:Int
 sh:Bool
 A:Option Addr
 n:Nat
 cp:Nat
 S:Option Addr
 m:Nat
 mc:Nat
 N:Option Addr
 nn:Nat
 cn:Nat
 C:Option Addr
 kk:Nat
 ck:Nat
abbrev JE.cells (d:JE) (b age:Int) (t:St):Array Value:=#[.slice d.A d.n d.cp,.int .i64 65000,.int .i64 (-1),.bool false,.int .i64 b,.int .i64 age,.slice d.S d.m d.mc,.int .i64 (aa (aJ 0 d.gs)).q,.int .i64 (aa (aJ 0 d.gs)).a,.slice d.N d.nn d.cn,.slice d.C d.kk d.ck,.int .i64 t.q,.int .i64 t.a,.int .i64 d.su,.int .i64 (kOf d.ss).q,.bool d.sh]
abbrev JE.ok (d:JE) (k:Nat) (t:St):Prop:=JG 65000 k d.fs d.gs d.ss t d.su
def JEP (k:Nat) (b age:Int) (X:List Nat) (w:World) (e:Ending) (w':World):Prop := ∃ (d:JE) (t:St) (er:Int),d.ok k t∧e = .returned (.tuple #[.agg (d.cells b age t),.int .i64 er])∧Sl ax w' X d.A d.n d.cp d.fs∧Sl bw w' X d.S d.m d.mc ((aJ 0 d.gs).map aD)∧Sl af w' X d.N d.nn d.cn (aa (aJ 0 d.gs)).ns∧Sl aI w' X d.C d.kk d.ck t.cs∧Below w.heap.size w w'
theorem JEP.of {k:Nat} {fs:List Fil} {gs:List Sg} {ss:List St} {t:St} {c:Int} {sh:Bool} {er b a:Int} {X:List Nat} {w:World} {e:Ending} {w':World} (h:JG 65000 k fs gs ss t c) (d:JPc fs 65000 b a ((aJ 0 gs).map aD) (aa (aJ 0 gs)) t c (kOf ss).q sh er X w e w'):JEP k b a X w e w':=by
 obtain⟨A,n,p,S,m,i,N,nn,j,C,kk,s,rfl,l,r,g,o,f⟩:=d
 exact⟨⟨fs,gs,ss,c,sh,A,n,p,S,m,i,N,nn,j,C,kk,s⟩,t,er,h,rfl,l,r,g,o,f⟩
theorem JG.mono {room:Int} {k k':Nat} {fs:List Fil} {gs:List Sg} {ss:List St} {t:St} {su:Int} (h:JG room k fs gs ss t su) (g:k≤k') (f:k'≤40):JG room k' fs gs ss t su:=by
 obtain⟨a,b,c,d,e⟩:=h
 exact⟨a,b,by omega,f,e⟩
section
variable {k:Nat} {d:JE} {t:St} (h:d.ok k t) (b age:Int) (hcf:dH b age=true) (X:List Nat) (w:World) (hX:XOk X w) (hfs:Sl ax w X d.A d.n d.cp d.fs) (hsg:Sl bw w X d.S d.m d.mc ((aJ 0 d.gs).map aD)) (hns:Sl af w X d.N d.nn d.cn (aa (aJ 0 d.gs)).ns) (hst:Sl aI w X d.C d.kk d.ck t.cs) (hp:aV w)
include h hcf hX hfs hsg hns hst hp
theorem Dj (o:k<40) (eq ea j:Int) (a:ByteArray) (ex i g:Int) (f:a.size≤maxLen):
 Calls Tryz.prog 10 #[.agg (d.cells b age t),.agg #[.int .i64 eq,.int .i64 ea,.int .i64 j,.string a,.int .i64 ex,.int .i64 i,.int .i64 g]] w (JEP (k+1) b age X w):=by
 refine(ng h o b age hcf d.A d.n d.cp d.S d.m d.mc d.N d.nn d.cn d.C d.kk d.ck d.sh X w hX hfs hsg hns hst hp eq ea j a ex i g f).mono ?_
 rintro e w' (⟨-,c⟩ | ⟨-,-,c⟩ | ⟨-,fs',gs',p,c,-,-,l⟩)
 ·exact JEP.of (h.mono (by omega) (by omega)) c
 ·exact JEP.of (h.mono (by omega) (by omega)) c
 ·exact JEP.of c l
theorem Ay:Calls Tryz.prog 11 #[.agg (d.cells b age t)] w (JEP k b age X w):=by
 refine(zV h b age hcf d.A d.n d.cp d.S d.m d.mc d.N d.nn d.cn d.C d.kk d.ck d.sh X w hX hfs hsg hns hst hp).mono ?_
 rintro e w' ⟨fs',gs',f,g,er,a,-,c⟩
 exact JEP.of a c
theorem FR:Calls Tryz.prog 21 #[.agg (d.cells b age t)] w (JEP k b age X w):=by
 refine(xx h b age hcf d.A d.n d.cp d.S d.m d.mc d.N d.nn d.cn d.C d.kk d.ck d.sh X w hX hfs hsg hns hst hp).mono ?_
 rintro e w' (⟨-,fs',a,c⟩ | ⟨-,fs',a,c⟩)
 ·refine JEP.of (sh:=d.sh) (er:=0) a ?_
  have f:(kOf (jB d.ss t)).q=t.q:=by rw[tY]
  rw[f]
  exact c
 ·exact JEP.of a c
end
end
section
open Go.RowKit
end
section
open Go.RowKit
def nh (l:List Evt):Bool:=l.all fun e=>decide (e.cm.size≤100)
set_option maxHeartbeats 1000000 in
theorem Aa (l:List Evt) (A:Option Addr) (n c:Nat) (X:List Nat) (w:World) (hX:XOk X w) (f:Sl iz w X A n c l) (E:n≤1000):
 Calls Tryz.prog 7 #[.slice A n c] w fun e w'=>e = .returned (.bool (nh l))∧Below w.heap.size w w':=by
 have p:=Lib.hid f.len
 have u:=Lib.hid f
 clear f
 go_enter Tryz.func7,Tryz.ntmps7
 go_wp2
 go_loopw [3] (fun i wr => ∃ (k:Nat),k≤n∧i = .int .i64 k∧Hid (∀ (j:Nat) d,j<k→l[j]?=some d→d.cm.size≤100)∧HH w [] X wr [] [Sl.fact iz A n c l]) (fun i _=>n-(intOf i).toNat)
 case atStart=>exact⟨0,Nat.zero_le _,rfl,Lib.hid (fun j d b=>absurd b (Nat.not_lt_zero _)),(hstart hX).ksl0 u.out⟩
 case round=>
  obtain⟨k,B,rfl,o,K⟩:=hrel
  by_cases y:k<n
  ·obtain⟨x,m⟩:∃ x,l[k]?=some x:=⟨_,List.getElem?_eq_getElem (by have:=p.out;omega)⟩
   obtain⟨ad,r,rfl,K,⟨rfl,t⟩⟩:=K.elem 0 rfl m
   have z:wr.cell? ⟨(ad.add (k*7)).block,(ad.add (k*7)).off+3,none⟩=some (.string x.cm):=K.at' 0 rfl 3 _ rfl
   have s:=Lib.hid m
   have D:(0:Int)≤(k:Int):=by omega
   have C:(k:Int)<(n:Int):=by omega
   clear m
   by_cases q:x.cm.size≤100
   ·have v:¬ (100:Int)<(x.cm.size:Int):=by omega
    go_wp2
    go_roundw
    case rel=>
     refine⟨k+1,by omega,by go_num,Lib.hid (fun j d b a=>?_),K.ft⟩
     by_cases h:j=k
     ·subst h
      rw[s.out]at a
      injection a with a
      subst a
      exact q
     ·exact o.out j d (by omega) a
    case measure=>simp[intOf];omega
   ·have v:(100:Int)<(x.cm.size:Int):=by omega
    have g:Hid (nh l=false):=Lib.hid (by
     unfold nh
     rw[List.all_eq_false]
     exact⟨x,List.mem_of_getElem? s.out,by simpa using q⟩)
    go_wp2
    go_ret
    exact⟨by rw[g.out];rfl,K.below⟩
  ·obtain rfl:k=n:=by omega
   have g:Hid (nh l=true):=Lib.hid (by
    unfold nh
    rw[List.all_eq_true]
    intro d a
    obtain⟨j,b,rfl⟩:=List.mem_iff_getElem.1 a
    exact decide_eq_true (o.out j _ (by have:=p.out;omega) (List.getElem?_eq_getElem b)))
   go_wp2
   go_ret
   exact⟨by rw[g.out];rfl,K.below⟩
end
section
open Go.RowKit
theorem zH {room:Int} (h:0≤room∧room≤65536):cj ⟨[],room⟩:=⟨by simp,h.1,h.2,by simp,List.Pairwise.nil,by simpa [aA] using h.1⟩
set_option maxHeartbeats 2000000 in
theorem Dc (room b a:Int) (f:0≤room∧room≤65536) (d:dH b a=false) (X:List Nat) (w:World) (hX:XOk X w):
 Calls Tryz.prog 8 #[.agg #[.slice none 0 0,.int .i64 room,.int .i64 (-1),.bool false],.agg #[.int .i64 b,.int .i64 a]] w fun e w'=>e = .returned (.tuple #[.agg #[.slice none 0 0,.int .i64 room,.int .i64 (-1),.bool false,.int .i64 0,.int .i64 0,.slice none 0 0,.int .i64 0,.int .i64 0,.slice none 0 0,.slice none 0 0,.int .i64 0,.int .i64 0,.int .i64 0,.int .i64 0,.bool false],.int .i64 1])∧Below w.heap.size w w':=by
 go_enter Tryz.func8,Tryz.ntmps8
 go_upto_region 1 with(fail)
 refine(hstart hX).cw fun W K=>?_
 go_wp2_with (first | refine K.ld 2 rfl ?_)
 refine(eZ ⟨[],room⟩ none 0 0 _ _ K.xok Sl.nil_ (zH f)).mono ?_
 rintro e g ⟨rfl,c⟩
 have K:=K.on c
 clear c
 go_wp2_with (first | refine bF (K.at_ 1 rfl) ?_)
 refine(rI b a _).mono ?_
 rw[d]
 rintro e h ⟨rfl,c⟩
 have K:=K.on c
 clear c
 go_wp2_with (first | refine K.ld 2 rfl ?_ | (refine K.sr 0 rfl fun W K=>?_))
 exact K.rc2 0 rfl rfl ⟨rfl,K.below⟩
end
end Go.Proofs.YtpokkciheejeiaaGreatDoor
