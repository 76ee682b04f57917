/- Lemmas and contracts that the proof of TopCut uses, part 9 of 16: each is a theorem for every input that its premises allow. -/
import Derived.Lib.SliceRun
import Derived.ArgAppend
import Derived.Test.YtpokkciheejeiaaGreatDoorTuH
set_option linter.unusedVariables false
set_option linter.unusedSimpArgs false
set_option maxRecDepth 100000
namespace Go.Proofs.YtpokkciheejeiaaGreatDoor
section
open Go.RowKit
theorem iS {pre post:List Fil} {x:Fil} (h:∀ d ∈ pre,d.nm≠x.nm):fI Fil.nm (pre++x::post) x.nm=pre.length:=
 oe (c:=x) (by simp) rfl (fun j d b a=>h d (by
  rw[List.getElem?_append_left b]at a
  exact List.mem_of_getElem? a))
theorem iO {pre post:List Fil} {x:Fil} (h:∀ d ∈ pre,d.nm≠x.nm):nU (pre++x::post) x.nm:=by
 unfold nU
 rw[iS h]
 exact⟨x,by simp,rfl⟩
theorem Ae {pre post:List Fil} {x:Fil} (h:∀ d ∈ pre,d.nm≠x.nm) (bs:List UInt8):fE (.wr x.nm bs) (pre++x::post)=pre++⟨x.nm,x.su,x.lo++bs⟩::post:=by
 unfold fE
 simp only
 rw[iS h]
 simp
theorem AA {pre post:List Fil} {x:Fil} (h:∀ d ∈ pre,d.nm≠x.nm):fE (.sy x.nm) (pre++x::post)=pre++⟨x.nm,x.su++x.lo,[]⟩::post:=by
 unfold fE
 simp only
 rw[iS h]
 simp
theorem Ba {pre post:List Fil} {nm:ByteArray} (h:∀ d ∈ pre,ltB d.nm nm=true) (c:∀ d ∈ post,ltB d.nm nm=false):fE (.mk nm) (pre++post)=pre++⟨nm,[],[]⟩::post:=by
 unfold fE
 simp only
 rw[mN (i:=pre.length) (by simp) (fun j d b a=>?_) (fun d a=>?_)]
 ·simp
 ·rw[List.getElem?_append_left b]at a
  exact h d (List.mem_of_getElem? a)
 ·rw[List.getElem?_append_right (Nat.le_refl _)]at a
  exact c d (List.mem_of_getElem? a)
theorem CY {pre post:List Fil} {nm:ByteArray} (h:∀ d ∈ pre,d.nm≠nm) (a:∀ d ∈ post,d.nm≠nm):findD (pre++post) nm = -1:=by
 unfold findD
 rw[lY (fun d b=>(List.mem_append.1 b).elim (h d) (a d)),if_neg (Nat.lt_irrefl _)]
theorem fQ (l m:List Fil):aA (l++m)=aA l+aA m:=by unfold aA;rw[List.map_append,List.sum_append]
theorem bH (x:Fil) (m:List Fil):aA (x::m)=x.all.length+aA m:=by unfold aA;rw[List.map_cons,List.sum_cons]
theorem oV (x:Fil):∀ l:List Fil,aA (fO Fil.nm x l)=x.all.length+aA l
 | []=>by simp[fO,aA]
 | y::l=>by
   unfold fO
   split
   ·rw[bH,oV x l,bH];omega
   ·rw[bH]
theorem qy {l:List Fil} {i:Nat} {x y:Fil} (h:l[i]?=some x):aA (l.set i y)+x.all.length=aA l+y.all.length:=by
 obtain⟨c,rfl⟩:=List.getElem?_eq_some_iff.1 h
 have a:l.set i y=l.take i++y::l.drop (i+1):=by rw[List.set_eq_take_append_cons_drop,if_pos c]
 have b:l=l.take i++l[i]::l.drop (i+1):=by rw[List.getElem_cons_drop,List.take_append_drop]
 rw[a]
 conv=>rhs;rw[b]
 rw[fQ,bH,fQ,bH]
 omega
theorem sF {room:Int} {s:Stp} {fs:List Fil} (h:cj ⟨fs,room⟩) (l:jK room s fs):cj ⟨fE s fs,room⟩∧(aA (fE s fs):Int)=aA fs+(match s with | .wr _ bs=>(bs.length:Int) | _=>0)∧(fE s fs).length=fs.length+(match s with | .mk _=>1 | _=>0):=by
 obtain⟨m,k,j,g,i,p⟩:=h
 simp only at m k j g i p
 cases s with
 | mk nm=>
   obtain⟨r,n,t⟩:=l
   have c:=oV ⟨nm,[],[]⟩ fs
   have q:(⟨nm,[],[]⟩:Fil).all.length=0:=rfl
   rw[q,Nat.zero_add]at c
   have o:∀ d ∈ fs,d.nm≠nm:=by
    refine qR ?_
    unfold findD at n
    split at n
    ·omega
    ·exact List.getElem?_eq_none_iff.2 (by omega)
   unfold fE
   refine⟨⟨by rw[jL];omega,k,j,fun f a=>?_,vh i o,by rw[c];exact p⟩,by rw[c];simp,by rw[jL]⟩
   rcases pe.1 a with rfl | a
   ·exact r
   ·exact g f a
 | wr nm bs=>
   obtain⟨⟨x,b,rfl⟩,n⟩:=l
   unfold fE
   simp only[b]
   have c:=qy (y:=⟨x.nm,x.su,x.lo++bs⟩) b
   have e:(⟨x.nm,x.su,x.lo++bs⟩:Fil).all.length=x.all.length+bs.length:=by simp[Fil.all];omega
   rw[e]at c
   refine⟨⟨by rw[List.length_set];exact m,k,j,fun f a=>?_,i.set b rfl,by show(aA (fs.set _ _):Int)≤room;omega⟩,by omega,by simp⟩
   rcases List.mem_or_eq_of_mem_set a with a | rfl
   ·exact g f a
   ·exact g x (List.mem_of_getElem? b)
 | sy nm=>
   obtain⟨x,b,rfl⟩:=l
   unfold fE
   simp only[b]
   have c:=qy (y:=⟨x.nm,x.su++x.lo,[]⟩) b
   have e:(⟨x.nm,x.su++x.lo,[]⟩:Fil).all.length=x.all.length:=by simp[Fil.all]
   rw[e]at c
   refine⟨⟨by rw[List.length_set];exact m,k,j,fun f a=>?_,i.set b rfl,by show(aA (fs.set _ _):Int)≤room;omega⟩,by omega,by simp⟩
   rcases List.mem_or_eq_of_mem_set a with a | rfl
   ·exact g f a
   ·exact g x (List.mem_of_getElem? b)
theorem bg.len:∀ {n:Nat} {fs:List Fil} {gs:List Sg},bg n fs gs→fs.length=gs.length
 | _,[],[],_=>rfl
 | n,f::fs,g::gs,h=>by rw[List.length_cons,List.length_cons,bg.len h.2.2]
 | _,[],_::_,h=>h.elim
 | _,_::_,[],h=>h.elim
theorem bg.nm:∀ {n:Nat} {fs:List Fil} {gs:List Sg},bg n fs gs → ∀ f ∈ fs,∃ m,n<m∧m≤n+gs.length∧f.nm=az m
 | _,[],[],_,f,hf=>by cases hf
 | n,f::fs,g::gs,h,x,a=>by
   rcases List.mem_cons.1 a with rfl | a
   ·exact⟨n+1,by omega,by simp,h.1⟩
   ·obtain⟨m,c,d,b⟩:=bg.nm h.2.2 x a
    exact⟨m,by omega,by rw[List.length_cons];omega,b⟩
 | _,[],_::_,h,_,_=>h.elim
 | _,_::_,[],h,_,_=>h.elim
theorem bg.snoc:∀ {n:Nat} {fs:List Fil} {gs:List Sg} {f:Fil} {g:Sg},bg n fs gs→f.nm=az (n+gs.length+1)→f.all=g.bt (n+gs.length+1)→bg n (fs ++ [f]) (gs ++ [g])
 | n,[],[],f,g,_,h1,h2=>⟨h1,h2,trivial⟩
 | n,x::fs,y::gs,f,g,h,h1,h2=>by
   refine⟨h.1,h.2.1,bg.snoc h.2.2 ?_ ?_⟩
   ·rw[h1,List.length_cons];congr 1;omega
   ·rw[h2,List.length_cons];congr 1;omega
 | _,[],_::_,_,_,h,_,_=>h.elim
 | _,_::_,[],_,_,h,_,_=>h.elim
theorem bg.last:∀ {n:Nat} {fs:List Fil} {gs:List Sg} {g:Sg},bg n fs (gs ++ [g]) → ∃ fa f,fs=fa ++ [f]∧bg n fa gs∧f.nm=az (n+gs.length+1)∧f.all=g.bt (n+gs.length+1)
 | n,[],gs,g,h=>by cases gs<;>exact h.elim
 | n,x::fs,[],g,h=>by
   obtain⟨b,c,a⟩:=h
   cases fs with
   | nil=>exact⟨[],x,rfl,trivial,b,c⟩
   | cons _ _=>exact a.elim
 | n,x::fs,y::gs,g,h=>by
   obtain⟨fa,f,b,c,a,d⟩:=bg.last h.2.2
   refine⟨x::fa,f,by rw[b];rfl,⟨h.1,h.2.1,c⟩,?_,?_⟩
   ·rw[a,List.length_cons];congr 1;omega
   ·rw[d,List.length_cons];congr 1;omega
theorem cQ:∀ (n:Nat) (gs:List Sg) (g:Sg),aJ n (gs ++ [g])=aJ n gs ++ [g.pr (n+gs.length+1)]
 | n,[],g=>rfl
 | n,x::gs,g=>by
   simp only[List.cons_append,aJ,cQ (n+1) gs g,List.length_cons]
   congr 4
   omega
theorem eH:∀ (gs:List Sg) (g:Sg) (s t:St),jd s (gs ++ [g]) t ↔ ∃ u,jd s gs u∧(∀ x ∈ gs,x.sd=true)∧qj u g t
 | [],g,s,t=>by
   constructor
   ·rintro⟨u,a,_,b⟩
    simp only[jd]at b
    subst b
    exact⟨s,rfl,by simp,a⟩
   ·rintro⟨u,a,_,b⟩
    simp only[jd]at a
    subst a
    exact⟨t,b,by simp,rfl⟩
 | x::gs,g,s,t=>by
   constructor
   ·rintro⟨u,a,b,f⟩
    obtain⟨v,d,c,e⟩:=(eH gs g u t).1 f
    refine⟨v,⟨u,a,fun _=>b (by simp),d⟩,fun y hy=>?_,e⟩
    rcases List.mem_cons.1 hy with rfl | hy
    ·exact b (by simp)
    ·exact c y hy
   ·rintro⟨v,⟨u,a,b,d⟩,c,e⟩
    exact⟨u,a,fun _=>c x (by simp),(eH gs g u t).2 ⟨v,d,fun y hy=>c y (by simp[hy]),e⟩⟩
theorem rj:∀ (l:List Evt) (e:Evt) (s t:St),cC s l=some t→cH t e=0→cC s (l ++ [e])=some (aZ t e)
 | [],e,s,t,h,hm=>by
   simp only[cC,Option.some.injEq]at h
   subst h
   simp[cC,hm]
 | x::l,e,s,t,h,hm=>by
   unfold cC at h
   rw[List.cons_append]
   unfold cC
   by_cases a:cH s x=0
   ·rw[if_pos a]at h ⊢
    exact rj l e _ t h hm
   ·rw[if_neg a]at h;cases h
theorem BM {gs:List Sg} {g:Sg} {s t:St} {e:Evt} (h:jd s (gs ++ [g]) t) (a:cH t e=0) (j:eG g.c e=0):jd s (gs ++ [{ g with evs:=g.evs ++ [e] }]) (aZ t e):=by
 obtain⟨u,d,f,b,i,m,k,l⟩:=(eH gs g s t).1 h
 exact(eH gs _ s _).2 ⟨u,d,f,b,i,by simp,(oD _ _ _).2 ⟨k,j⟩,rj _ _ _ _ l a⟩
theorem Ad {gs:List Sg} {g:Sg} {s t:St} (h:jd s (gs ++ [g]) t):jd s (gs ++ [{ g with sd:=true }]) t:=by
 obtain⟨u,b,c,a⟩:=(eH gs g s t).1 h
 exact(eH gs _ s _).2 ⟨u,b,c,a⟩
theorem gK {s:St} {e:Evt} (g:bD s) (b:cH s e=0):eG ⟨s.q,s.a,[]⟩ e=0:=by
 obtain⟨k,m,o,-⟩:=gz b
 obtain⟨l,d,c,f,i,n⟩:=g
 have j:aN ⟨s.q,s.a,[]⟩=true:=by unfold aN;simp[d,c,f,i,cK]
 unfold eG
 rw[j]
 simp only
 split
 ·rename_i h;simp at h
 split
 ·exact k
 split
 ·rename_i h;omega
 split
 ·rename_i h;omega
 ·rename_i h;simp
theorem xj {gs:List Sg} {s t:St} {e:Evt} (c:bD t) (h:jd s gs t) (d:∀ x ∈ gs,x.sd=true) (b:cH t e=0):jd s (gs ++ [⟨t.q,t.a,[e],false⟩]) (aZ t e):=
 (eH gs _ s _).2 ⟨t,h,d,rfl,rfl,by simp,⟨gK c b,trivial⟩,by simp[cC,b]⟩
theorem Dg (n:Nat) (g:Sg) (e:Evt) (h:g.sd=false):Sg.bt n { g with evs:=g.evs ++ [e] }=g.bt n++av 2 (aQ g.c e):=by
 unfold Sg.bt eo Sg.c Sg.c0
 simp only[h]
 rw[lI]
 simp
theorem DX (n:Nat) (g:Sg) (h:g.sd=false):Sg.bt n { g with sd:=true }=g.bt n++av 3 (aS (g.evs.length:Int) g.c.q g.c.a):=by
 unfold Sg.bt eo Sg.c Sg.c0
 simp only[h]
 simp
theorem Gd (n:Nat) (q a:Int):Sg.bt n ⟨q,a,[],false⟩=av 1 (aR++aS n q a):=by
 unfold Sg.bt eo Sg.c0
 simp[eL]
end
section
open Go.RowKit
def Beh (post:List Fil):Prop := ∀ d ∈ post,∀ n,n≤99999999→ltB (az n) d.nm=true
structure WI (post:List Fil) (room:Int) (fs:List Fil) (sg:List Sgi) (c:Cx) (gs:List Sg) (st:St):Prop where
 fa:∃ fa,fs=fa++post∧bg 0 fa gs
 goes:jd ⟨[],0,0⟩ gs st
 sg:sg=(aJ 0 gs).map aD
 c:c=aa (aJ 0 gs)
 dk:cj ⟨fs,room⟩
theorem kj:∀ (gs:List Sg) (s t:St),jd s gs t→bD s→bD t
 | [],s,t,h,hs=>by simp only[jd]at h;subst h;exact hs
 | g::gs,s,t,⟨u,h1,_,h2⟩,hs=>kj gs u t h2 (eU _ _ _ hs h1.2.2.2.2).1
theorem oO (a b:List Stp) (fs:List Fil):cF (a++b) fs=cF b (cF a fs):=by unfold cF;rw[List.foldl_append]
theorem kf (room:Int):∀ (a b:List Stp) (fs:List Fil),fG room a fs→fG room b (cF a fs)→fG room (a++b) fs
 | [],b,fs,_,h=>h
 | s::a,b,fs,h,h2=>⟨h.1,h.2.1,kf room a b _ h.2.2 h2⟩
theorem BI {n m:Nat} (b:n≤99999999) (a:m≤99999999) (h:az n=az m):n=m:=by rw[←iA b,h,iA a]
theorem bg.ne {fa:List Fil} {gs:List Sg} (h:bg 0 fa gs) (c:gs.length+1≤99999999):(∀ d ∈ fa,d.nm≠az (gs.length+1)) ∧ ∀ d ∈ fa,ltB d.nm (az (gs.length+1))=true:=by
 constructor
 ·intro d a e
  obtain⟨m,f,g,b⟩:=h.nm d a
  have:=BI (by omega) c (b.symm.trans e)
  omega
 ·intro d a
  obtain⟨m,f,g,b⟩:=h.nm d a
  rw[b]
  exact DY (by omega) c
theorem gW (n:Nat) (g:Sg):aD (g.pr n)=⟨n,g.bq,g.c.q,g.ba,g.c.a,((g.bt n).length:Int),g.sd⟩:=by
 unfold aD Sg.pr
 cases g.sd<;>simp
theorem fM (gs:List Sg) (g:Sg):aa (aJ 0 (gs ++ [g]))=if g.sd=true then⟨0,0,[]⟩ else g.c:=by
 unfold aa
 rw[cQ,List.getLast?_append,List.getLast?_singleton]
 unfold Sg.pr
 cases g.sd<;>simp
theorem rJ {post:List Fil} {room:Int} {fs:List Fil} {l:List Sg} {g g':Sg} {bs:List UInt8} (h:∃ fa,fs=fa++post∧bg 0 fa (l ++ [g])) (c:cj ⟨fs,room⟩) (q:l.length+1≤99999999) (k:(aA fs:Int)+bs.length≤room) (m:g'.bt (l.length+1)=g.bt (l.length+1)++bs):
 fG room [.wr (az (l.length+1)) bs] fs∧(∃ fa,cF [.wr (az (l.length+1)) bs] fs=fa++post∧bg 0 fa (l ++ [g']))∧cj ⟨cF [.wr (az (l.length+1)) bs] fs,room⟩∧aA (cF [.wr (az (l.length+1)) bs] fs)=aA fs+bs.length∧(cF [.wr (az (l.length+1)) bs] fs).length=fs.length:=by
 obtain⟨fb,rfl,n⟩:=h
 obtain⟨fa,f,rfl,i,a,j⟩:=n.last
 rw[Nat.zero_add]at a j
 obtain⟨b,-⟩:=i.ne q
 rw[←a]at b ⊢
 rw[List.append_assoc,List.singleton_append]at c k ⊢
 have d:jK room (.wr f.nm bs) (fa++f::post):=⟨iO b,k⟩
 obtain⟨o,p,r⟩:=sF c d
 have e:=Ae (post:=post) b bs
 have er:cF [.wr f.nm bs] (fa++f::post)=fE (.wr f.nm bs) (fa++f::post):=rfl
 refine⟨⟨c,d,trivial⟩,⟨fa ++ [⟨f.nm,f.su,f.lo++bs⟩],by rw[er,e];simp,i.snoc (by simpa using a) ?_⟩,by rw[er];exact o,by rw[er];simp only at p;omega,by rw[er];exact r⟩
 rw[Nat.zero_add,m,←j]
 simp[Fil.all]
theorem xo {post:List Fil} {room:Int} {fs:List Fil} {l:List Sg} {g:Sg} (h:∃ fa,fs=fa++post∧bg 0 fa (l ++ [g])) (c:cj ⟨fs,room⟩) (o:l.length+1≤99999999):
 fG room [.sy (az (l.length+1))] fs∧(∃ fa,cF [.sy (az (l.length+1))] fs=fa++post∧bg 0 fa (l ++ [g]))∧cj ⟨cF [.sy (az (l.length+1))] fs,room⟩∧aA (cF [.sy (az (l.length+1))] fs)=aA fs∧(cF [.sy (az (l.length+1))] fs).length=fs.length:=by
 obtain⟨fb,rfl,k⟩:=h
 obtain⟨fa,f,rfl,i,a,j⟩:=k.last
 rw[Nat.zero_add]at a j
 obtain⟨b,-⟩:=i.ne o
 rw[←a]at b ⊢
 rw[List.append_assoc,List.singleton_append]at c ⊢
 have d:jK room (.sy f.nm) (fa++f::post):=iO b
 obtain⟨m,n,p⟩:=sF c d
 have e:=AA (post:=post) b
 have er:cF [.sy f.nm] (fa++f::post)=fE (.sy f.nm) (fa++f::post):=rfl
 refine⟨⟨c,d,trivial⟩,⟨fa ++ [⟨f.nm,f.su++f.lo,[]⟩],by rw[er,e];simp,i.snoc (by simpa using a) ?_⟩,by rw[er];exact m,by rw[er];simp only at n;omega,by rw[er];exact p⟩
 rw[Nat.zero_add,←j]
 simp[Fil.all]
theorem DB {post:List Fil} {room:Int} {fs:List Fil} {gs:List Sg} {g:Sg} {bs:List UInt8} (h:∃ fa,fs=fa++post∧bg 0 fa gs) (r:Beh post) (i:cj ⟨fs,room⟩) (k:gs.length+1≤99999999) (u:fs.length<64) (y:(aA fs:Int)+bs.length≤room) (s:g.bt (gs.length+1)=bs):
 fG room [.mk (az (gs.length+1)),.wr (az (gs.length+1)) bs] fs∧(∃ fa,cF [.mk (az (gs.length+1)),.wr (az (gs.length+1)) bs] fs=fa++post∧bg 0 fa (gs ++ [g]))∧cj ⟨cF [.mk (az (gs.length+1)),.wr (az (gs.length+1)) bs] fs,room⟩ ∧
  aA (cF [.mk (az (gs.length+1)),.wr (az (gs.length+1)) bs] fs)=aA fs+bs.length∧(cF [.mk (az (gs.length+1)),.wr (az (gs.length+1)) bs] fs).length=fs.length+1:=by
 obtain⟨fa,rfl,n⟩:=h
 obtain⟨b,l⟩:=n.ne k
 have m:∀ d ∈ post,ltB (az (gs.length+1)) d.nm=true:=fun d f=>r d f _ k
 have c:jK room (.mk (az (gs.length+1))) (fa++post):=⟨EC k,CY b (fun d f e=>iW (m d f) e.symm),u⟩
 obtain⟨j,o,q⟩:=sF i c
 have e:=Ba (post:=post) l (fun d f=>yN (m d f))
 simp only at o q
 rw[e]at j o q
 have a:jK room (.wr (az (gs.length+1)) bs) (fa++⟨az (gs.length+1),[],[]⟩::post):=⟨iO (x:=⟨az (gs.length+1),[],[]⟩) b,by omega⟩
 obtain⟨v,t,w⟩:=sF j a
 have p:=Ae (post:=post) (x:=⟨az (gs.length+1),[],[]⟩) b bs
 simp only at p t w
 have er:cF [.mk (az (gs.length+1)),.wr (az (gs.length+1)) bs] (fa++post)=fE (.wr (az (gs.length+1)) bs) (fa++⟨az (gs.length+1),[],[]⟩::post):=by
  show fE (.wr (az (gs.length+1)) bs) (fE (.mk (az (gs.length+1))) (fa++post))=_
  rw[e]
 refine⟨⟨i,c,by rw[e];exact⟨j,a,trivial⟩⟩,⟨fa ++ [⟨az (gs.length+1),[],[]++bs⟩],by rw[er,p];simp,n.snoc (by simp) ?_⟩,by rw[er];exact v,by rw[er];omega,by rw[er];omega⟩
 rw[Nat.zero_add,s]
 simp[Fil.all]
theorem WI.sealW {post:List Fil} {room:Int} {fs:List Fil} {n:List Sgi} {c:Cx} {l:List Sg} {g:Sg} {st:St} (h:WI post room fs n c (l ++ [g]) st) (u:g.sd=false) (f:l.length+1≤99999999)
 (v:(aA fs:Int)+(av 3 (aS (g.evs.length:Int) g.c.q g.c.a)).length≤room):
 fG room [.wr (az (l.length+1)) (av 3 (aS (g.evs.length:Int) g.c.q g.c.a)),.sy (az (l.length+1))] fs ∧
 WI post room (cF [.wr (az (l.length+1)) (av 3 (aS (g.evs.length:Int) g.c.q g.c.a)),.sy (az (l.length+1))] fs)
  ((aJ 0 l).map aD ++ [{ aD (g.pr (l.length+1)) with sz:=((g.bt (l.length+1)).length:Int)+(av 3 (aS (g.evs.length:Int) g.c.q g.c.a)).length,sd:=true }]) ⟨0,0,[]⟩ (l ++ [{ g with sd:=true }]) st ∧
 aA (cF [.wr (az (l.length+1)) (av 3 (aS (g.evs.length:Int) g.c.q g.c.a)),.sy (az (l.length+1))] fs)=aA fs+(av 3 (aS (g.evs.length:Int) g.c.q g.c.a)).length∧(cF [.wr (az (l.length+1)) (av 3 (aS (g.evs.length:Int) g.c.q g.c.a)),.sy (az (l.length+1))] fs).length=fs.length:=by
 generalize d:av 3 (aS (g.evs.length:Int) g.c.q g.c.a)=bs at *
 have b:Sg.bt (l.length+1) { g with sd:=true }=g.bt (l.length+1)++bs:=by rw[DX _ _ u,d]
 obtain⟨a1,s,r,k,i⟩:=rJ (g':={ g with sd:=true }) h.fa h.dk f v b
 obtain⟨m,j,t,w,p⟩:=xo s r f
 have e:([.wr (az (l.length+1)) bs,.sy (az (l.length+1))]:List Stp) = [.wr (az (l.length+1)) bs] ++ [.sy (az (l.length+1))]:=rfl
 rw[e,oO]
 refine⟨kf _ _ _ _ a1 m,⟨j,Ad h.goes,?_,by rw[fM];rfl,t⟩,by rw[w,k],by rw[p,i]⟩
 rw[cQ,List.map_append,Nat.zero_add,List.map_singleton,gW,gW,b]
 have o:Sg.c { g with sd:=true }=g.c:=rfl
 simp[o]
theorem WI.more {post:List Fil} {room:Int} {fs:List Fil} {n:List Sgi} {c:Cx} {l:List Sg} {g:Sg} {st:St} {e:Evt} (h:WI post room fs n c (l ++ [g]) st) (i:g.sd=false) (s:l.length+1≤99999999) (m:cH st e=0) (o:eG g.c e=0)
 (t:(aA fs:Int)+(av 2 (aQ g.c e)).length≤room):
 fG room [.wr (az (l.length+1)) (av 2 (aQ g.c e))] fs ∧
 WI post room (cF [.wr (az (l.length+1)) (av 2 (aQ g.c e))] fs)
  ((aJ 0 l).map aD ++ [{ aD (g.pr (l.length+1)) with sz:=((g.bt (l.length+1)).length:Int)+(av 2 (aQ g.c e)).length,la:=e.q,tt:=e.a }]) (bJ g.c e) (l ++ [{ g with evs:=g.evs ++ [e] }]) (aZ st e) ∧
 aA (cF [.wr (az (l.length+1)) (av 2 (aQ g.c e))] fs)=aA fs+(av 2 (aQ g.c e)).length∧(cF [.wr (az (l.length+1)) (av 2 (aQ g.c e))] fs).length=fs.length:=by
 generalize f:av 2 (aQ g.c e)=bs at *
 have d:Sg.bt (l.length+1) { g with evs:=g.evs ++ [e] }=g.bt (l.length+1)++bs:=by rw[Dg _ _ _ i,f]
 obtain⟨a1,r,p,k,j⟩:=rJ (g':={ g with evs:=g.evs ++ [e] }) h.fa h.dk s t d
 have b:Sg.c { g with evs:=g.evs ++ [e] }=bJ g.c e:=nr _ _ _
 refine⟨a1,⟨r,BM h.goes m o,?_,by rw[fM,b];simp[i],p⟩,k,j⟩
 rw[cQ,List.map_append,Nat.zero_add,List.map_singleton,gW,gW,d,b]
 simp[bJ]
theorem WI.beg {post:List Fil} {room:Int} {fs:List Fil} {sg:List Sgi} {c:Cx} {gs:List Sg} {st:St} {e:Evt} (h:WI post room fs sg c gs st) (n:Beh post) (A:∀ x ∈ gs,x.sd=true) (m:gs.length+1≤99999999) (y:fs.length<64) (t:cH st e=0)
 (C:(aA fs:Int)+(av 1 (aR++aS ((gs.length+1:Nat):Int) st.q st.a)).length+(av 2 (aQ ⟨st.q,st.a,[]⟩ e)).length≤room):
 fG room [.mk (az (gs.length+1)),.wr (az (gs.length+1)) (av 1 (aR++aS ((gs.length+1:Nat):Int) st.q st.a)),.wr (az (gs.length+1)) (av 2 (aQ ⟨st.q,st.a,[]⟩ e))] fs ∧
 WI post room (cF [.mk (az (gs.length+1)),.wr (az (gs.length+1)) (av 1 (aR++aS ((gs.length+1:Nat):Int) st.q st.a)),.wr (az (gs.length+1)) (av 2 (aQ ⟨st.q,st.a,[]⟩ e))] fs)
  (sg ++ [⟨((gs.length+1:Nat):Int),st.q,e.q,st.a,e.a,((av 1 (aR++aS ((gs.length+1:Nat):Int) st.q st.a)).length:Int)+(av 2 (aQ ⟨st.q,st.a,[]⟩ e)).length,false⟩]) (bJ ⟨st.q,st.a,[]⟩ e) (gs ++ [⟨st.q,st.a,[e],false⟩]) (aZ st e) ∧
 aA (cF [.mk (az (gs.length+1)),.wr (az (gs.length+1)) (av 1 (aR++aS ((gs.length+1:Nat):Int) st.q st.a)),.wr (az (gs.length+1)) (av 2 (aQ ⟨st.q,st.a,[]⟩ e))] fs)=aA fs+(av 1 (aR++aS ((gs.length+1:Nat):Int) st.q st.a)).length+(av 2 (aQ ⟨st.q,st.a,[]⟩ e)).length ∧
 (cF [.mk (az (gs.length+1)),.wr (az (gs.length+1)) (av 1 (aR++aS ((gs.length+1:Nat):Int) st.q st.a)),.wr (az (gs.length+1)) (av 2 (aQ ⟨st.q,st.a,[]⟩ e))] fs).length=fs.length+1:=by
 have k:=kj _ _ _ h.goes bI
 generalize j:av 1 (aR++aS ((gs.length+1:Nat):Int) st.q st.a)=b1 at *
 generalize i:av 2 (aQ ⟨st.q,st.a,[]⟩ e)=b2 at *
 have d:Sg.bt (gs.length+1) ⟨st.q,st.a,[],false⟩=b1:=by rw[Gd,j]
 have b:Sg.bt (gs.length+1) ⟨st.q,st.a,[e],false⟩=Sg.bt (gs.length+1) ⟨st.q,st.a,[],false⟩++b2:=by
  rw[←i]
  exact Dg (gs.length+1) ⟨st.q,st.a,[],false⟩ e rfl
 obtain⟨a1,z,v,l,r⟩:=DB (g:=⟨st.q,st.a,[],false⟩) (bs:=b1) h.fa n h.dk m y (by omega) d
 obtain⟨o,s,B,w,p⟩:=rJ (g':=⟨st.q,st.a,[e],false⟩) z v m (by rw[l];omega) b
 have u:([.mk (az (gs.length+1)),.wr (az (gs.length+1)) b1,.wr (az (gs.length+1)) b2]:List Stp) = [.mk (az (gs.length+1)),.wr (az (gs.length+1)) b1] ++ [.wr (az (gs.length+1)) b2]:=rfl
 rw[u,oO]
 have f:Sg.c ⟨st.q,st.a,[e],false⟩=bJ ⟨st.q,st.a,[]⟩ e:=rfl
 refine⟨kf _ _ _ _ a1 o,⟨s,xj k h.goes A t,?_,by rw[fM];rfl,B⟩,by rw[w,l],by rw[p,r]⟩
 rw[h.sg,cQ,List.map_append,Nat.zero_add,List.map_singleton,gW,b,d,f]
 simp[bJ]
end
section
open Go.RowKit
theorem kY {P:Program} (w:World) (t e ty:TypeId) (z:Value) (h:P.underlying t=some (.slice e)) (f:∀ w,(zeroValue e).run P w = .ok z w) (b o n c:Nat) (zs:List Value) (d:(Builtin.zeroCells z.cells n).toList=zs) (l:0<n) (k:∀ v ∈ zs,v.oneCell'=true)
 (g:∀ j,j<zs.length→(w.cell? ⟨b,o+j,none⟩).isSome=true) (i:∀ j,j<zs.length→w.frozen? ⟨b,o+j,none⟩=false):
 (Builtin.clear_ #[t] ty #[.slice (some ⟨b,o,none⟩) n c]).run P w = .ok (.tuple #[]) (w.setCells b o zs):=by
 have a:=run_storeCells_cells (P:=P) b o zs 0 w (by simpa using g) (by simpa using i) k
 simp only[Nat.add_zero]at a
 obtain⟨m,rfl⟩:∃ m,n=m+1:=⟨n-1,by omega⟩
 simp[Builtin.clear_,run_underlying h,f,d,a]
def fD (a b:ByteArray) (x:Fil):Bool:=decide (x.nm=a) || decide (x.nm=b)
theorem CI (x y:ByteArray):(x.toList == y.toList)=decide (x=y):=by
 rw[Bool.eq_iff_iff,beq_iff_eq,decide_eq_true_eq]
 exact⟨pF,fun h=>by rw[h]⟩
theorem xg (x:Fil) (A:Option Addr) (n h:Nat) (B:Option Addr) (m d f c:Nat) (a b:ByteArray) (w:World) (k:w.cell? ⟨f,0,none⟩=some (.string a)) (p:w.cell? ⟨c,0,none⟩=some (.string b)) (j:f<w.heap.size) (i:c<w.heap.size):
 Calls Tryz.prog 206 #[.agg (kR x A n h B m d).toArray,.pointer (some ⟨f,0,none⟩),.pointer (some ⟨c,0,none⟩)] w fun e w'=>e = .returned (.bool (fD a b x))∧Below w.heap.size w w':=by
 have q:¬ f=w.heap.size:=by omega
 have l:¬ c=w.heap.size:=by omega
 have g:=CI x.nm a
 have o:=CI x.nm b
 unfold fD
 simp only[kR]
 cases ha:decide (x.nm=a) with
 | true=>
   rw[ha]at g
   go_enter Tryz.func206,Tryz.ntmps206
   go_wp2
   go_ret
   exact⟨rfl,(Below.refl _ _).alloc (Nat.le_refl _) _⟩
 | false=>
   rw[ha]at g
   go_enter Tryz.func206,Tryz.ntmps206
   go_wp2
   go_ret
   exact⟨rfl,(Below.refl _ _).alloc (Nat.le_refl _) _⟩
theorem BG (fs:List Fil) (a b:ByteArray) (i:Nat) (x:Fil) (H:fs[i]?=some x) (G:fD a b x=true) (hpre:∀ (j:Nat) d,j<i→fs[j]?=some d→fD a b d=false) (A:Option Addr) (n F q m:Nat) (X:List Nat) (w:World) (hX:XOk X w) (t:Sl ax w X A n F fs) (Z:n≤64) (L:w.cell? ⟨q,0,none⟩=some (.string a)) (N:w.cell? ⟨m,0,none⟩=some (.string b)) (z:q<w.heap.size) (u:m<w.heap.size):
 Calls Tryz.prog 105 #[.slice A n F,.func (.func 206) #[] #[.pointer (some ⟨q,0,none⟩),.pointer (some ⟨m,0,none⟩)]] w fun e w'=>e = .returned (.int .i64 (i:Int))∧Below w.heap.size w w':=by
 have R:=Lib.hid t
 have S:=Lib.hid t.len
 have I:=Lib.hid L
 have l:=Lib.hid N
 have U:i<n:=by have:=(List.getElem?_eq_some_iff.1 H).1;have:=t.len;omega
 have B:=Lib.hid H
 clear t L N H
 go_enter Tryz.func105,Tryz.ntmps105
 go_wp2
 go_loopw [8,5] (fun v _ wr => ∃ (k:Nat),k≤i∧v = .int .i64 k∧HH w [] X wr [] [Sl.fact ax A n F fs]) (fun v _ _=>n-(intOf v).toNat)
 case atStart=>exact⟨0,Nat.zero_le _,rfl,(hstart hX).ksl0 R.out⟩
 case round=>
  obtain⟨k,V,rfl,K⟩:=hrel
  obtain⟨y,hy⟩:∃ y,fs[k]?=some y:=⟨_,List.getElem?_eq_getElem (by have:=S.out;omega)⟩
  obtain⟨ad,r,rfl,E,D,⟨J,O,o,P,M,p,rfl,C,s,T⟩,g⟩:=(K.sl 0 rfl).at' hy
  have Y:(0:Int)≤(k:Int):=by omega
  have W:(k:Int)<(n:Int):=by omega
  have f:fD a b y=decide (k=i):=by
   by_cases c:k=i
   ·subst c
    rw[B.out]at hy
    injection hy with hy
    rw[←hy,G,decide_eq_true rfl]
   ·rw[hpre k y (by omega) hy,decide_eq_false c]
  clear E D C s hy
  by_cases c:k=i
  ·rw[decide_eq_true c]at f
   subst c
   clear G hpre
   go_wp2_with (first | (refine bF g ?_) | (go_at_call 206;refine(xg y J O o P M p q m a b _ ((K.below.cell z).trans I.out) ((K.below.cell u).trans l.out) (Nat.lt_of_lt_of_le z K.out.size) (Nat.lt_of_lt_of_le u K.out.size)).mono ?_;rw[f];rintro e Q ⟨rfl,h⟩;have K:=K.on h;clear h g))
   go_ret
   exact⟨rfl,K.below⟩
  ·rw[decide_eq_false c]at f
   clear G hpre
   go_wp2_with (first | (refine bF g ?_) | (go_at_call 206;refine(xg y J O o P M p q m a b _ ((K.below.cell z).trans I.out) ((K.below.cell u).trans l.out) (Nat.lt_of_lt_of_le z K.out.size) (Nat.lt_of_lt_of_le u K.out.size)).mono ?_;rw[f];rintro e Q ⟨rfl,h⟩;have K:=K.on h;clear h g))
   go_roundw
   case rel=>exact⟨k+1,by omega,by go_num,K⟩
   case measure=>simp[intOf];omega
def eJ (a b:ByteArray) (fs:List Fil):List Fil:=fs.filter (fun d => !fD a b d)
theorem uM {fs:List Fil} {k:Nat} {x:Fil} (a b:ByteArray) (h:fs[k]?=some x):eJ a b (fs.take (k+1))=if fD a b x=true then eJ a b (fs.take k) else eJ a b (fs.take k) ++ [x]:=by
 obtain⟨c,rfl⟩:=List.getElem?_eq_some_iff.1 h
 unfold eJ
 rw[List.take_succ_eq_append_getElem c,List.filter_append]
 cases hd:fD a b fs[k]<;>simp[hd]
theorem xZ {h W:World} {M X:List Nat} {L:List Itm} {F:List Fact} {e:TypeId} {size n m g cap:Nat} {xs:List Value} (K:HH h M X W (.row e size (.slice (some ⟨g,0,none⟩) n cap) n xs::L) F) (j:m≤n):HH h M X W (.row e size (.slice (some ⟨g,0,none⟩) m cap) m (xs.take (m*size))::L) F:=by
 obtain⟨q,⟨k,_⟩ | ⟨g',cap',cur,o,i,f,r,p,h9,d⟩⟩:=K.row 0 rfl
 ·cases k
 ·injection o with a l b
  injection a with a
  injection a with a
  subst a b
  have c:m*size≤n*size:=Nat.mul_le_mul_right _ j
  refine K.out.turn 0 (x' := .row e size (.slice (some ⟨g,0,none⟩) m cap) m (xs.take (m*size))) rfl (Nat.le_refl _) ⟨rfl,rfl,rfl⟩ (fun _ _ _=>rfl) ⟨by rw[List.length_take];omega,.inr ⟨g,cap,cur,rfl,i,f,by omega,p,h9,?_⟩⟩ (fun g' e'=>⟨.inl e',by injection e' with e';subst e';exact Blk.lt (t:=e) f⟩)
  rw[←d,List.take_take,Nat.min_eq_left c]
end
section
open Go.RowKit
theorem HH.rml {c W:World} {M X:List Nat} {L:List Itm} {F:List Fact} {g:Nat} {t:TypeId} {cs:Array Value} (K:HH c M X W L F) (a:Itm.box g t cs ∈ L):g<W.heap.size:=by
 obtain⟨i,b⟩:=List.getElem?_of_mem a
 exact K.out.lt i b
theorem wE {a b:ByteArray}:∀ (l:List Fil),(∀ d ∈ l,fD a b d=false)→eJ a b l=l:=fun l h=>by
 unfold eJ
 exact List.filter_eq_self.2 fun d c=>by rw[h d c];rfl
theorem qA (n:Nat):(Builtin.zeroCells (#[.string ⟨#[]⟩,.slice none 0 0,.slice none 0 0]:Array Value) n).toList.length=n*3 ∧ ∀ v ∈ (Builtin.zeroCells (#[.string ⟨#[]⟩,.slice none 0 0,.slice none 0 0]:Array Value) n).toList,v.oneCell'=true:=by
 unfold Builtin.zeroCells
 refine⟨by simp,fun v a=>?_⟩
 simp only[Array.toList_map,List.mem_map]at a
 obtain⟨i,-,rfl⟩:=a
 rcases(show i%3=0∨i%3=1∨i%3=2 from by omega) with h | h | h
 all_goals
  show(#[Value.string ⟨#[]⟩,.slice none 0 0,.slice none 0 0][i%3]!).oneCell'=true
  rw[h]
  rfl
theorem EZ (w:World):(zeroValue 110).run Tryz.prog w = .ok (.agg #[.string ⟨#[]⟩,.slice none 0 0,.slice none 0 0]) w:=by kernel_rfl
set_option maxHeartbeats 3000000 in
theorem Fs (fs:List Fil) (a b:ByteArray) (B:Nat) (x0:Fil) (z:fs[B]?=some x0) (G:fD a b x0=true) (hpre:∀ (j:Nat) d,j<B→fs[j]?=some d→fD a b d=false) (g1 Z:Nat) (t1 t2:TypeId) (w0 w:World) (X:List Nat) (L:List Itm) (F:List Fact) (v:Value) (vs:List Value)
 (K:HH w0 [] X w (.row 110 3 v fs.length vs::L) (Ra.fact ax vs fs::F)) (hn:fs.length≤64) (O:Itm.box g1 t1 #[.string a] ∈ L) (Y:Itm.box Z t2 #[.string b] ∈ L):
 Calls Tryz.prog 205 #[v,.func (.func 206) #[] #[.pointer (some ⟨g1,0,none⟩),.pointer (some ⟨Z,0,none⟩)]] w fun e w' => ∃ v' vs',e = .returned v'∧HH w0 [] X w' (.row 110 3 v' (eJ a b fs).length vs'::L) (Ra.fact ax vs' (eJ a b fs)::F):=by
 have ae:=(List.getElem?_eq_some_iff.1 z).1
 have ah:=Lib.hid z
 have ag:Hid (eJ a b (fs.take (B+1))=fs.take B):=Lib.hid (by
  rw[uM a b z,if_pos G]
  refine wE _ fun d hd=>?_
  obtain⟨j,hj,rfl⟩:=List.mem_iff_getElem.1 hd
  rw[List.length_take]at hj
  rw[List.getElem_take]
  exact hpre j _ (by omega) (List.getElem?_eq_getElem (by omega)))
 obtain⟨A,cap,rfl,-⟩:=aK (K.row 0 rfl)
 obtain⟨g,rfl⟩:∃ g,A=some ⟨g,0,none⟩:=by
  rcases(K.row 0 rfl).2 with⟨h,_⟩ | ⟨g,cap',cur,h,_⟩
  ·injection h with O Y h3;omega
  ·injection h with O;exact⟨g,O⟩
 have HN:=Lib.hid (rfl:fs.length=fs.length)
 obtain⟨n,N⟩:∃ n,n=fs.length:=⟨_,rfl⟩
 rw[←N]at K hn ae ⊢
 have M:=Lib.hid N
 have D:=ah.out
 clear z HN
 obtain⟨A3,ap,e3,KS⟩:=K.out.done_row (s:=ax) 0 rfl (K.ra 0 rfl) (by decide) (by simp)
 injection e3 with e3 e4 e5
 subst e3 e5
 clear e4 N
 go_enter Tryz.func205,Tryz.ntmps205
 go_wp2_with fail
 refine(BG fs a b B x0 D G hpre _ n cap g1 Z _ w KS.xok' (KS.sl 0 rfl) hn (K.rm (List.mem_cons_of_mem _ O) 0) (K.rm (List.mem_cons_of_mem _ Y) 0) (K.rml (List.mem_cons_of_mem _ O)) (K.rml (List.mem_cons_of_mem _ Y))).mono ?_
 rintro e w1 ⟨rfl,C⟩
 have K:=K.on C
 clear C KS hpre G D
 have i1:((B:Int) == -1)=false:=by simp
 go_wp2
 clear i1
 go_loopw [5,6] (fun p q wr => ∃ (i j:Nat) (o:List Fil) (c:List Value),i<j∧j≤n∧p = .int .i64 i∧q = .int .i64 j∧Hid (o.length=n∧o.take i=eJ a b (fs.take j)∧o.drop j=fs.drop j) ∧
  HH w0 [] X wr (.row 110 3 (.slice (some ⟨g,0,none⟩) n cap) n c::L) (Ra.fact ax c o::F)) (fun _ q _=>n-(intOf q).toNat)
 case atStart=>exact⟨B,B+1,fs,vs,by omega,by omega,rfl,by go_num,Lib.hid ⟨M.out.symm,ag.out.symm,rfl⟩,K⟩
 case round=>
  obtain⟨i,j,o,c,ar,aw,rfl,rfl,l,K⟩:=hrel
  have i1:(0:Int)≤(j:Int):=by omega
  have i3:(0:Int)≤(i:Int):=by omega
  have i4:(i:Int)<(n:Int) ∨ ¬ (i:Int)<(n:Int):=by omega
  by_cases am:j<n
  ·obtain⟨x,hx⟩:∃ x,fs[j]?=some x:=⟨_,List.getElem?_eq_getElem (by have:=M.out;omega)⟩
   have H:o[j]?=some x:=by
    have h:=l.out.2.2
    have h3:(o.drop j)[0]?=(fs.drop j)[0]?:=by rw[h]
    rw[List.getElem?_drop,List.getElem?_drop]at h3
    simpa using h3.trans hx
   obtain⟨r,E,al⟩:=rowAt (K.ra 0 rfl) (e:=110) (g:=g) (n:=n) (cap:=cap) H
   have K:=K.kn (f:=ax.fact r x) E
   obtain⟨A1,n1,V,A2,n2,R,rfl,-⟩:=E
   have i2:(j:Int)<(n:Int):=by omega
   have i5:(i:Int)<(n:Int):=by omega
   have S:=Lib.hid (uM a b hx)
   have ao:=Lib.hid H
   clear hx H i4
   go_upto_region 8 with(first | refine bF (al _ (K.row 0 rfl)) ?_ | (refine K.lw fun W K=>?_;refine K.sr 0 rfl fun W K=>?_))
   go_wp2_with (first | refine K.ld 0 rfl ?_)
   refine(xg x A1 n1 V A2 n2 R g1 Z a b _ (K.rm (List.mem_cons_of_mem _ (List.mem_cons_of_mem _ O)) 0) (K.rm (List.mem_cons_of_mem _ (List.mem_cons_of_mem _ Y)) 0) (K.rml (List.mem_cons_of_mem _ (List.mem_cons_of_mem _ O))) (K.rml (List.mem_cons_of_mem _ (List.mem_cons_of_mem _ Y)))).mono ?_
   cases hdl:fD a b x with
   | true=>
     rintro e w2 ⟨rfl,C⟩
     have K:=K.on C
     clear C
     go_wp2
     go_roundw
     case rel=>
      refine⟨i,j+1,o,c,by omega,by omega,rfl,by go_num,Lib.hid ⟨l.out.1,?_,?_⟩,K.tl.ft⟩
      ·rw[S.out,if_pos hdl];exact l.out.2.1
      ·rw[←List.drop_drop,l.out.2.2,List.drop_drop]
     case measure=>simp[intOf];omega
   | false=>
     rintro e w2 ⟨rfl,C⟩
     have K:=K.on C
     clear C
     have ad:c.length=n*3:=by have I:=(K.ra 1 rfl).length;rw[l.out.1]at I;exact I
     go_wp2_with (first | refine K.ld 0 rfl ?_ | refine K.rs (k:=i*3) (cells:=(kR x A1 n1 V A2 n2 R).toArray) 1 rfl (by show i*3+3≤c.length;omega) fun W K=>?_)
     go_roundw
     case rel=>
      obtain⟨y,hy⟩:∃ y,o[i]?=some y:=⟨_,List.getElem?_eq_getElem (by have:=l.out.1;omega)⟩
      have u:=aC.put (s:=ax) (K.ra 1 rfl) hy (K.fa 0 rfl)
      have U:=(List.getElem?_eq_some_iff.1 hy).1
      refine⟨i+1,j+1,o.set i x,_,by omega,by omega,by go_num,by go_num,Lib.hid ⟨by rw[List.length_set];exact l.out.1,?_,?_⟩,((K.kra u).tl.out.forget (List.Sublist.cons_cons _ (List.Sublist.cons _ (List.Sublist.cons _ (List.Sublist.refl _))))).hh⟩
      ·rw[S.out,if_neg (by rw[hdl];simp),←l.out.2.1,List.take_succ_eq_append_getElem (by rw[List.length_set];exact U),List.take_set_of_le (Nat.le_refl _)]
       simp
      ·rw[List.drop_set_of_lt (by omega),←List.drop_drop,l.out.2.2,List.drop_drop]
     case measure=>simp[intOf];omega
  ·obtain rfl:j=n:=by omega
   have hcap:j≤cap:=by
    rcases(K.row 0 rfl).2 with⟨h,_⟩ | ⟨g',cap',cur,h,-,-,I,-⟩
    ·cases h
    ·injection h with h6 h7 h8;omega
   have hcap2:cap≤maxLen:=by
    rcases(K.row 0 rfl).2 with⟨h,_⟩ | ⟨g',cap',cur,h,-,-,-,I,-⟩
    ·cases h
    ·injection h with h6 h7 h8;omega
   unfold maxLen at hcap2
   have i2:¬ (j:Int)<(j:Int):=by omega
   have i5:(i:Int)≤(j:Int):=by omega
   have i6:¬ cap=i:=by omega
   obtain⟨J,Q⟩:=qA (j-i)
   have ad:c.length=j*3:=by have I:=(K.ra 0 rfl).length;rw[l.out.1]at I;exact I
   have t:o.take i=eJ a b fs:=by
    rw[l.out.2.1,List.take_of_length_le (by have:=M.out;omega)]
   have U:(eJ a b fs).length=i:=by rw[←t,List.length_take,l.out.1];omega
   have ac:=fun ty=>kY (P:=Tryz.prog) wr 28 110 ty (.agg #[.string ⟨#[]⟩,.slice none 0 0,.slice none 0 0]) Tryz.underlying28 EZ g (i*3) (j-i) (cap-i) _ rfl (by omega) Q (fun k hk=>by
    have ab:i*3+k<c.length:=by rw[show((Value.agg #[.string ⟨#[]⟩,.slice none 0 0,.slice none 0 0]).cells)=(#[.string ⟨#[]⟩,.slice none 0 0,.slice none 0 0]:Array Value) from rfl,J]at hk;omega
    rw[K.rowc 0 rfl (List.getElem?_eq_getElem ab)]
    rfl) (fun k hk=>K.rowf 0 rfl _)
   have T:=(K.out.row_sets 0 rfl (i*3) (Builtin.zeroCells (#[.string ⟨#[]⟩,.slice none 0 0,.slice none 0 0]:Array Value) (j-i)).toList (by rw[J];omega)).hh
   have T:=xZ T (m:=i) (by omega)
   have e1:(cV c (i*3) (Builtin.zeroCells (#[.string ⟨#[]⟩,.slice none 0 0,.slice none 0 0]:Array Value) (j-i)).toList).take (i*3)=c.take (i*ax.size):=by
    have e2:(c.take (i*3)).length=i*3:=by rw[List.length_take];omega
    show _=c.take (i*3)
    unfold cV
    rw[List.append_assoc,List.take_append_of_le_length (by omega),List.take_of_length_le (by omega)]
   clear J Q
   go_wp2_with (simp only[ac])
   go_ret
   rw[e1]at T
   have u:=(T.ra 0 rfl).take i
   rw[t]at u
   have K3:=((T.kra u).out.forget (List.Sublist.cons_cons _ (List.Sublist.cons _ (List.Sublist.refl _)))).hh
   exact⟨_,rfl,_,K3⟩
end
section
open Go.RowKit
theorem mE {nm:ByteArray} (h:fnB nm=true):nm.size≤maxLen:=by
 unfold fnB at h
 unfold maxLen
 simp at h
 omega
theorem zF (d:Dk) (nm:ByteArray) (A:Option Addr) (n f:Nat) (X:List Nat) (w:World) (hX:XOk X w) (g:Sl ax w X A n f d.fs) (b:cj d) (c:fnB nm=true) (i:findD d.fs nm = -1):
 Calls Tryz.prog 13 #[.agg #[.slice A n f,.int .i64 d.room,.int .i64 (-1),.bool false],.string nm] w fun e w'=>e = .returned (.tuple #[.slice none 0 0,.int .i64 14])∧Below w.heap.size w w':=by
 have l:=g.len
 have j:n≤64:=by have:=b.1;omega
 have k:=Lib.hid i
 have h:=mE c
 clear i l
 go_enter Tryz.func13,Tryz.ntmps13
 go_wp2_with fail
 refine(hstart hX).cl fun W K=>?_
 have K:=(K.ksl0 g).one (s:=dx) (x:=nm) ⟨rfl,h⟩
 clear g
 refine(fj d A n f [nm] _ 1 1 _ W K.xok (K.sl 1 rfl) (K.sl 0 rfl) (by omega) (by simp[c]) b).mono ?_
 rintro e m ⟨rfl,a⟩
 have K:=(K.on a).ft
 clear a
 have c0:=K.r 0 rfl
 go_wp2_with fail
 refine(fy d.fs d.room nm A n f _ _ K.xok (K.sl 0 rfl) (by omega)).mono ?_
 rw[k.out]
 rintro e o ⟨rfl,a⟩
 have K:=K.on a
 clear a c0
 go_wp2
 go_ret2
 exact⟨rfl,K.below⟩
set_option maxHeartbeats 2000000 in
theorem wS (a b:ByteArray) (y p m:Nat) (R C B:TypeId) (fs:List Fil) (k:Nat) (x:Fil) (D:fs[k]?=some x) (ab:x.nm=a) (z:Nat) (I:Fil) (H:fs[z]?=some I) (E:fD a b I=true) (hpre:∀ (j:Nat) d,j<z→fs[j]?=some d→fD a b d=false) (Z:fs.length≤64) (s:Srt Fil.nm (eJ a b fs)) (J:b.size≤maxLen):
 kW 204 #[.pointer (some ⟨y,0,none⟩),.pointer (some ⟨p,0,none⟩),.pointer (some ⟨m,0,none⟩)] [.box y R #[.int .i64 (k:Int)],.box p C #[.string a],.box m B #[.string b]] [] fs (fO Fil.nm ⟨b,x.su,x.lo⟩ (eJ a b fs)):=by
 intro S w X L F v vs K hL hF
 have m0:Itm.box y R #[.int .i64 (k:Int)] ∈ L:=hL _ (by simp)
 have m1:Itm.box p C #[.string a] ∈ L:=hL _ (by simp)
 have Y:Itm.box m B #[.string b] ∈ L:=hL _ (by simp)
 have hk:=(List.getElem?_eq_some_iff.1 D).1
 have ac:(eJ a b fs).length≤fs.length:=List.length_filter_le _ _
 show Calls _ _ #[v,.pointer (some ⟨y,0,none⟩),.pointer (some ⟨p,0,none⟩),.pointer (some ⟨m,0,none⟩)] _ _
 obtain⟨A,cap,rfl,-⟩:=aK (K.row 0 rfl)
 obtain⟨g,rfl⟩:∃ g,A=some ⟨g,0,none⟩:=by
  rcases(K.row 0 rfl).2 with⟨h,_⟩ | ⟨g,cap',cur,h,_⟩
  ·injection h with V h2 J;omega
  ·injection h with V;exact⟨g,V⟩
 obtain⟨r,t,u⟩:=rowAt (K.ra 0 rfl) (e:=110) (g:=g) (n:=fs.length) (cap:=cap) D
 obtain⟨M,O,o,T,N,l,rfl,U,Q,f3⟩:=t
 have K:=(K.kn (f:=Sl.fact ak T N l x.lo) Q).kn (f:=Sl.fact ak M O o x.su) U
 have c0:=K.rm (List.mem_cons_of_mem _ m0) 0
 have i1:(0:Int)≤(k:Int):=by omega
 have P:(k:Int)<(fs.length:Int):=by omega
 obtain⟨n,i⟩:∃ n,n=fs.length:=⟨_,rfl⟩
 rw[←i]at K u P
 have q:=Lib.hid i
 clear U Q D i
 go_enter Tryz.func204,Tryz.ntmps204
 go_upto_region 2 with(first | refine bF (u _ (K.row 0 rfl)) ?_ | (refine K.lw fun W K=>?_;refine K.sr 0 rfl fun W K=>?_))
 have K:=(K.mv 1 rfl).up 2 rfl
 have e:=q.out
 subst e
 clear c0 P q
 go_wp2_with fail
 refine(Fs fs a b z I H E hpre p m C B S _ X _ _ _ vs K Z (List.mem_cons_of_mem _ m1) (List.mem_cons_of_mem _ Y)).mono ?_
 rintro e w2 ⟨v',vs',rfl,K⟩
 have c2:=K.rm (List.mem_cons_of_mem _ (List.mem_cons_of_mem _ Y)) 0
 have c1:=K.c 1 rfl
 go_upto_region 4 with(fail)
 refine K.cw fun W K=>?_
 clear c1 c2
 go_wp2_with (first | refine K.ld 1 rfl ?_)
 refine(uC ⟨b,x.su,x.lo⟩ M O o T N l (eJ a b fs) S _ X _ _ v' _ vs' K (by omega) s (K.sl 1 rfl) (K.sl 2 rfl) J).mono ?_
 rintro e w3 ⟨v3,G,rfl,K⟩
 go_wp2
 go_ret
 rw[jN]
 exact⟨v3,G,rfl,((K.drop (List.Sublist.cons_cons _ (List.sublist_cons_self _ _))).out.forget (List.Sublist.cons_cons _ (List.Sublist.cons _ (List.Sublist.cons _ (List.Sublist.cons _ (List.Sublist.refl _)))))).hh⟩
def DI (a b:ByteArray) (x:Fil) (fs:List Fil):List Fil:=fO Fil.nm ⟨b,x.su,x.lo⟩ (eJ a b fs)
theorem zg {fs:List Fil} {a b:ByteArray} {k:Nat} {x:Fil} (n:fs[k]?=some x) (o:fD a b x=true):∃ (e:Nat) (f:Fil),fs[e]?=some f∧fD a b f=true ∧ ∀ (j:Nat) d,j<e→fs[j]?=some d→fD a b d=false:=by
 induction k using Nat.strongRecOn generalizing x with
 | ind k ih=>
   by_cases h:∃ j d,j<k∧fs[j]?=some d∧fD a b d=true
   ·obtain⟨j,d,g,l,i⟩:=h
    exact ih j g l i
   ·refine⟨k,x,n,o,fun j d m c=>?_⟩
    cases hb:fD a b d with
    | false=>rfl
    | true=>exact absurd ⟨j,d,m,c,hb⟩ h
set_option maxHeartbeats 2000000 in
theorem wD (d:Dk) (x:Fil) (i:Nat) (b:ByteArray) (A:Option Addr) (n h:Nat) (X:List Nat) (w:World) (hX:XOk X w) (j:Sl ax w X A n h d.fs) (g:cj d) (o:d.fs[i]?=some x) (v:findD d.fs x.nm=(i:Int)) (p:fnB b=true) (k:Srt Fil.nm (eJ x.nm b d.fs)):
 Calls Tryz.prog 134 #[.agg #[.slice A n h,.int .i64 d.room,.int .i64 (-1),.bool false],.string x.nm,.string b] w (eV (DI x.nm b x d.fs) d.room X w):=by
 have m:=g.2.2.2.1 x (List.mem_of_getElem? o)
 have z:n≤64:=by have:=g.1;have:=j.len;omega
 have N:i<n:=by have:=(List.getElem?_eq_some_iff.1 o).1;have:=j.len;omega
 obtain⟨F,J,t,u,C⟩:=zg (a:=x.nm) (b:=b) o (by unfold fD;simp)
 have G:=Lib.hid v
 have l:=fun(I H E:Nat) (t0 t1 t2:TypeId)=>Lib.hid (wS x.nm b I H E t0 t1 t2 d.fs i x o rfl F J t u C g.1 k (mE p))
 have O:=Lib.hid j.len
 have L:=mE m
 have P:=mE p
 have R:¬ (i:Int) = -1:=by omega
 clear v t u C o
 go_enter Tryz.func134,Tryz.ntmps134
 go_wp2_with fail
 refine(hstart hX).cl fun W K=>?_
 have K:=(K.ksl0 j).many (n:=2) (s:=dx) (xs:=[x.nm,b]) (aO.2 ⟨rfl,by simp only[List.mem_cons,List.not_mem_nil,or_false];rintro y (rfl | rfl)<;>assumption⟩) rfl (by omega)
 clear j
 refine(fj d A n h [x.nm,b] _ 2 2 _ W K.xok (K.sl 1 rfl) (K.sl 0 rfl) (by omega) (by simp[m,p]) g).mono ?_
 rintro e M ⟨rfl,f⟩
 have K:=(K.on f).ft
 clear f
 have D:=K.r 2 rfl
 go_wp2_with (first | refine K.ld 3 rfl ?_)
 refine(fy d.fs d.room x.nm A n h _ _ K.xok (K.sl 0 rfl) (by omega)).mono ?_
 rw[G.out]
 rintro e q ⟨rfl,f⟩
 have K:=K.on f
 clear f D
 go_upto_region 5 with(fail)
 refine K.cw fun W K=>?_
 have c0:=K.r 0 rfl
 go_wp2_with (first | refine K.ld 4 rfl ?_)
 have hact:=((l q.heap.size (w.heap.size+1) (w.heap.size+1+1) 3 9 9).out).more (L2:=[.box q.heap.size 3 #[.int .i64 (i:Int)],.box (w.heap.size+1+1+1) 30 #[.slice none 0 0,.int .i64 0,.int .i64 0,.bool false],.box (w.heap.size+1+1) 9 #[.string b],.box (w.heap.size+1) 9 #[.string x.nm],.box w.heap.size 30 #[.slice A n h,.int .i64 d.room,.int .i64 (-1),.bool false]]) (F2:=[]) (by simp) (by simp)
 refine(gG 204 #[.pointer (some ⟨q.heap.size,0,none⟩),.pointer (some ⟨w.heap.size+1,0,none⟩),.pointer (some ⟨w.heap.size+1+1,0,none⟩)] _ [] d.fs (DI x.nm b x d.fs) d.room A n h w _ X K (by omega) hact Tryz.call204).mono ?_
 rintro e Q ⟨B,c,rfl,K⟩
 clear c0
 go_wp2_with (refine K.lw fun W K=>?_;refine K.sr 1 rfl fun W K=>?_)
 exact K.rc2 1 rfl rfl ⟨_,_,rfl,K.slb 0 rfl,K.below⟩
end
section
open Go.RowKit
def aL (l:List Int):List UInt8:=l.flatMap (fun n=>au n.toNat)
def okN (l:List Int):Prop := ∀ x ∈ l,0≤x∧x≤9223372036854775807
theorem BE {l:List Int} {k:Nat} {x:Int} (h:l[k]?=some x):aL (l.take (k+1))=aL (l.take k)++au x.toNat:=by
 obtain⟨a,rfl⟩:=List.getElem?_eq_some_iff.1 h
 unfold aL
 rw[List.take_succ_eq_append_getElem a,List.flatMap_append]
 simp
theorem aP:∀ (l:List Int),okN l→(aL l).length≤10*l.length
 | [],_=>by simp[aL]
 | x::l,h=>by
   have c:=h x (by simp)
   have a:=aP l (fun y hy=>h y (by simp[hy]))
   have b:=bu x.toNat (by omega)
   unfold aL at a ⊢
   rw[List.flatMap_cons,List.length_append,List.length_cons]
   omega
theorem HH.rds {c W:World} {M X:List Nat} {L:List Itm} {F:List Fact} {g:Nat} {t:TypeId} {cs:Array Value} (K:HH c M X W L F) (i:Nat) (a:L[i]?=some (.box g t cs)) (k m:Nat) (vs:List Value) (b:(cs.toList.drop k).take vs.length=vs:=by rfl) (hm:vs.length=m:=by rfl):Reads W W.heap.size 1 (some ⟨g,k,none⟩) m vs:=
 ⟨by omega,fun _=>⟨_,rfl,K.out.lt i a,fun j u d=>by
  rw[add_plain]
  have:=K.sub i a k vs b j u d
  rwa [add_plain]at this⟩⟩
set_option maxHeartbeats 1000000 in
theorem dB (l:List Int) (p:okN l) (S:Option Addr) (m u:Nat) (bs:List UInt8) (A:Option Addr) (n c:Nat) (X:List Nat) (w:World) (hX:XOk X w) (b:Sl ak w X A n c bs) (h:Reads w w.heap.size 1 S m (l.map (Value.int .i64 ·))) (C:bs.length+10*l.length≤800000):
 Calls Tryz.prog 247 #[.slice A n c,.slice S m u] w fun e w' => ∃ B nb cb,e = .returned (.slice B nb cb)∧Sl ak w' X B nb cb (bs++aL l)∧Below w.heap.size w w':=by
 have j:m=l.length:=by have:=h.1;simpa using this.symm
 have f:=Lib.hid j
 have L:=Lib.hid h
 clear j h
 have J:m≤80000:=by have:=f.out;omega
 go_enter Tryz.func247,Tryz.ntmps247
 go_upto_region 1 with(fail)
 refine(hstart hX).cw fun W K=>?_
 have K:=K.ksl0 b
 clear b
 go_wp2
 go_loopw [0,9] (fun v i wr => ∃ (k nb:Nat) (B:Option Addr) (cb:Nat),k≤m∧i = .int .i64 k∧v = .slice B nb cb∧HH w [] X wr [] [Sl.fact ak B nb cb (bs++aL (l.take k))]) (fun _ i _=>m-(intOf i).toNat)
 case atStart=>exact⟨0,n,A,c,Nat.zero_le _,rfl,rfl,by simpa [aL] using K⟩
 case round=>
  obtain⟨k,nb,B,cb,O,rfl,rfl,K⟩:=hrel
  by_cases H:k<m
  ·obtain⟨x,g⟩:∃ x,l[k]?=some x:=⟨_,List.getElem?_eq_getElem (by have:=f.out;omega)⟩
   have E:=p x (List.mem_of_getElem? g)
   have M:=Lib.hid (BE g)
   have I:nb≤800000:=by
    have D:=(K.sl 0 rfl).len
    have G:=aP (l.take k) (fun y hy=>p y (List.mem_of_mem_take hy))
    rw[List.length_append]at D
    rw[List.length_take]at G
    have:=f.out
    omega
   obtain⟨ad,rfl,d,o⟩:=L.out.2 (by omega)
   have q:=(K.below.cell (by rw[aF];exact d)).trans (o k (.int .i64 x) (by rw[List.getElem?_map,g];rfl))
   have P:(0:Int)≤(k:Int):=by omega
   have z:(k:Int)<(m:Int):=by omega
   have F:IntKind.u64.wrap x=x:=IntWalk.u64_in _ (by omega)
   clear g o
   go_wp2_with fail
   refine(fV K.xok (K.sl 0 rfl) x (by omega) (by omega) (by omega)).mono ?_
   rintro e N ⟨r,s,rfl,a,b⟩
   rw[List.append_assoc,←M.out]at a
   have K:=(K.on b).ksl a
   clear b a q F
   go_wp2
   go_roundw
   case rel=>exact⟨k+1,_,r,s,by omega,by go_num,rfl,(K.out.forget (List.Sublist.cons_cons _ (List.Sublist.cons _ List.Sublist.slnil))).hh⟩
   case measure=>simp[intOf];omega
  ·have z:¬ (k:Int)<(m:Int):=by omega
   have t:l.take k=l:=List.take_of_length_le (by have:=f.out;omega)
   rw[t]at K
   go_wp2
   go_ret
   exact⟨B,nb,cb,rfl,K.slb 0 rfl,K.below⟩
end
section
open Go.RowKit
def fZ (p:Int×Int):List UInt8:=aL [p.1,p.2]
def h9 (h:Nat→Int):List Int:=[h 0,h 1,h 2,h 3,h 4,h 5,h 6,h 7,h 8]
def dU (c:Cmp):List UInt8:=bG c.nm.data.toList++aL [c.role,c.mode]++(if c.role=1 then aL [c.wd,c.sl,(c.cells.length:Int)]++c.cells.flatMap fZ else [])++(if c.role=1∨c.role=3 then aL (h9 c.h)++aL [c.hs] else []) ++
 (if c.role=2∨c.role=3 then aL [c.room,c.has] else [])++aL [c.ct 0,c.ct 1,c.ct 2]
theorem mI:∀ (cs:List (Int×Int)) (k:Nat) (o b:Int),cs[k]?=some (o,b)→(aB cs)[k*2]?=some (.int .i64 o)∧(aB cs)[k*2+1]?=some (.int .i64 b)
 | [],k,o,b,h=>by simp at h
 | e::l,0,o,b,h=>by
   simp only[List.getElem?_cons_zero,Option.some.injEq]at h
   subst h
   exact⟨rfl,rfl⟩
 | e::l,k+1,o,b,h=>by
   obtain⟨a,c⟩:=mI l k o b (by simpa using h)
   rw[aU,Nat.succ_mul]
   exact⟨a,c⟩
theorem ay.at_ {w:World} {X:List Nat} {A:Option Addr} {n:Nat} {cs:List (Int×Int)} (h:ay w X A n cs) {k:Nat} {o b:Int} (c:cs[k]?=some (o,b)):∃ ad,A=some ad∧ad.block<w.heap.size∧ad.block ∉ X∧At w (ad.add (k*2)) [.int .i64 o,.int .i64 b]:=by
 have l:=(List.getElem?_eq_some_iff.1 c).1
 have d:0<n:=by have:=h.1;omega
 obtain⟨ad,rfl,g,e⟩:=h.2.1.2 d
 obtain⟨i,f⟩:=mI cs k o b c
 refine⟨ad,rfl,g,h.2.2 d ad rfl,fun j v a=>?_⟩
 rw[cB]
 match j with
 | 0=>exact e _ _ (by simp only[List.getElem?_cons_zero,Option.some.injEq]at a;subst a;exact i)
 | 1=>exact e _ _ (by simp only[List.getElem?_cons_succ,List.getElem?_cons_zero,Option.some.injEq]at a;subst a;exact f)
 | j+2=>simp at a
theorem aE {x:Int} {l:List Int} (b:0≤x) (a:x≤9223372036854775807) (h:okN l):okN (x::l):=fun y hy=>by
 rcases List.mem_cons.1 hy with rfl | hy
 ·exact⟨b,a⟩
 ·exact h y hy
theorem bC:okN []:=fun y hy=>by cases hy
theorem sX {p:Int×Int} (h:bX p=false):(0≤p.1∧p.1≤1099511627776)∧(0≤p.2∧p.2≤1099511627776):=by
 unfold bX at h
 simp only[Bool.or_eq_false_iff,Bool.not_eq_false']at h
 have a:bM p.1=true:=h.1
 have b:bM p.2=true:=h.2
 unfold bM at a b
 exact⟨of_decide_eq_true a,of_decide_eq_true b⟩
theorem uw {p:Int×Int} (h:bX p=false):okN [p.1,p.2]:=by
 obtain⟨⟨a,b⟩,c,d⟩:=sX h
 exact aE (by omega) (by omega) (aE (by omega) (by omega) bC)
theorem iT:∀ (l:List (Int×Int)),(∀ e ∈ l,bX e=false)→(l.flatMap fZ).length≤20*l.length
 | [],_=>by simp
 | p::l,h=>by
   have a:=aP _ (uw (h p (by simp)))
   have d:=iT l (fun e b=>h e (by simp[b]))
   simp only[List.length_cons,List.length_nil]at a
   have c:(fZ p).length=(aL [p.1,p.2]).length:=rfl
   rw[List.flatMap_cons,List.length_append,List.length_cons]
   omega
theorem zP {l:List (Int×Int)} {k:Nat} {p:Int×Int} (h:l[k]?=some p):(l.take (k+1)).flatMap fZ=(l.take k).flatMap fZ++aL [p.1,p.2]:=by
 obtain⟨a,rfl⟩:=List.getElem?_eq_some_iff.1 h
 rw[List.take_succ_eq_append_getElem a,List.flatMap_append]
 simp[fZ]
theorem mh {s:ByteArray} (h:s.size≤24):(bG s.data.toList).length≤34:=by
 have a:=bu s.data.toList.length (by have:s.data.toList.length=s.size:=Array.length_toList;omega)
 have b:s.data.toList.length=s.size:=Array.length_toList
 unfold bG
 rw[List.length_append]
 omega
def rU (bs:List UInt8) (X:List Nat) (w:World) (e:Ending) (w':World):Prop := ∃ B nb cb,e = .returned (.slice B nb cb)∧Sl ak w' X B nb cb bs∧Below w.heap.size w w'
set_option maxHeartbeats 4000000 in
theorem CB (nm:ByteArray) (mode wd sl:Int) (cells:List (Int×Int)) (h:Nat→Int) (j room has:Int) (d:Nat→Int) (J:dR ⟨nm,1,mode,wd,sl,cells,h,j,room,has,d⟩) (G:Option Addr) (g T:Nat) (bs:List UInt8) (A:Option Addr) (n c:Nat) (X:List Nat) (w:World) (hX:XOk X w) (b:Sl ak w X A n c bs) (R:ay w X G g cells) (ab:bs.length≤300000):
 Calls Tryz.prog 248 #[.slice A n c,.agg (cD ⟨nm,1,mode,wd,sl,cells,h,j,room,has,d⟩ G g T).toArray] w (rU (bs++dU ⟨nm,1,mode,wd,sl,cells,h,j,room,has,d⟩) X w):=by
 obtain⟨⟨U,S⟩,⟨D,z,u⟩,s⟩:=J
 simp only at U S D z u s
 unfold bM at D z u
 have D:=of_decide_eq_true D
 have z:=of_decide_eq_true z
 have u:=of_decide_eq_true u
 have z0:=mh S
 have okF:okN [d 0,d 1,d 2]:=aE (by omega) (by omega) (aE (by omega) (by omega) (aE (by omega) (by omega) bC))
 have z7:=aP _ okF
 have ac:n≤300000:=by have:=b.len;omega
 obtain⟨-,g1,g2,g3,g4,-,-⟩:True∧0≤mode∧mode≤2∧cJ wd sl cells=true∧bV h j=true∧room=0∧has=0:=by
  rcases s with s | s | s
  ·exact⟨trivial,s.2⟩
  ·omega
  ·omega
 obtain⟨⟨r1,r2,r3,r4,r5,r6⟩,I⟩:=dn.1 g3
 have z3:=iT cells I
 have okB:okN [wd,sl,(cells.length:Int)]:=aE (by omega) (by omega) (aE (by omega) (by omega) (aE (by omega) (by omega) bC))
 have V:=aP _ okB
 have C:okN [1,mode]:=aE (by omega) (by omega) (aE (by omega) (by omega) bC)
 have z1:=aP _ C
 obtain⟨m,f2,f3⟩:=kM g4
 have t:okN (h9 h):=by
  intro x p
  simp only[h9,List.mem_cons,List.not_mem_nil,or_false]at p
  rcases p with rfl | rfl | rfl | rfl | rfl | rfl | rfl | rfl | rfl
  all_goals first | (have:=m 0 (by omega);omega) | (have:=m 1 (by omega);omega) | (have:=m 2 (by omega);omega) | (have:=m 3 (by omega);omega) | (have:=m 4 (by omega);omega) | (have:=m 5 (by omega);omega) | (have:=m 6 (by omega);omega) | (have:=m 7 (by omega);omega) | (have:=m 8 (by omega);omega)
 have z4:=aP _ t
 have H:okN [j]:=aE (by omega) (by omega) bC
 have z5:=aP _ H
 simp only[h9,List.length_cons,List.length_nil]at z1 z7 V z4 z5
 have L:=Lib.hid (show bs++dU ⟨nm,1,mode,wd,sl,cells,h,j,room,has,d⟩=bs++bG nm.data.toList++aL [1,mode]++aL [wd,sl,(cells.length:Int)]++cells.flatMap fZ++aL (h9 h)++aL [j]++aL [d 0,d 1,d 2] from by simp[dU])
 clear s D z u U
 generalize dU ⟨nm,1,mode,wd,sl,cells,h,j,room,has,d⟩=E at L ⊢
 simp only[cD]
 go_enter Tryz.func248,Tryz.ntmps248
 go_upto_region 1 with(fail)
 refine(hstart hX).cw fun W K=>?_
 have K:=(K.k0 (f:=ay.fact G g cells) R).ksl0 b
 clear b R
 have c0:=K.r 0 rfl
 go_wp2_with fail
 refine(kL K.xok (K.sl 0 rfl) nm (by omega) (by omega)).mono ?_
 rintro e w1 ⟨B1,k1,rfl,a,b⟩
 have K:=(K.on b).ft.ksl a
 clear b a c0
 have c0:=K.r 0 rfl
 go_wp2_with fail
 refine K.cl fun W K=>?_
 refine(dB [1,mode] C _ 2 _ (bs++bG nm.data.toList) _ _ _ _ _ K.xok (K.sl 0 rfl) (K.rds 0 rfl 0 2 _) (by simp only[List.length_append,h9,List.length_cons,List.length_nil];omega)).mono ?_
 rintro e w2 ⟨B2,n2,k2,rfl,a,b⟩
 have K:=((K.on b).ft.ksl a).tl
 clear b a
 clear c0
 have c0:=K.r 0 rfl
 have F:=(K.fa 1 rfl).1
 go_upto_region 4 with(fail)
 have l:=Lib.hid F
 clear F
 go_wp2_with fail
 refine K.cl fun W K=>?_
 rw[show(g:Int)=(cells.length:Int) from by rw[l.out]]at K
 refine(dB [wd,sl,(cells.length:Int)] okB _ 3 _ (bs++bG nm.data.toList++aL [1,mode]) _ _ _ _ _ K.xok (K.sl 0 rfl) (K.rds 0 rfl 0 3 _) (by simp only[List.length_append,h9,List.length_cons,List.length_nil];omega)).mono ?_
 rintro e w3 ⟨B3,n3,k3,rfl,a,b⟩
 have K:=((K.on b).ft.ksl a).tl
 clear b a
 clear c0
 have c0:=K.r 0 rfl
 go_upto_region 5 with(fail)
 go_wp2
 clear c0
 generalize hP:bs++bG nm.data.toList++aL [1,mode]++aL [wd,sl,(cells.length:Int)]=P at K
 have M:g≤16:=by have:=l.out;omega
 have ae:P.length≤300200:=by rw[←hP];simp only[List.length_append];omega
 have HP:=Lib.hid hP
 clear hP
 go_loopw [0,38] (fun v i wr => ∃ (k nb:Nat) (B:Option Addr) (cb:Nat),k≤g∧i = .int .i64 k∧v = .slice B nb cb∧HH w [] X wr [.box w.heap.size 95 #[.string nm,.int .i64 1,.int .i64 mode,.int .i64 wd,.int .i64 sl,.slice G g T,.int .i64 (h 0),.int .i64 (h 1),.int .i64 (h 2),.int .i64 (h 3),.int .i64 (h 4),.int .i64 (h 5),.int .i64 (h 6),.int .i64 (h 7),.int .i64 (h 8),.int .i64 j,.int .i64 room,.int .i64 has,.int .i64 (d 0),.int .i64 (d 1),.int .i64 (d 2)]] [Sl.fact ak B nb cb (P++(cells.take k).flatMap fZ),ay.fact G g cells]) (fun _ i _=>g-(intOf i).toNat)
 case atStart=>exact⟨0,n3,B3,k3,Nat.zero_le _,rfl,rfl,by simpa using K⟩
 case round=>
  obtain⟨k,nb,B,cb,hk,rfl,rfl,K⟩:=hrel
  by_cases Z:k<g
  ·obtain⟨⟨o,q⟩,p⟩:∃ x,cells[k]?=some x:=⟨_,List.getElem?_eq_getElem (by have:=l.out;omega)⟩
   have hw:=I _ (List.mem_of_getElem? p)
   have HX:=Lib.hid (zP p)
   have N:(P++(cells.take k).flatMap fZ).length≤301000:=by
    have h2:=iT (cells.take k) (fun y hy=>I y (List.mem_of_mem_take hy))
    rw[List.length_take]at h2
    rw[List.length_append]
    omega
   obtain⟨ad,rfl,a1,Q,O⟩:=(K.fa 1 rfl).at_ p
   have K:=K.kn (f:=At.fact (ad.add (k*2)) _) ⟨by rw[aF];exact a1,by rw[aF];exact Q,O⟩
   have i1:(0:Int)≤(k:Int):=by omega
   have i2:(k:Int)<(g:Int):=by omega
   clear p a1 Q O
   go_upto_region 8 with(first | refine bF (K.at' 0 rfl) ?_ | (refine K.lw fun W K=>?_;refine K.sr 0 rfl fun W K=>?_))
   have K:=K.ft
   have c0:=K.r 0 rfl
   go_wp2_with fail
   refine K.cl fun W K=>?_
   refine(dB [o,q] (uw hw) _ 2 _ _ _ _ _ _ _ K.xok (K.sl 0 rfl) (K.rds 0 rfl 0 2 _) (by simp only[List.length_cons,List.length_nil];omega)).mono ?_
   rintro e w4 ⟨B4,n4,k4,rfl,a,b⟩
   rw[List.append_assoc,←HX.out]at a
   have K:=((K.on b).ft.ksl a).tl.tl
   clear b a c0
   go_wp2
   go_roundw
   case rel=>exact⟨k+1,n4,B4,k4,by omega,by go_num,rfl,K⟩
   case measure=>simp[intOf];omega
  ·have i2:¬ (k:Int)<(g:Int):=by omega
   have e1:cells.take k=cells:=List.take_of_length_le (by have:=l.out;omega)
   rw[e1,←HP.out]at K
   have c0:=K.r 0 rfl
   go_upto_region 11 with(fail)
   go_wp2_with fail
   refine(dB (h9 h) t _ 9 _ (bs++bG nm.data.toList++aL [1,mode]++aL [wd,sl,(cells.length:Int)]++cells.flatMap fZ) _ _ _ _ _ K.xok (K.sl 0 rfl) (K.rds 0 rfl 6 9 _) (by simp only[List.length_append,h9,List.length_cons,List.length_nil];omega)).mono ?_
   rintro e w5 ⟨B5,n5,k5,rfl,a,b⟩
   have K:=((K.on b).ft.ksl a)
   clear b a
   clear c0
   have c0:=K.r 0 rfl
   go_wp2_with fail
   refine K.cl fun W K=>?_
   refine(dB [j] H _ 1 _ (bs++bG nm.data.toList++aL [1,mode]++aL [wd,sl,(cells.length:Int)]++cells.flatMap fZ++aL (h9 h)) _ _ _ _ _ K.xok (K.sl 0 rfl) (K.rds 0 rfl 0 1 _) (by simp only[List.length_append,h9,List.length_cons,List.length_nil];omega)).mono ?_
   rintro e w6 ⟨B6,n6,k6,rfl,a,b⟩
   have K:=((K.on b).ft.ksl a).tl
   clear b a
   clear c0
   have c0:=K.r 0 rfl
   go_upto_region 15 with(fail)
   go_wp2_with fail
   refine(dB [d 0,d 1,d 2] okF _ 3 _ (bs++bG nm.data.toList++aL [1,mode]++aL [wd,sl,(cells.length:Int)]++cells.flatMap fZ++aL (h9 h)++aL [j]) _ _ _ _ _ K.xok (K.sl 0 rfl) (K.rds 0 rfl 18 3 _) (by simp only[List.length_append,h9,List.length_cons,List.length_nil];omega)).mono ?_
   rintro e w8 ⟨Y,n8,k8,rfl,a,b⟩
   have K:=((K.on b).ft.ksl a)
   clear b a
   go_wp2
   go_ret
   rw[L.out]
   exact⟨Y,n8,k8,rfl,K.slb 0 rfl,K.below⟩
set_option maxHeartbeats 4000000 in
theorem Dd (nm:ByteArray) (mode wd sl:Int) (cells:List (Int×Int)) (h:Nat→Int) (i room has:Int) (d:Nat→Int) (q:dR ⟨nm,2,mode,wd,sl,cells,h,i,room,has,d⟩) (o:Option Addr) (p G:Nat) (bs:List UInt8) (A:Option Addr) (n c:Nat) (X:List Nat) (w:World) (hX:XOk X w) (b:Sl ak w X A n c bs) (s:ay w X o p cells) (B:bs.length≤300000):
 Calls Tryz.prog 248 #[.slice A n c,.agg (cD ⟨nm,2,mode,wd,sl,cells,h,i,room,has,d⟩ o p G).toArray] w (rU (bs++dU ⟨nm,2,mode,wd,sl,cells,h,i,room,has,d⟩) X w):=by
 obtain⟨⟨v,u⟩,⟨j,m,l⟩,g⟩:=q
 simp only at v u j m l g
 unfold bM at j m l
 have j:=of_decide_eq_true j
 have m:=of_decide_eq_true m
 have l:=of_decide_eq_true l
 have O:=mh u
 have okF:okN [d 0,d 1,d 2]:=aE (by omega) (by omega) (aE (by omega) (by omega) (aE (by omega) (by omega) bC))
 have H:=aP _ okF
 have J:n≤300000:=by have:=b.len;omega
 obtain⟨-,g1,F,y⟩:True∧0≤mode∧mode≤100∧fJ room has=true:=by
  rcases g with g | g | g
  ·omega
  ·have:=g.2.1
   exact⟨trivial,by omega,by omega,g.2.2.2.2.2.2.2⟩
  ·omega
 have k:okN [2,mode]:=aE (by omega) (by omega) (aE (by omega) (by omega) bC)
 have x:=aP _ k
 have P:=of_decide_eq_true (show decide (0≤room∧room≤2147483647∧0≤has∧has≤room)=true from y)
 have okE:okN [room,has]:=aE (by omega) (by omega) (aE (by omega) (by omega) bC)
 have z:=aP _ okE
 simp only[h9,List.length_cons,List.length_nil]at x H z
 have t:=Lib.hid (show bs++dU ⟨nm,2,mode,wd,sl,cells,h,i,room,has,d⟩=bs++bG nm.data.toList++aL [2,mode]++aL [room,has]++aL [d 0,d 1,d 2] from by simp[dU])
 clear g j m l v
 generalize dU ⟨nm,2,mode,wd,sl,cells,h,i,room,has,d⟩=E at t ⊢
 simp only[cD]
 go_enter Tryz.func248,Tryz.ntmps248
 go_upto_region 1 with(fail)
 refine(hstart hX).cw fun W K=>?_
 have K:=(K.k0 (f:=ay.fact o p cells) s).ksl0 b
 clear b s
 have c0:=K.r 0 rfl
 go_wp2_with fail
 refine(kL K.xok (K.sl 0 rfl) nm (by omega) (by omega)).mono ?_
 rintro e R ⟨B1,U,rfl,a,b⟩
 have K:=(K.on b).ft.ksl a
 clear b a c0
 have c0:=K.r 0 rfl
 go_wp2_with fail
 refine K.cl fun W K=>?_
 refine(dB [2,mode] k _ 2 _ (bs++bG nm.data.toList) _ _ _ _ _ K.xok (K.sl 0 rfl) (K.rds 0 rfl 0 2 _) (by simp only[List.length_append,h9,List.length_cons,List.length_nil];omega)).mono ?_
 rintro e L ⟨M,Z,V,rfl,a,b⟩
 have K:=((K.on b).ft.ksl a).tl
 clear b a
 clear c0
 have c0:=K.r 0 rfl
 go_upto_region 14 with(fail)
 go_wp2_with fail
 refine K.cl fun W K=>?_
 refine(dB [room,has] okE _ 2 _ (bs++bG nm.data.toList++aL [2,mode]) _ _ _ _ _ K.xok (K.sl 0 rfl) (K.rds 0 rfl 0 2 _) (by simp only[List.length_append,h9,List.length_cons,List.length_nil];omega)).mono ?_
 rintro e S ⟨T,Q,Y,rfl,a,b⟩
 have K:=((K.on b).ft.ksl a).tl
 clear b a
 clear c0
 have c0:=K.r 0 rfl
 go_upto_region 15 with(fail)
 go_wp2_with fail
 refine(dB [d 0,d 1,d 2] okF _ 3 _ (bs++bG nm.data.toList++aL [2,mode]++aL [room,has]) _ _ _ _ _ K.xok (K.sl 0 rfl) (K.rds 0 rfl 18 3 _) (by simp only[List.length_append,h9,List.length_cons,List.length_nil];omega)).mono ?_
 rintro e N ⟨D,C,I,rfl,a,b⟩
 have K:=((K.on b).ft.ksl a)
 clear b a
 go_wp2
 go_ret
 rw[t.out]
 exact⟨D,C,I,rfl,K.slb 0 rfl,K.below⟩
set_option maxHeartbeats 4000000 in
theorem Ag (nm:ByteArray) (mode wd sl:Int) (cells:List (Int×Int)) (h:Nat→Int) (g room has:Int) (d:Nat→Int) (u:dR ⟨nm,3,mode,wd,sl,cells,h,g,room,has,d⟩) (s:Option Addr) (t Q:Nat) (bs:List UInt8) (A:Option Addr) (n c:Nat) (X:List Nat) (w:World) (hX:XOk X w) (b:Sl ak w X A n c bs) (z:ay w X s t cells) (H:bs.length≤300000):
 Calls Tryz.prog 248 #[.slice A n c,.agg (cD ⟨nm,3,mode,wd,sl,cells,h,g,room,has,d⟩ s t Q).toArray] w (rU (bs++dU ⟨nm,3,mode,wd,sl,cells,h,g,room,has,d⟩) X w):=by
 obtain⟨⟨C,B⟩,⟨p,m,l⟩,i⟩:=u
 simp only at C B p m l i
 unfold bM at p m l
 have p:=of_decide_eq_true p
 have m:=of_decide_eq_true m
 have l:=of_decide_eq_true l
 have z0:=mh B
 have okF:okN [d 0,d 1,d 2]:=aE (by omega) (by omega) (aE (by omega) (by omega) (aE (by omega) (by omega) bC))
 have R:=aP _ okF
 have J:n≤300000:=by have:=b.len;omega
 obtain⟨-,g1,g2,L,O⟩:True∧0≤mode∧mode≤2147483647∧bV h g=true∧fJ room has=true:=by
  rcases i with i | i | i
  ·omega
  ·omega
  ·exact⟨trivial,i.2.1,i.2.2.1,i.2.2.2.2.2.2.1,i.2.2.2.2.2.2.2⟩
 have o:okN [3,mode]:=aE (by omega) (by omega) (aE (by omega) (by omega) bC)
 have M:=aP _ o
 obtain⟨j,f2,f3⟩:=kM L
 have k:okN (h9 h):=by
  intro x y
  simp only[h9,List.mem_cons,List.not_mem_nil,or_false]at y
  rcases y with rfl | rfl | rfl | rfl | rfl | rfl | rfl | rfl | rfl
  all_goals first | (have:=j 0 (by omega);omega) | (have:=j 1 (by omega);omega) | (have:=j 2 (by omega);omega) | (have:=j 3 (by omega);omega) | (have:=j 4 (by omega);omega) | (have:=j 5 (by omega);omega) | (have:=j 6 (by omega);omega) | (have:=j 7 (by omega);omega) | (have:=j 8 (by omega);omega)
 have N:=aP _ k
 have q:okN [g]:=aE (by omega) (by omega) bC
 have F:=aP _ q
 have b1:=of_decide_eq_true (show decide (0≤room∧room≤2147483647∧0≤has∧has≤room)=true from O)
 have okE:okN [room,has]:=aE (by omega) (by omega) (aE (by omega) (by omega) bC)
 have G:=aP _ okE
 simp only[h9,List.length_cons,List.length_nil]at M R N F G
 have v:=Lib.hid (show bs++dU ⟨nm,3,mode,wd,sl,cells,h,g,room,has,d⟩=bs++bG nm.data.toList++aL [3,mode]++aL (h9 h)++aL [g]++aL [room,has]++aL [d 0,d 1,d 2] from by simp[dU])
 clear i p m l C
 generalize dU ⟨nm,3,mode,wd,sl,cells,h,g,room,has,d⟩=E at v ⊢
 simp only[cD]
 go_enter Tryz.func248,Tryz.ntmps248
 go_upto_region 1 with(fail)
 refine(hstart hX).cw fun W K=>?_
 have K:=(K.k0 (f:=ay.fact s t cells) z).ksl0 b
 clear b z
 have c0:=K.r 0 rfl
 go_wp2_with fail
 refine(kL K.xok (K.sl 0 rfl) nm (by omega) (by omega)).mono ?_
 rintro e Y ⟨B1,k1,rfl,a,b⟩
 have K:=(K.on b).ft.ksl a
 clear b a c0
 have c0:=K.r 0 rfl
 go_wp2_with fail
 refine K.cl fun W K=>?_
 refine(dB [3,mode] o _ 2 _ (bs++bG nm.data.toList) _ _ _ _ _ K.xok (K.sl 0 rfl) (K.rds 0 rfl 0 2 _) (by simp only[List.length_append,h9,List.length_cons,List.length_nil];omega)).mono ?_
 rintro e w2 ⟨S,n2,k2,rfl,a,b⟩
 have K:=((K.on b).ft.ksl a).tl
 clear b a
 clear c0
 have c0:=K.r 0 rfl
 go_upto_region 11 with(fail)
 go_wp2_with fail
 refine(dB (h9 h) k _ 9 _ (bs++bG nm.data.toList++aL [3,mode]) _ _ _ _ _ K.xok (K.sl 0 rfl) (K.rds 0 rfl 6 9 _) (by simp only[List.length_append,h9,List.length_cons,List.length_nil];omega)).mono ?_
 rintro e w5 ⟨B5,n5,k5,rfl,a,b⟩
 have K:=((K.on b).ft.ksl a)
 clear b a
 clear c0
 have c0:=K.r 0 rfl
 go_wp2_with fail
 refine K.cl fun W K=>?_
 refine(dB [g] q _ 1 _ (bs++bG nm.data.toList++aL [3,mode]++aL (h9 h)) _ _ _ _ _ K.xok (K.sl 0 rfl) (K.rds 0 rfl 0 1 _) (by simp only[List.length_append,h9,List.length_cons,List.length_nil];omega)).mono ?_
 rintro e T ⟨B6,n6,k6,rfl,a,b⟩
 have K:=((K.on b).ft.ksl a).tl
 clear b a
 clear c0
 have c0:=K.r 0 rfl
 go_upto_region 14 with(fail)
 go_wp2_with fail
 refine K.cl fun W K=>?_
 refine(dB [room,has] okE _ 2 _ (bs++bG nm.data.toList++aL [3,mode]++aL (h9 h)++aL [g]) _ _ _ _ _ K.xok (K.sl 0 rfl) (K.rds 0 rfl 0 2 _) (by simp only[List.length_append,h9,List.length_cons,List.length_nil];omega)).mono ?_
 rintro e w7 ⟨Z,V,k7,rfl,a,b⟩
 have K:=((K.on b).ft.ksl a).tl
 clear b a
 clear c0
 have c0:=K.r 0 rfl
 go_upto_region 15 with(fail)
 go_wp2_with fail
 refine(dB [d 0,d 1,d 2] okF _ 3 _ (bs++bG nm.data.toList++aL [3,mode]++aL (h9 h)++aL [g]++aL [room,has]) _ _ _ _ _ K.xok (K.sl 0 rfl) (K.rds 0 rfl 18 3 _) (by simp only[List.length_append,h9,List.length_cons,List.length_nil];omega)).mono ?_
 rintro e U ⟨D,P,I,rfl,a,b⟩
 have K:=((K.on b).ft.ksl a)
 clear b a
 go_wp2
 go_ret
 rw[v.out]
 exact⟨D,P,I,rfl,K.slb 0 rfl,K.below⟩
theorem BA (c:Cmp) (a:dR c) (d:Option Addr) (f g:Nat) (bs:List UInt8) (A:Option Addr) (n k:Nat) (X:List Nat) (w:World) (hX:XOk X w) (j:Sl ak w X A n k bs) (l:ay w X d f c.cells) (b:bs.length≤300000):
 Calls Tryz.prog 248 #[.slice A n k,.agg (cD c d f g).toArray] w (rU (bs++dU c) X w):=by
 obtain⟨nm,role,mode,wd,sl,cells,h,i,room,has,m⟩:=c
 rcases a.2.2 with e | e | e
 ·obtain rfl:role=1:=e.1
  exact CB nm mode wd sl cells h i room has m a d f g bs A n k X w hX j l b
 ·obtain rfl:role=2:=e.1
  exact Dd nm mode wd sl cells h i room has m a d f g bs A n k X w hX j l b
 ·obtain rfl:role=3:=e.1
  exact Ag nm mode wd sl cells h i room has m a d f g bs A n k X w hX j l b
end
section
open Go.RowKit
def stE (s:St):List UInt8:=aL [(s.cs.length:Int)]++s.cs.flatMap dU++aL [s.q,s.a]
theorem qx {c:Cmp} (h:dR c):(dU c).length≤230+20*c.cells.length∧c.cells.length≤16:=by
 obtain⟨nm,role,mode,wd,sl,cells,i,j,room,has,d⟩:=c
 obtain⟨⟨z,t⟩,⟨k,m,l⟩,v⟩:=h
 simp only at z t k m l v
 unfold bM at k m l
 have k:=of_decide_eq_true k
 have m:=of_decide_eq_true m
 have l:=of_decide_eq_true l
 have E:=mh t
 have r:=aP [d 0,d 1,d 2] (aE (by omega) (by omega) (aE (by omega) (by omega) (aE (by omega) (by omega) bC)))
 have hC:bV i j=true→okN (h9 i)∧okN [j]:=fun b=>by
  obtain⟨a,C,H⟩:=kM b
  refine⟨?_,aE (by omega) (by omega) bC⟩
  intro x w
  simp only[h9,List.mem_cons,List.not_mem_nil,or_false]at w
  rcases w with rfl | rfl | rfl | rfl | rfl | rfl | rfl | rfl | rfl
  all_goals first | (have:=a 0 (by omega);omega) | (have:=a 1 (by omega);omega) | (have:=a 2 (by omega);omega) | (have:=a 3 (by omega);omega) | (have:=a 4 (by omega);omega) | (have:=a 5 (by omega);omega) | (have:=a 6 (by omega);omega) | (have:=a 7 (by omega);omega) | (have:=a 8 (by omega);omega)
 have hE:fJ room has=true→okN [room,has]:=fun g=>by
  have G:=of_decide_eq_true (show decide (0≤room∧room≤2147483647∧0≤has∧has≤room)=true from g)
  exact aE (by omega) (by omega) (aE (by omega) (by omega) bC)
 have A:(h9 i).length=9:=rfl
 rcases v with⟨rfl,u,n,q,b,-⟩ | ⟨rfl,u,-,-,rfl,-,-,n⟩ | ⟨rfl,u,n,-,-,rfl,b,q⟩
 ·obtain⟨⟨K,I,D,L,J,M⟩,B⟩:=dn.1 q
  have F:=iT cells B
  have y:=aP [wd,sl,(cells.length:Int)] (aE (by omega) (by omega) (aE (by omega) (by omega) (aE (by omega) (by omega) bC)))
  have f:=aP [1,mode] (aE (by omega) (by omega) (aE (by omega) (by omega) bC))
  have s:=aP _ (hC b).1
  have o:=aP _ (hC b).2
  simp only[h9,List.length_cons,List.length_nil]at f y s o r
  have e:dU ⟨nm,1,mode,wd,sl,cells,i,j,room,has,d⟩=bG nm.data.toList++aL [1,mode]++(aL [wd,sl,(cells.length:Int)]++cells.flatMap fZ)++(aL (h9 i)++aL [j])++aL [d 0,d 1,d 2]:=by simp[dU]
  rw[e]
  simp only[List.length_append,h9]
  refine⟨by omega,by omega⟩
 ·have f:=aP [2,mode] (aE (by omega) (by omega) (aE (by omega) (by omega) bC))
  have p:=aP _ (hE n)
  simp only[List.length_cons,List.length_nil]at f p r
  simp[dU]
  omega
 ·have f:=aP [3,mode] (aE (by omega) (by omega) (aE (by omega) (by omega) bC))
  have s:=aP _ (hC b).1
  have o:=aP _ (hC b).2
  have p:=aP _ (hE q)
  simp only[List.length_cons,List.length_nil]at f o p r
  simp[dU]
  omega
theorem Bh {c:Cmp} (h:dR c):(dU c).length≤600:=by have:=qx h;omega
theorem ja:∀ (l:List Cmp),(∀ c ∈ l,dR c)→(l.flatMap dU).length≤600*l.length
 | [],_=>by simp
 | c::l,h=>by
   have b:=Bh (h c (by simp))
   have d:=ja l (fun e a=>h e (by simp[a]))
   rw[List.flatMap_cons,List.length_append,List.length_cons]
   omega
theorem zW {l:List Cmp} {k:Nat} {c:Cmp} (h:l[k]?=some c):(l.take (k+1)).flatMap dU=(l.take k).flatMap dU++dU c:=by
 obtain⟨a,rfl⟩:=List.getElem?_eq_some_iff.1 h
 rw[List.take_succ_eq_append_getElem a,List.flatMap_append]
 simp
set_option maxHeartbeats 2000000 in
theorem vZ (s:St) (m:bD s) (A:Option Addr) (n l:Nat) (X:List Nat) (w:World) (hX:XOk X w) (u:Sl aI w X A n l s.cs):
 Calls Tryz.prog 197 #[.agg #[.slice A n l,.int .i64 s.q,.int .i64 s.a]] w fun e w' => ∃ B nb cb,e = .returned (.tuple #[.slice B nb cb,.int .i64 0])∧Sl ak w' X B nb cb (stE s)∧Below w.heap.size w w':=by
 obtain⟨cs,q,a⟩:=s
 have z:=Lib.hid m
 obtain⟨Q,o2,P,Z,U,p,T⟩:=m
 simp only at Q o2 P Z U p T u
 have o:=Lib.hid u.len
 have g:okN [(cs.length:Int)]:=aE (by omega) (by omega) bC
 have okB:okN [q,a]:=aE (by omega) (by omega) (aE (by omega) (by omega) bC)
 have z1:=aP _ g
 have H:=aP _ okB
 have z3:=ja cs p
 simp only[List.length_cons,List.length_nil]at z1 H
 go_enter Tryz.func197,Tryz.ntmps197
 go_upto_region 1 with(fail)
 refine(hstart hX).cw fun W K=>?_
 have K:=K.ksl0 u
 clear u
 go_wp2_with (first | refine K.ld 0 rfl ?_)
 refine(ep ⟨cs,q,a⟩ A n l _ _ K.xok (K.sl 0 rfl) z.out).mono ?_
 rintro e w1 ⟨rfl,c⟩
 have K:=K.on c
 clear c
 have c0:=K.r 0 rfl
 go_wp2_with fail
 refine K.cl fun W K=>?_
 rw[show(n:Int)=(cs.length:Int) from by rw[o.out]]at K
 refine(dB [(cs.length:Int)] g _ 1 _ [] _ _ _ _ _ K.xok Sl.nil_ (K.rds 0 rfl 0 1 _) (by simp)).mono ?_
 rintro e w2 ⟨G,J,I,rfl,b,c⟩
 rw[List.nil_append]at b
 have K:=((K.on c).ksl b).tl
 clear c b c0
 have c0:=K.r 0 rfl
 go_upto_region 4 with(fail)
 go_wp2
 clear c0
 have E:n≤12:=by have:=o.out;omega
 go_loopw [4,18] (fun v i wr => ∃ (k nb:Nat) (B:Option Addr) (cb:Nat),k≤n∧i = .int .i64 k∧v = .slice B nb cb∧HH w [] X wr [.box w.heap.size 37 #[.slice A n l,.int .i64 q,.int .i64 a]] [Sl.fact ak B nb cb (aL [(cs.length:Int)]++(cs.take k).flatMap dU),Sl.fact aI A n l cs]) (fun _ i _=>n-(intOf i).toNat)
 case atStart=>exact⟨0,J,G,I,Nat.zero_le _,rfl,rfl,by simpa using K⟩
 case round=>
  obtain⟨k,nb,B,cb,hk,rfl,rfl,K⟩:=hrel
  by_cases L:k<n
  ·obtain⟨x,t⟩:∃ x,cs[k]?=some x:=⟨_,List.getElem?_eq_getElem (by have:=o.out;omega)⟩
   have h:=p x (List.mem_of_getElem? t)
   have Y:=Lib.hid (zW t)
   have D:(aL [(cs.length:Int)]++(cs.take k).flatMap dU).length≤7300:=by
    have V:=ja (cs.take k) (fun y hy=>p y (List.mem_of_mem_take hy))
    rw[List.length_take]at V
    rw[List.length_append]
    omega
   obtain⟨ad,rr,rfl,K,⟨C,F,c3,rfl,d,M⟩⟩:=K.elem 1 rfl (j:=k) (x:=x) t
   have K:=K.kn (f:=ay.fact C F x.cells) d
   have i1:(0:Int)≤(k:Int):=by omega
   have O:(k:Int)<(n:Int):=by omega
   clear t d
   go_upto_region 7 with(first | refine bF (K.at' 1 rfl) ?_ | (refine K.lw fun W K=>?_;refine K.sr 0 rfl fun W K=>?_))
   go_wp2_with (first | refine K.ld 0 rfl ?_)
   refine K.cl fun W K=>?_
   refine(BA x h C F c3 _ _ _ _ _ _ K.xok (K.sl 2 rfl) (K.fa 0 rfl) (by omega)).mono ?_
   rintro e w4 ⟨B4,n4,k4,rfl,b,c⟩
   rw[List.append_assoc,←Y.out]at b
   have K:=((K.on c).ft.ft.ft.ksl b).tl
   clear c b
   go_wp2
   go_roundw
   case rel=>exact⟨k+1,n4,B4,k4,by omega,by go_num,rfl,K⟩
   case measure=>simp[intOf];omega
  ·have O:¬ (k:Int)<(n:Int):=by omega
   have e1:cs.take k=cs:=List.take_of_length_le (by have:=o.out;omega)
   rw[e1]at K
   have c0:=K.r 0 rfl
   go_wp2_with fail
   refine K.cl fun W K=>?_
   refine(dB [q,a] okB _ 2 _ _ _ _ _ _ _ K.xok (K.sl 0 rfl) (K.rds 0 rfl 0 2 _) (by simp only[List.length_append,List.length_cons,List.length_nil];omega)).mono ?_
   rintro e w5 ⟨R,N,S,rfl,b,c⟩
   have K:=(K.on c).ksl b
   clear c b c0
   go_wp2
   go_ret2
   exact⟨R,N,S,rfl,K.slb 0 rfl,K.below⟩
theorem BO (n:Nat):0<(au n).length:=by
 rw[iJ]
 unfold kT
 split<;>simp
theorem xB (s:St):0<(stE s).length:=by
 have h:=BO s.a.toNat
 unfold stE aL
 simp only[List.flatMap_cons,List.flatMap_nil,List.append_nil,List.length_append]
 omega
def cW (s:St):List UInt8:=fK cZ ([102,98,115,49]++stE s)
theorem ot {s:St} (h:bD s):(stE s).length≤7300:=by
 obtain⟨l,j,e,k,g,d,f⟩:=h
 have b:=aP [(s.cs.length:Int)] (aE (by omega) (by omega) bC)
 have c:=aP [s.q,s.a] (aE (by omega) (by omega) (aE (by omega) (by omega) bC))
 have i:=ja s.cs d
 simp only[List.length_cons,List.length_nil]at b c
 unfold stE
 rw[List.length_append,List.length_append]
 omega
set_option maxHeartbeats 1000000 in
theorem wQ (s:St) (m:bD s) (A:Option Addr) (n z:Nat) (X:List Nat) (w:World) (hX:XOk X w) (J:Sl aI w X A n z s.cs):
 Calls Tryz.prog 129 #[.agg #[.slice A n z,.int .i64 s.q,.int .i64 s.a]] w fun e w' => ∃ B nb cb,e = .returned (.tuple #[.slice B nb cb,.int .i64 0])∧Sl ak w' X B nb cb (cW s)∧Below w.heap.size w w':=by
 have hl:=ot m
 go_enter Tryz.func129,Tryz.ntmps129
 go_upto_region 1 with(fail)
 refine(hstart hX).cw fun W K=>?_
 have K:=K.ksl0 J
 clear J
 go_wp2_with (first | refine K.ld 0 rfl ?_)
 refine(vZ s m A n z _ _ K.xok (K.sl 0 rfl)).mono ?_
 rintro e w1 ⟨B1,n1,V,rfl,c,d⟩
 have K:=(K.on d).ksl c
 clear d c
 go_wp2_with fail
 refine(mD _).mono ?_
 rintro e I ⟨rfl,d⟩
 have K:=K.on d
 clear d
 have kc:=Lib.run_convert_bytes_const (P:=Tryz.prog) I 50 5 #[.int .u8 102,.int .u8 98,.int .u8 115,.int .u8 49] 4 4 Tryz.underlying50 Tryz.underlying5
 have K:=(K.out.marked #[.int .u8 102,.int .u8 98,.int .u8 115,.int .u8 49] 5 (4,5) [102,98,115,49] rfl (by unfold maxLen;simp)).hh
 have f:=Lib.hid (K.sl 1 rfl).len
 have E:0<n1:=by have:=f.out;have:=xB s;omega
 have O:n1≤7300:=by have:=f.out;omega
 obtain⟨ad,rfl,a1,N⟩:=(K.sl 1 rfl).bytes.2 E
 have K:=K
 obtain⟨U,G,H,p,t⟩:=info_parts Tryz.infoU8
 have o:(byteCells (stE s)).length=n1*1:=by unfold byteCells;rw[List.length_map,←f.out,Nat.mul_one]
 obtain⟨ab,M,T,L⟩:=(K.sl 0 rfl).bytes.2 (by decide)
 have r:=Lib.hid N
 have C:=Lib.hid L
 have y:=Lib.hid M
 have D:=Lib.hid o
 clear a1 N T L M o
 go_wp2_with (at_builtin;go_must (refine wpList_append_grows _ rfl _ _ 50 rfl 5 U _ 1 1 Tryz.underlying50 G H p t rfl (by decide) (some ⟨I.heap.size,0,none⟩) 4 4 (byteCells [102,98,115,49]) rfl (fun e=>by cases e) rfl (fun b eb j u F=>C.out j u F |> fun h=>by injection (y.out.symm.trans eb) with Z;exact Z ▸ h) ad n1 V (byteCells (stE s)) rfl D.out (fun j u F=>r.out j u F) (fun u Q=>by unfold byteCells at Q;obtain⟨x,-,rfl⟩:=List.mem_map.1 Q;rfl) (by omega) (by unfold maxLen;omega) (by omega) fun v' W' k g=>?_))
 have l:Below _ _ W':=Below.mk g.os g.tape g.output g.size (fun b d=>g.block b d (by simp))
 obtain⟨Y,S,rfl,c⟩:=Sl.of_made (s:=ak) (xs:=[102,98,115,49]++stE s) k K.xok (aC.append (di [102,98,115,49]) (di (stE s))) (by decide)
 have K:=(K.on l).ksl c
 clear l c k g
 refine(vo cZ (fun i h=>vk (by omega)) Y _ S _ ([102,98,115,49]++stE s) W' (K.sl 0 rfl).bytes (Nat.le_refl _) (by omega)).mono ?_
 rintro e w6 ⟨v,rfl,k,d⟩
 obtain⟨R,c6,rfl,c⟩:=Sl.of_made (s:=ak) (xs:=cW s) k K.xok (di _) (by decide)
 have K:=(K.on d).ksl c
 clear d c k
 go_wp2
 go_ret2
 exact⟨R,_,c6,rfl,K.slb 0 rfl,K.below⟩
end
section
open Go.RowKit
def qm (n:Nat):List UInt8:=Lib.repeatL [48] (10-(Lib.itoa (n:Int)).length)++Lib.itoa (n:Int)
theorem jP {n:Nat} (h:n≤99999999):(qm n).length=10:=by
 have a:=DT n h
 unfold qm
 rw[List.length_append,Lib.repeatL_length,lX,Lib.decDigits_length]
 simp
 omega
theorem mG {n:Nat}:(∀ c ∈ qm n,48≤c.toNat∧c.toNat≤57)∧ef 0 (qm n)=n:=by
 obtain⟨b,d⟩:=oG n
 unfold qm
 rw[lX,lR]
 refine⟨fun c a=>?_,d⟩
 rcases List.mem_append.1 a with a | a
 ·rw[rV _ c a];decide
 ·exact b c a
theorem eA (n:Nat):(cx n).data.toList = [115,110,97,112,46]++qm n:=by
 unfold cx qm
 simp[ByteArray.data_append]
theorem lG {n:Nat} (h:n≤99999999):(cx n).size=15:=by
 show(cx n).data.size=15
 rw[←Array.length_toList,eA,List.length_append,jP h]
 rfl
theorem ux {n:Nat} (h:n≤99999999):fnB (cx n)=true:=by
 have b:=(mG (n:=n)).1
 unfold fnB
 rw[lG h,ByteArray.toList_eq,eA,Bool.and_eq_true]
 refine⟨by decide,List.all_eq_true.2 fun c d=>?_⟩
 rcases List.mem_append.1 d with a | a
 ·simp only[List.mem_cons,List.not_mem_nil,or_false]at a
  rcases a with rfl | rfl | rfl | rfl | rfl<;>decide
 ·have:=b c a
  unfold qw
  exact decide_eq_true (by omega)
abbrev eP:ByteArray:=⟨#[116,109,112]⟩
theorem xW (n:Nat):ltB (az n) eP=true:=by
 unfold ltB
 rw[ByteArray.toList_eq,ByteArray.toList_eq,eF]
 rfl
theorem tq (n:Nat):ltB (cx n) eP=true:=by
 unfold ltB
 rw[ByteArray.toList_eq,ByteArray.toList_eq,eA]
 rfl
theorem oY:fnB eP=true:=by
 unfold fnB
 rw[ByteArray.toList_eq]
 rfl
theorem sO {fs:List Fil} {room:Int} {nm:ByteArray} {a b:List UInt8} (h:cj ⟨fs,room⟩) (m:∀ d ∈ fs,ltB d.nm nm=true) (q:fs.length<64) (k:fnB nm=true) (p:(aA fs:Int)+a.length+b.length≤room):cj ⟨fs ++ [⟨nm,a,b⟩],room⟩:=by
 obtain⟨l,j,g,i,e,n⟩:=h
 simp only at l j g i e n
 refine⟨by simp;omega,j,g,fun f c=>?_,?_,?_⟩
 ·simp only[List.mem_append,List.mem_singleton]at c
  rcases c with c | rfl
  ·exact i f c
  ·exact k
 ·refine List.pairwise_append.2 ⟨e,List.pairwise_singleton _ _,fun x o y hy=>?_⟩
  rw[List.mem_singleton]at hy
  subst hy
  exact m x o
 ·simp only
  rw[fQ,bH]
  unfold Fil.all
  rw[List.length_append]
  simp only[aA,List.map_nil,List.sum_nil]
  simp only[aA]at p
  omega
theorem nY (fs:List Fil) (x:Fil):(fs ++ [x])[fs.length]?=some x:=by simp
theorem uc (fs:List Fil) (x y:Fil):(fs ++ [x]).set fs.length y=fs ++ [y]:=by simp
theorem nE {fs:List Fil} {room:Int} {x:Fil} (h:cj ⟨fs ++ [x],room⟩):findD (fs ++ [x]) x.nm=(fs.length:Int):=sJ h.2.2.2.2.1 (nY fs x)
theorem Da {fs:List Fil} (b:∀ d ∈ fs,ltB d.nm eP=true):findD fs eP = -1:=by
 unfold findD
 rw[lY (fun d a e=>by have:=iW (b d a);exact this e),if_neg (by omega)]
theorem vM (fs:List Fil) (nm:ByteArray):aA (fs ++ [⟨nm,[],[]⟩])=aA fs:=by
 rw[fQ,bH]
 simp[Fil.all,aA]
theorem AZ {fs:List Fil} (a b:ByteArray) (h:Srt Fil.nm fs):Srt Fil.nm (eJ a b fs):=List.Pairwise.filter _ h
def qK (nm:ByteArray) (bs:List UInt8) (fs:List Fil):List Fil:=DI eP nm ⟨eP,bs,[]⟩ (fs ++ [⟨eP,bs,[]⟩])
end
section
open Go.RowKit
theorem mU {α:Type} {bs a r:List α} {k:Nat} (h:bs.drop k=a++r) (b:k≤bs.length):bs=bs.take k++a++r∧(bs.take k).length=k∧bs.drop (k+a.length)=r∧k+a.length≤bs.length:=by
 have e:(bs.take k).length=k:=by rw[List.length_take];omega
 refine⟨?_,e,?_,?_⟩
 ·rw[List.append_assoc,←h,List.take_append_drop]
 ·rw[←List.drop_drop,h,List.drop_left]
 ·have:=congrArg List.length h
  rw[List.length_drop,List.length_append]at this
  omega
theorem GV {bs r:List UInt8} {k v:Nat} (h:bs.drop k=au v++r) (d:k≤bs.length) (c:v<18446744073709551616):bT bs (k:Int) 0=(((k+(au v).length:Nat):Int),0,v):=by
 obtain⟨b,a,-⟩:=mU h d
 have:=kE (bs.take k) r v c
 rw[←b,a,List.length_append,a]at this
 exact this
theorem GS {bs r l:List UInt8} {k:Nat} (h:bs.drop k=bG l++r) (d:k≤bs.length) (c:l.length≤24):jI bs (k:Int) 0 24=(((k+(bG l).length:Nat):Int),0,l):=by
 obtain⟨b,a,-⟩:=mU h d
 have:=Ch (bs.take k) r l 24 c (by omega)
 rw[←b,a,List.length_append,a]at this
 exact this
abbrev rdA (A:Option Addr) (n:Nat) (k:Nat):Array Value:=#[.slice A n n,.int .i64 (k:Int),.int .i64 0,.bool false]
section
variable {w0 W:World} {M X:List Nat} {L:List Itm} {L':Nat→List Itm} {F:List Fact} {g:Nat} {t:TypeId} {A:Option Addr} {n c k:Nat} {bs r:List UInt8}
theorem HH.faM (K:HH w0 M X W L F) {f:Fact} (h:f ∈ F):f.p W (Exs L++X):=by
 obtain⟨i,a⟩:=List.getElem?_of_mem h
 exact K.fa i a
def RdP (w0:World) (M X:List Nat) (L':Nat→List Itm) (F:List Fact) (bs r:List UInt8) (v:Value) (e:Ending) (w':World):Prop:=e = .returned v ∧ ∃ k',HH w0 M X w' (L' k') F∧Hid (bs.drop k'=r)∧k'≤bs.length
set_option maxHeartbeats 1000000 in
theorem rdNum (i:Nat) (v:Nat) (r:List UInt8) (K:HH w0 M X W L F) (f:L[i]?=some (.box g t (rdA A n k))) (hF:Sl.fact ak A n c bs ∈ F) (a:Hid (bs.drop k=au v++r)) (h:k≤bs.length) (p:v≤9223372036854775807) (m:n≤10000)
 (hL:∀ k',L.set i (.box g t (rdA A n k'))=L' k':=by(intro k';first | (simp only[ai,aj];done) | (simp only[ai,aj];exact rfl))):
 Calls Tryz.prog 255 #[.pointer (some ⟨g,0,none⟩)] W (RdP w0 M X L' F bs r (.int .i64 (v:Int))):=by
 have j:=Lib.hid (GV a.out h (by omega))
 obtain⟨-,-,d,l⟩:=mU a.out h
 generalize k+(au v).length=k' at j d l
 clear a
 go_enter Tryz.func255,Tryz.ntmps255
 go_wp2_with (first | refine bF (K.sub i f 0 [.slice A n n,.int .i64 (k:Int),.int .i64 0]) ?_)
 refine(ig A n n k 0 bs W.heap.size W (show Sl ak W _ A n c bs from K.faM hF).bytes (Nat.le_refl _) (Nat.le_refl _) (by omega) m).mono ?_
 rw[j.out]
 rintro e o ⟨rfl,b⟩
 have K:=K.on b
 clear b
 have s:¬ (9223372036854775807:Int)<(v:Int):=by omega
 have q:IntKind.i64.wrap (v:Int)=(v:Int):=IntWalk.i64_in _ (by omega)
 have u:wrap64 (v:Int)=(v:Int):=by unfold wrap64;omega
 go_upto_region 3 with(first | (refine K.lw fun W K=>?_;refine K.sr 0 rfl fun W K=>?_) | refine K.ld 0 rfl ?_ | refine K.ss (new:=rdA A n k') (i+1) f (fun W K=>?_) (hL:=rfl))
 have c0:=K.r 0 rfl
 go_wp2
 go_ret
 exact⟨rfl,k',hL k' ▸ K.tl,Lib.hid d,l⟩
set_option maxHeartbeats 1000000 in
theorem wg (i:Nat) (s:ByteArray) (r:List UInt8) (K:HH w0 M X W L F) (f:L[i]?=some (.box g t (rdA A n k))) (hF:Sl.fact ak A n c bs ∈ F) (a:Hid (bs.drop k=bG s.data.toList++r)) (h:k≤bs.length) (p:s.size≤24) (m:n≤10000)
 (hL:∀ k',L.set i (.box g t (rdA A n k'))=L' k':=by(intro k';first | (simp only[ai,aj];done) | (simp only[ai,aj];exact rfl))):
 Calls Tryz.prog 276 #[.pointer (some ⟨g,0,none⟩)] W (RdP w0 M X L' F bs r (.string s)):=by
 have j:=Lib.hid (GS a.out h (by have:s.data.toList.length=s.size:=Array.length_toList;omega))
 obtain⟨-,-,d,l⟩:=mU a.out h
 generalize k+(bG s.data.toList).length=k' at j d l
 clear a
 go_enter Tryz.func276,Tryz.ntmps276
 go_wp2_with (first | refine bF (K.sub i f 0 [.slice A n n,.int .i64 (k:Int),.int .i64 0]) ?_)
 refine(Aj A n n k 0 bs W.heap.size W (show Sl ak W _ A n c bs from K.faM hF).bytes (Nat.le_refl _) (Nat.le_refl _) (by omega) m 24 (by omega)).mono ?_
 rw[j.out]
 rintro e o ⟨rfl,b⟩
 have K:=K.on b
 clear b
 go_upto_region 3 with(first | (refine K.lw fun W K=>?_;refine K.sr 0 rfl fun W K=>?_) | refine K.ld 0 rfl ?_ | refine K.ss (new:=rdA A n k') (i+1) f (fun W K=>?_) (hL:=rfl))
 have c0:=K.r 0 rfl
 go_wp2
 go_ret
 exact⟨by simp,k',hL k' ▸ K.tl,Lib.hid d,l⟩
end
def EA:Sh (Int×Int):=jb 2 (fun p=>(jq p).toList) (fun _=>True) (fun _=>rfl) (fun _ u hu=>by simp at hu;rcases hu with rfl | rfl<;>rfl)
end
section
open Go.RowKit
section
variable {w0 W:World} {X:List Nat} {L:List Itm} {L':Nat→List Itm} {F:List Fact} {g:Nat} {t:TypeId} {A:Option Addr} {n c k:Nat} {bs:List UInt8}
theorem HH.cellsDone {e:TypeId} {m:Nat} {v:Value} {cs:List (Int×Int)} (K:HH w0 [] X W (.row e 2 v m (aB cs)::L) F):∃ C a,v = .slice C m a∧HH w0 [] X W L (ay.fact C m cs::F):=by
 obtain⟨C,a,rfl,b⟩:=K.don (s:=EA) (xs:=cs) (aO.2 ⟨rfl,fun _ _=>trivial⟩) (by decide)
 refine⟨C,a,rfl,b.ft.kn (f:=ay.fact C m cs) ?_⟩
 obtain⟨vs,c,g,d⟩:=(b.sl 0 rfl).reads
 rw[(aO.1 d).1]at c
 exact⟨(b.sl 0 rfl).len,c,g⟩
theorem pz (x:Int) (l:List Int):aL (x::l)=au x.toNat++aL l:=rfl
theorem HH.sself {M:List Nat} {i:Nat} {x:Itm} (K:HH w0 M X W L F) (a:L[i]?=some x):HH w0 M X W (L.set i x) F∧i<L.length:=by
 obtain⟨h,rfl⟩:=List.getElem?_eq_some_iff.1 a
 rw[List.set_getElem_self]
 exact⟨K,h⟩
theorem iw {α:Type} {l:List α} {k:Nat} {x:α} (h:l[k]?=some x):l.take (k+1)=l.take k ++ [x]:=by
 obtain⟨a,rfl⟩:=List.getElem?_eq_some_iff.1 h
 exact List.take_succ_eq_append_getElem a
theorem drop_cons {α:Type} {l:List α} {k:Nat} {x:α} (h:l[k]?=some x):l.drop k=x::l.drop (k+1):=by
 obtain⟨a,rfl⟩:=List.getElem?_eq_some_iff.1 h
 exact List.drop_eq_getElem_cons a
theorem rdP (P:List Itm) {M:List Nat} {i:Nat} (v:Int) (r:List UInt8) (K:HH w0 M X W (P++L.set i (.box g t (rdA A n k))) F) (a:i<L.length) (hF:Sl.fact ak A n c bs ∈ F) (b:Hid (bs.drop k=au v.toNat++r)) (e:k≤bs.length) (f:0≤v∧v≤9223372036854775807) (d:n≤10000):
 Calls Tryz.prog 255 #[.pointer (some ⟨g,0,none⟩)] W (RdP w0 M X (fun k'=>P++L.set i (.box g t (rdA A n k'))) F bs r (.int .i64 v)):=by
 have h:=rdNum (L':=fun k'=>P++L.set i (.box g t (rdA A n k'))) (g:=g) (t:=t) (P.length+i) v.toNat r K (by rw[List.getElem?_append_right (by omega),Nat.add_sub_cancel_left];exact List.getElem?_set_self a) hF b e (by omega) d (fun _=>by rw[List.set_append_right _ _ (by omega),Nat.add_sub_cancel_left,List.set_set])
 rwa [show((v.toNat:Nat):Int)=v by omega]at h
theorem rdN {M:List Nat} {i:Nat} {x y:Itm} (v:Int) (r:List UInt8) (K:HH w0 M X W (x::y::L.set i (.box g t (rdA A n k))) F) (a:i<L.length) (hF:Sl.fact ak A n c bs ∈ F) (b:Hid (bs.drop k=au v.toNat++r)) (f:k≤bs.length) (d:0≤v∧v≤9223372036854775807) (e:n≤10000):
 Calls Tryz.prog 255 #[.pointer (some ⟨g,0,none⟩)] W (RdP w0 M X (fun k'=>x::y::L.set i (.box g t (rdA A n k'))) F bs r (.int .i64 v)):=rdP [x,y] v r K a hF b f d e
theorem GK {M:List Nat} {i:Nat} {x y z:Itm} (v:Int) (r:List UInt8) (K:HH w0 M X W (x::y::z::L.set i (.box g t (rdA A n k))) F) (a:i<L.length) (hF:Sl.fact ak A n c bs ∈ F) (b:Hid (bs.drop k=au v.toNat++r)) (f:k≤bs.length) (d:0≤v∧v≤9223372036854775807) (e:n≤10000):
 Calls Tryz.prog 255 #[.pointer (some ⟨g,0,none⟩)] W (RdP w0 M X (fun k'=>x::y::z::L.set i (.box g t (rdA A n k'))) F bs r (.int .i64 v)):=rdP [x,y,z] v r K a hF b f d e
set_option maxHeartbeats 4000000 in
theorem Gt (i:Nat) (wd sl:Int) (cells:List (Int×Int)) (r:List UInt8) (K:HH w0 [] X W L F) (G:L[i]?=some (.box g t (rdA A n k))) (hF:Sl.fact ak A n c bs ∈ F) (b:Hid (bs.drop k=aL [wd,sl,(cells.length:Int)]++(cells.flatMap fZ++r))) (H:k≤bs.length) (h:n≤10000)
 (Z:0≤wd∧wd≤1099511627776) (h2:0≤sl∧sl≤1099511627776) (R:cells.length≤16) (u:∀ p ∈ cells,bX p=false)
 (hL:∀ k',L.set i (.box g t (rdA A n k'))=L' k':=by(intro k';first | (simp only[ai,aj];done) | (simp only[ai,aj];exact rfl))):
 Calls Tryz.prog 277 #[.pointer (some ⟨g,0,none⟩)] W fun e w' => ∃ C y,RdP w0 [] X L' (ay.fact C cells.length cells::F) bs r (.agg #[.int .i64 wd,.int .i64 sl,.slice C cells.length y]) e w':=by
 have b:=b.out
 simp only[pz,List.append_assoc]at b
 rw[show aL [] = [] from rfl,List.nil_append]at b
 obtain⟨K,d⟩:=K.sself G
 have a:=Lib.hid b
 clear b
 go_enter Tryz.func277,Tryz.ntmps277
 go_upto_region 2 with(fail)
 refine K.cw fun V K=>?_
 generalize W.heap.size=D at K ⊢
 go_wp2_with fail
 refine(rdN wd _ K d hF a H (by omega) h).mono ?_
 rintro e N ⟨rfl,Y,K,a,m⟩
 have c0:=K.c 0 rfl
 go_upto_region 3 with(fail)
 refine K.cw fun W K=>?_
 clear c0
 go_wp2_with fail
 refine(rdN sl _ K d hF a m (by omega) h).mono ?_
 rintro e w3 ⟨rfl,k3,K,a,o⟩
 have c0:=K.c 0 rfl
 go_upto_region 4 with(fail)
 refine K.cw fun W K=>?_
 clear c0
 go_wp2_with fail
 refine(rdN (cells.length:Int) _ K d hF a o (by omega) h).mono ?_
 rintro e w4 ⟨rfl,J,K,a,q⟩
 have i1:¬ (16:Int)<(cells.length:Int):=by omega
 have K:=K.nrow (e:=220) (size:=2) (n:=0) (v := .slice none 0 0) (xs:=[]) (Below.refl _ _) ⟨rfl,.inl ⟨rfl,rfl⟩⟩
 go_upto_region 9 with(fail)
 go_loopw [22] (fun z wr => ∃ (j:Nat) (v:Value) (kk:Nat),j≤cells.length∧z = .int .i64 j∧kk≤bs.length∧Hid (bs.drop kk=(cells.drop j).flatMap fZ++r)∧HH w0 [] X wr (.row 220 2 v j (aB (cells.take j)) :: .box (D+1) 87 #[.int .i64 wd,.int .i64 sl,v] :: .box D 87 #[.int .i64 0,.int .i64 0,.slice none 0 0]::L.set i (.box g t (rdA A n kk))) F) (fun z _=>cells.length-(intOf z).toNat)
 case atStart=>exact⟨0,_,J,Nat.zero_le _,rfl,q,a,K⟩
 case round=>
  obtain⟨j,v,kk,hj,rfl,f,a,K⟩:=hrel
  by_cases w:j<cells.length
  ·obtain⟨p,l⟩:∃ p,cells[j]?=some p:=⟨_,List.getElem?_eq_getElem w⟩
   obtain⟨⟨S,P⟩,p3,p4⟩:=sX (u p (List.mem_of_getElem? l))
   have I:=Lib.hid (show aB (cells.take (j+1))=aB (cells.take j) ++ [.int .i64 p.1,.int .i64 p.2] from by rw[iw l,mW];rfl)
   have b:=a.out
   rw[drop_cons l,List.flatMap_cons,List.append_assoc]at b
   unfold fZ at b
   simp only[pz,List.append_assoc]at b
   rw[show aL [] = [] from rfl,List.nil_append]at b
   have a:=Lib.hid b
   clear b l
   have T:(j:Int)<(cells.length:Int):=by omega
   go_wp2_with fail
   refine(GK p.1 _ K d hF a f (by omega) h).mono ?_
   rintro e w5 ⟨rfl,Q,K,a,s⟩
   go_wp2_with fail
   refine(GK p.2 _ K d hF a s (by omega) h).mono ?_
   rintro e O ⟨rfl,M,K,a,x⟩
   have E:=K.c 1 rfl
   go_wp2_with (at_builtin;refine K.lw fun W K=>?_;refine K.ap1 16 0 rfl (by omega) fun v' U K=>?_;obtain⟨B,cb,rfl,-⟩:=aK (K.row 0 rfl);have E:=K.c 1 rfl)
   go_roundw
   case rel=>
    refine⟨j+1,.slice B (j+1) cb,M,by omega,by go_num,x,a,?_⟩
    rw[I.out]
    exact K.to
   case measure=>simp[intOf];omega
  ·obtain rfl:j=cells.length:=by omega
   rw[List.take_length]at K
   rw[List.drop_length,List.flatMap_nil,List.nil_append]at a
   obtain⟨C,y,rfl,K⟩:=K.cellsDone
   go_upto_region 14 with(fail)
   go_wp2_with (first | refine K.ld 0 rfl ?_ | refine K.sr 1 rfl fun W K=>?_)
   exact K.rc1 1 rfl rfl ⟨C,y,rfl,kk,hL kk ▸ K.tl.tl,a,f⟩
end
end
section
open Go.RowKit
def pf (h:Nat→Int) (j i:Nat):Int:=if i<j then h i else 0
abbrev cA (nm:ByteArray) (role mode wd sl:Int) (v:Value) (h:Nat→Int) (j:Nat) (hs room has:Int) (ct:Nat→Int) (l:Nat):Array Value:=#[.string nm,.int .i64 role,.int .i64 mode,.int .i64 wd,.int .i64 sl,v,.int .i64 (pf h j 0),.int .i64 (pf h j 1),.int .i64 (pf h j 2),.int .i64 (pf h j 3),.int .i64 (pf h j 4),.int .i64 (pf h j 5),.int .i64 (pf h j 6),.int .i64 (pf h j 7),.int .i64 (pf h j 8),.int .i64 hs,.int .i64 room,.int .i64 has,.int .i64 (pf ct l 0),.int .i64 (pf ct l 1),.int .i64 (pf ct l 2)]
theorem ju {l:List Int} {i:Nat} {x:Int} (h:okN l) (a:l[i]?=some x):0≤x∧x≤9223372036854775807:=h x (List.mem_of_getElem? a)
theorem gS {l:List Int} {j:Nat} {x:Int} (h:l[j]?=some x):aL (l.drop j)=au x.toNat++aL (l.drop (j+1)):=by rw[drop_cons h];rfl
section
variable {w0 W:World} {X:List Nat} {L:List Itm} {L':Nat→List Itm} {F:List Fact} {g:Nat} {t:TypeId} {A:Option Addr} {n c k:Nat} {bs:List UInt8}
def RcP (w0:World) (X:List Nat) (L':Nat→List Itm) (F:List Fact) (bs r:List UInt8) (c:Cmp) (e:Ending) (w':World):Prop := ∃ C m ck,RdP w0 [] X L' (ay.fact C m c.cells::F) bs r (.agg (cD c C m ck).toArray) e w'
set_option maxHeartbeats 8000000 in
theorem CF (i:Nat) (nm:ByteArray) (mode wd sl:Int) (cells:List (Int×Int)) (h:Nat→Int) (l:Int) (b:Nat→Int) (r:List UInt8) (K:HH w0 [] X W L F) (E:L[i]?=some (.box g t (rdA A n k))) (hF:Sl.fact ak A n c bs ∈ F) (s:Hid (bs.drop k=dU ⟨nm,1,mode,wd,sl,cells,h,l,0,0,b⟩++r)) (d:k≤bs.length) (m:n≤10000) (y:nm.size≤24) (G:okN [mode]) (q:(0≤wd∧wd≤1099511627776)∧(0≤sl∧sl≤1099511627776)∧cells.length≤16 ∧ ∀ p ∈ cells,bX p=false) (hh:okN (h9 h)) (w:okN [l]) (x:okN [b 0,b 1,b 2])
 (hL:∀ k',L.set i (.box g t (rdA A n k'))=L' k'):Calls Tryz.prog 256 #[.pointer (some ⟨g,0,none⟩)] W (RcP w0 X L' F bs r ⟨nm,1,mode,wd,sl,cells,h,l,0,0,b⟩):=by
 have s:=s.out
 have a:Hid (bs.drop k=bG nm.data.toList++(au (1:Int).toNat++(au mode.toNat++(aL [wd,sl,(cells.length:Int)]++(cells.flatMap fZ++(aL (h9 h)++(au l.toNat++(aL [b 0,b 1,b 2]++r)))))))):=Lib.hid (by rw[s];simp[dU,aL])
 clear s
 obtain⟨K,f⟩:=K.sself E
 go_enter Tryz.func256,Tryz.ntmps256
 go_upto_region 2 with(fail)
 refine K.cw fun V K=>?_
 generalize W.heap.size=o at K ⊢
 go_wp2_with fail
 refine(wg (L':=fun k'=>.box (o+1) 95 (cA ⟨#[]⟩ 0 0 0 0 (.slice none 0 0) h 0 0 0 0 b 0) :: .box o 95 (cA ⟨#[]⟩ 0 0 0 0 (.slice none 0 0) h 0 0 0 0 b 0)::L.set i (.box g t (rdA A n k'))) (i+2) nm _ K (List.getElem?_set_self f) hF a d y m (fun _=>by simp[pf])).mono ?_
 rintro e N ⟨rfl,O,K,a,d⟩
 have c0:=K.c 0 rfl
 go_upto_region 3 with(fail)
 refine K.cw fun W K=>?_
 clear c0
 go_wp2_with fail
 refine(rdN 1 _ K f hF a d (by omega) m).mono ?_
 rintro e D ⟨rfl,H,K,a,d⟩
 have c0:=K.c 0 rfl
 go_upto_region 8 with(fail)
 refine K.cw fun W K=>?_
 clear c0
 go_wp2_with fail
 refine(rdN mode _ K f hF a d (ju (i:=0) G rfl) m).mono ?_
 rintro e D ⟨rfl,H,K,a,d⟩
 have c0:=K.c 0 rfl
 go_upto_region 10 with(fail)
 refine K.cw fun W K=>?_
 clear c0
 go_wp2_with fail
 refine(Gt (i+2) wd sl cells _ K (List.getElem?_set_self f) hF a d m q.1 q.2.1 q.2.2.1 q.2.2.2 (fun _=>rfl)).mono ?_
 rintro e Q ⟨C,u,rfl,P,K,a,d⟩
 simp only[List.set_cons_succ,List.set_set]at K
 go_upto_region 11 with(first | refine K.ss (new:=cA nm 1 mode wd sl (.slice C cells.length u) h 0 0 0 0 b 0) 0 rfl fun W K=>?_)
 have c0:=K.r 0 rfl
 go_upto_region 13 with(fail)
 go_loopw [41] (fun z wr => ∃ (j kk:Nat),j≤9∧z = .int .i64 j∧kk≤bs.length∧Hid (bs.drop kk=aL ((h9 h).drop j)++(au l.toNat++(aL [b 0,b 1,b 2]++r)))∧HH w0 [] X wr (.box (o+1) 95 (cA nm 1 mode wd sl (.slice C cells.length u) h j 0 0 0 b 0) :: .box o 95 (cA ⟨#[]⟩ 0 0 0 0 (.slice none 0 0) h 0 0 0 0 b 0)::L.set i (.box g t (rdA A n kk))) (ay.fact C cells.length cells::F)) (fun z _=>9-(intOf z).toNat)
 case atStart=>exact⟨0,_,Nat.zero_le _,rfl,d,a,K⟩
 case round=>
  obtain⟨j,kk,J,rfl,d,a,K⟩:=hrel
  by_cases B:j<9
  ·obtain rfl | rfl | rfl | rfl | rfl | rfl | rfl | rfl | rfl:j=0∨j=1∨j=2∨j=3∨j=4∨j=5∨j=6∨j=7∨j=8:=by omega
   all_goals
    have a:=a.out
    rw[gS rfl,List.append_assoc]at a
    have a:=Lib.hid a
    go_wp2_with fail
    refine(rdN _ _ K f (List.mem_cons_of_mem _ hF) a d (hh _ (by simp[h9])) m).mono ?_
    rintro e I ⟨rfl,v,K,a,d⟩
    have c0:=K.c 0 rfl
    go_wp2
    go_roundw
    case rel=>exact⟨_,v,by omega,by go_num,d,a,K.to⟩
    case measure=>simp[intOf]
  obtain rfl:j=9:=by omega
  go_wp2_with fail
  refine(rdN l _ K f (List.mem_cons_of_mem _ hF) (show Hid (bs.drop _=au l.toNat++(aL [b 0,b 1,b 2]++r)) from a) d (ju (i:=0) w rfl) m).mono ?_
  rintro e M ⟨rfl,R,K,a,d⟩
  have c0:=K.c 0 rfl
  go_upto_region 18 with(fail)
  refine K.cw fun W K=>?_
  clear c0
  have c0:=K.r 0 rfl
  go_upto_region 22 with(fail)
  go_loopw [71] (fun z wr => ∃ (j kk:Nat),j≤3∧z = .int .i64 j∧kk≤bs.length∧Hid (bs.drop kk=aL ([b 0,b 1,b 2].drop j)++(r))∧HH w0 [] X wr (.box (o+1) 95 (cA nm 1 mode wd sl (.slice C cells.length u) h 9 l 0 0 b j) :: .box o 95 (cA ⟨#[]⟩ 0 0 0 0 (.slice none 0 0) h 0 0 0 0 b 0)::L.set i (.box g t (rdA A n kk))) (ay.fact C cells.length cells::F)) (fun z _=>3-(intOf z).toNat)
  case atStart=>exact⟨0,_,Nat.zero_le _,rfl,d,a,K⟩
  case round=>
   obtain⟨j,kk,J,rfl,d,a,K⟩:=hrel
   by_cases B:j<3
   ·obtain rfl | rfl | rfl:j=0∨j=1∨j=2:=by omega
    all_goals
     have a:=a.out
     rw[gS rfl,List.append_assoc]at a
     have a:=Lib.hid a
     go_wp2_with fail
     refine(rdN _ _ K f (List.mem_cons_of_mem _ hF) a d (x _ (by simp)) m).mono ?_
     rintro e I ⟨rfl,v,K,a,d⟩
     have c0:=K.c 0 rfl
     go_wp2
     go_roundw
     case rel=>exact⟨_,v,by omega,by go_num,d,a,K.to⟩
     case measure=>simp[intOf]
   obtain rfl:j=3:=by omega
   go_upto_region 26 with(fail)
   go_wp2_with (first | refine K.ld 0 rfl ?_ | refine K.sr 1 rfl fun W K=>?_)
   exact K.rc1 1 rfl rfl ⟨C,_,u,rfl,kk,hL kk ▸ K.tl.tl,a,d⟩
set_option maxHeartbeats 8000000 in
theorem AP (i:Nat) (nm:ByteArray) (h:Nat→Int) (B:∀ i,h i=0) (room has:Int) (b:Nat→Int) (r:List UInt8) (K:HH w0 [] X W L F) (x:L[i]?=some (.box g t (rdA A n k))) (hF:Sl.fact ak A n c bs ∈ F) (p:Hid (bs.drop k=dU ⟨nm,2,0,0,0,[],h,0,room,has,b⟩++r)) (d:k≤bs.length) (m:n≤10000) (s:nm.size≤24) (u:okN [room,has]) (q:okN [b 0,b 1,b 2])
 (hL:∀ k',L.set i (.box g t (rdA A n k'))=L' k'):Calls Tryz.prog 256 #[.pointer (some ⟨g,0,none⟩)] W (RcP w0 X L' F bs r ⟨nm,2,0,0,0,[],h,0,room,has,b⟩):=by
 have p:=p.out
 obtain rfl:h=fun _=>0:=funext B
 have a:Hid (bs.drop k=bG nm.data.toList++(au (2:Int).toNat++(au (0:Int).toNat++(au room.toNat++(au has.toNat++(aL [b 0,b 1,b 2]++r)))))):=Lib.hid (by rw[p];simp[dU,aL])
 clear p
 obtain⟨K,l⟩:=K.sself x
 go_enter Tryz.func256,Tryz.ntmps256
 go_upto_region 2 with(fail)
 refine K.cw fun V K=>?_
 generalize W.heap.size=o at K ⊢
 go_wp2_with fail
 refine(wg (L':=fun k'=>.box (o+1) 95 (cA ⟨#[]⟩ 0 0 0 0 (.slice none 0 0) (fun _=>0) 0 0 0 0 b 0) :: .box o 95 (cA ⟨#[]⟩ 0 0 0 0 (.slice none 0 0) (fun _=>0) 0 0 0 0 b 0)::L.set i (.box g t (rdA A n k'))) (i+2) nm _ K (List.getElem?_set_self l) hF a d s m (fun _=>by simp[pf])).mono ?_
 rintro e G ⟨rfl,H,K,a,d⟩
 have c0:=K.c 0 rfl
 go_upto_region 3 with(fail)
 refine K.cw fun W K=>?_
 clear c0
 go_wp2_with fail
 refine(rdN 2 _ K l hF a d (by omega) m).mono ?_
 rintro e v ⟨rfl,C,K,a,d⟩
 have c0:=K.c 0 rfl
 go_upto_region 8 with(fail)
 refine K.cw fun W K=>?_
 clear c0
 go_wp2_with fail
 refine(rdN 0 _ K l hF a d (by omega) m).mono ?_
 rintro e v ⟨rfl,C,K,a,d⟩
 ·skip
  have c0:=K.c 0 rfl
  go_upto_region 9 with(fail)
  refine K.cw fun W K=>?_
  clear c0
  have c0:=K.r 0 rfl
  go_wp2_with fail
  refine(rdN room _ K l hF (show Hid (bs.drop _=au room.toNat++(au has.toNat++(aL [b 0,b 1,b 2]++r))) from a) d (ju (i:=0) u rfl) m).mono ?_
  rintro e w ⟨rfl,E,K,a,d⟩
  have c0:=K.c 0 rfl
  go_upto_region 20 with(fail)
  refine K.cw fun W K=>?_
  clear c0
  have c0:=K.r 0 rfl
  go_wp2_with fail
  refine(rdN has _ K l hF (show Hid (bs.drop _=au has.toNat++(aL [b 0,b 1,b 2]++r)) from a) d (ju (i:=1) u rfl) m).mono ?_
  rintro e w ⟨rfl,E,K,a,d⟩
  have c0:=K.c 0 rfl
  go_upto_region 21 with(fail)
  refine K.cw fun W K=>?_
  clear c0
  have c0:=K.r 0 rfl
  go_upto_region 22 with(fail)
  go_loopw [71] (fun z wr => ∃ (j kk:Nat),j≤3∧z = .int .i64 j∧kk≤bs.length∧Hid (bs.drop kk=aL ([b 0,b 1,b 2].drop j)++(r))∧HH w0 [] X wr (.box (o+1) 95 (cA nm 2 0 0 0 (.slice none 0 0) (fun _=>0) 0 0 room has b j) :: .box o 95 (cA ⟨#[]⟩ 0 0 0 0 (.slice none 0 0) (fun _=>0) 0 0 0 0 b 0)::L.set i (.box g t (rdA A n kk))) F) (fun z _=>3-(intOf z).toNat)
  case atStart=>exact⟨0,_,Nat.zero_le _,rfl,d,a,K⟩
  case round=>
   obtain⟨j,kk,J,rfl,d,a,K⟩:=hrel
   by_cases D:j<3
   ·obtain rfl | rfl | rfl:j=0∨j=1∨j=2:=by omega
    all_goals
     have a:=a.out
     rw[gS rfl,List.append_assoc]at a
     have a:=Lib.hid a
     go_wp2_with fail
     refine(rdN _ _ K l hF a d (q _ (by simp)) m).mono ?_
     rintro e I ⟨rfl,y,K,a,d⟩
     have c0:=K.c 0 rfl
     go_wp2
     go_roundw
     case rel=>exact⟨_,y,by omega,by go_num,d,a,K.to⟩
     case measure=>simp[intOf]
   obtain rfl:j=3:=by omega
   go_upto_region 26 with(fail)
   go_wp2_with (first | refine K.ld 0 rfl ?_ | refine K.sr 1 rfl fun W K=>?_)
   exact K.rc1 1 rfl rfl ⟨none,0,0,rfl,kk,(hL kk ▸ K.tl.tl).kn (f:=ay.fact none 0 []) (ay.zero _ _),a,d⟩
set_option maxHeartbeats 8000000 in
theorem AK (i:Nat) (nm:ByteArray) (mode:Int) (h:Nat→Int) (m room has:Int) (b:Nat→Int) (r:List UInt8) (K:HH w0 [] X W L F) (E:L[i]?=some (.box g t (rdA A n k))) (hF:Sl.fact ak A n c bs ∈ F) (q:Hid (bs.drop k=dU ⟨nm,3,mode,0,0,[],h,m,room,has,b⟩++r)) (d:k≤bs.length) (o:n≤10000) (w:nm.size≤24) (G:okN [mode]) (hh:okN (h9 h)) (u:okN [m]) (y:okN [room,has]) (v:okN [b 0,b 1,b 2])
 (hL:∀ k',L.set i (.box g t (rdA A n k'))=L' k'):Calls Tryz.prog 256 #[.pointer (some ⟨g,0,none⟩)] W (RcP w0 X L' F bs r ⟨nm,3,mode,0,0,[],h,m,room,has,b⟩):=by
 have q:=q.out
 have a:Hid (bs.drop k=bG nm.data.toList++(au (3:Int).toNat++(au mode.toNat++(aL (h9 h)++(au m.toNat++(au room.toNat++(au has.toNat++(aL [b 0,b 1,b 2]++r)))))))):=Lib.hid (by rw[q];simp[dU,aL])
 clear q
 obtain⟨K,l⟩:=K.sself E
 go_enter Tryz.func256,Tryz.ntmps256
 go_upto_region 2 with(fail)
 refine K.cw fun V K=>?_
 generalize W.heap.size=p at K ⊢
 go_wp2_with fail
 refine(wg (L':=fun k'=>.box (p+1) 95 (cA ⟨#[]⟩ 0 0 0 0 (.slice none 0 0) h 0 0 0 0 b 0) :: .box p 95 (cA ⟨#[]⟩ 0 0 0 0 (.slice none 0 0) h 0 0 0 0 b 0)::L.set i (.box g t (rdA A n k'))) (i+2) nm _ K (List.getElem?_set_self l) hF a d w o (fun _=>by simp[pf])).mono ?_
 rintro e M ⟨rfl,N,K,a,d⟩
 have c0:=K.c 0 rfl
 go_upto_region 3 with(fail)
 refine K.cw fun W K=>?_
 clear c0
 go_wp2_with fail
 refine(rdN 3 _ K l hF a d (by omega) o).mono ?_
 rintro e D ⟨rfl,H,K,a,d⟩
 have c0:=K.c 0 rfl
 go_upto_region 8 with(fail)
 refine K.cw fun W K=>?_
 clear c0
 go_wp2_with fail
 refine(rdN mode _ K l hF a d (ju (i:=0) G rfl) o).mono ?_
 rintro e D ⟨rfl,H,K,a,d⟩
 have c0:=K.c 0 rfl
 go_upto_region 9 with(fail)
 refine K.cw fun W K=>?_
 clear c0
 have c0:=K.r 0 rfl
 go_upto_region 13 with(fail)
 go_loopw [41] (fun z wr => ∃ (j kk:Nat),j≤9∧z = .int .i64 j∧kk≤bs.length∧Hid (bs.drop kk=aL ((h9 h).drop j)++(au m.toNat++(au room.toNat++(au has.toNat++(aL [b 0,b 1,b 2]++r)))))∧HH w0 [] X wr (.box (p+1) 95 (cA nm 3 mode 0 0 (.slice none 0 0) h j 0 0 0 b 0) :: .box p 95 (cA ⟨#[]⟩ 0 0 0 0 (.slice none 0 0) h 0 0 0 0 b 0)::L.set i (.box g t (rdA A n kk))) F) (fun z _=>9-(intOf z).toNat)
 case atStart=>exact⟨0,_,Nat.zero_le _,rfl,d,a,K⟩
 case round=>
  obtain⟨j,kk,J,rfl,d,a,K⟩:=hrel
  by_cases x:j<9
  ·obtain rfl | rfl | rfl | rfl | rfl | rfl | rfl | rfl | rfl:j=0∨j=1∨j=2∨j=3∨j=4∨j=5∨j=6∨j=7∨j=8:=by omega
   all_goals
    have a:=a.out
    rw[gS rfl,List.append_assoc]at a
    have a:=Lib.hid a
    go_wp2_with fail
    refine(rdN _ _ K l hF a d (hh _ (by simp[h9])) o).mono ?_
    rintro e I ⟨rfl,s,K,a,d⟩
    have c0:=K.c 0 rfl
    go_wp2
    go_roundw
    case rel=>exact⟨_,s,by omega,by go_num,d,a,K.to⟩
    case measure=>simp[intOf]
  obtain rfl:j=9:=by omega
  go_wp2_with fail
  refine(rdN m _ K l hF (show Hid (bs.drop _=au m.toNat++(au room.toNat++(au has.toNat++(aL [b 0,b 1,b 2]++r)))) from a) d (ju (i:=0) u rfl) o).mono ?_
  rintro e B ⟨rfl,C,K,a,d⟩
  have c0:=K.c 0 rfl
  go_upto_region 18 with(fail)
  refine K.cw fun W K=>?_
  clear c0
  have c0:=K.r 0 rfl
  go_wp2_with fail
  refine(rdN room _ K l hF (show Hid (bs.drop _=au room.toNat++(au has.toNat++(aL [b 0,b 1,b 2]++r))) from a) d (ju (i:=0) y rfl) o).mono ?_
  rintro e B ⟨rfl,C,K,a,d⟩
  have c0:=K.c 0 rfl
  go_upto_region 20 with(fail)
  refine K.cw fun W K=>?_
  clear c0
  have c0:=K.r 0 rfl
  go_wp2_with fail
  refine(rdN has _ K l hF (show Hid (bs.drop _=au has.toNat++(aL [b 0,b 1,b 2]++r)) from a) d (ju (i:=1) y rfl) o).mono ?_
  rintro e B ⟨rfl,C,K,a,d⟩
  have c0:=K.c 0 rfl
  go_upto_region 21 with(fail)
  refine K.cw fun W K=>?_
  clear c0
  have c0:=K.r 0 rfl
  go_upto_region 22 with(fail)
  go_loopw [71] (fun z wr => ∃ (j kk:Nat),j≤3∧z = .int .i64 j∧kk≤bs.length∧Hid (bs.drop kk=aL ([b 0,b 1,b 2].drop j)++(r))∧HH w0 [] X wr (.box (p+1) 95 (cA nm 3 mode 0 0 (.slice none 0 0) h 9 m room has b j) :: .box p 95 (cA ⟨#[]⟩ 0 0 0 0 (.slice none 0 0) h 0 0 0 0 b 0)::L.set i (.box g t (rdA A n kk))) F) (fun z _=>3-(intOf z).toNat)
  case atStart=>exact⟨0,_,Nat.zero_le _,rfl,d,a,K⟩
  case round=>
   obtain⟨j,kk,J,rfl,d,a,K⟩:=hrel
   by_cases x:j<3
   ·obtain rfl | rfl | rfl:j=0∨j=1∨j=2:=by omega
    all_goals
     have a:=a.out
     rw[gS rfl,List.append_assoc]at a
     have a:=Lib.hid a
     go_wp2_with fail
     refine(rdN _ _ K l hF a d (v _ (by simp)) o).mono ?_
     rintro e I ⟨rfl,s,K,a,d⟩
     have c0:=K.c 0 rfl
     go_wp2
     go_roundw
     case rel=>exact⟨_,s,by omega,by go_num,d,a,K.to⟩
     case measure=>simp[intOf]
   obtain rfl:j=3:=by omega
   go_upto_region 26 with(fail)
   go_wp2_with (first | refine K.ld 0 rfl ?_ | refine K.sr 1 rfl fun W K=>?_)
   exact K.rc1 1 rfl rfl ⟨none,0,0,rfl,kk,(hL kk ▸ K.tl.tl).kn (f:=ay.fact none 0 []) (ay.zero _ _),a,d⟩
end
end
section
open Go.RowKit
section
variable {w0 W:World} {X:List Nat} {L:List Itm} {L':Nat→List Itm} {F:List Fact} {g:Nat} {t:TypeId} {A:Option Addr} {n c k:Nat} {bs:List UInt8}
theorem De (i:Nat) (x:Cmp) (v:dR x) (r:List UInt8) (K:HH w0 [] X W L F) (p:L[i]?=some (.box g t (rdA A n k))) (hF:Sl.fact ak A n c bs ∈ F) (y:Hid (bs.drop k=dU x++r)) (q:k≤bs.length) (w:n≤10000)
 (hL:∀ k',L.set i (.box g t (rdA A n k'))=L' k':=by(intro k';first | (simp only[ai,aj];done) | (simp only[ai,aj];exact rfl))):Calls Tryz.prog 256 #[.pointer (some ⟨g,0,none⟩)] W (RcP w0 X L' F bs r x):=by
 obtain⟨nm,role,mode,wd,sl,cells,h,f,room,has,e⟩:=x
 obtain⟨⟨E,o⟩,⟨j,m,l⟩,z⟩:=v
 simp only at E o j m l z
 unfold bM at j m l
 have j:=of_decide_eq_true j
 have m:=of_decide_eq_true m
 have l:=of_decide_eq_true l
 have d:okN [e 0,e 1,e 2]:=aE (by omega) (by omega) (aE (by omega) (by omega) (aE (by omega) (by omega) bC))
 have hC:bV h f=true→okN (h9 h)∧okN [f]:=fun b=>by
  obtain⟨a,H,M⟩:=kM b
  refine⟨?_,aE (by omega) (by omega) bC⟩
  intro x B
  simp only[h9,List.mem_cons,List.not_mem_nil,or_false]at B
  rcases B with rfl | rfl | rfl | rfl | rfl | rfl | rfl | rfl | rfl
  all_goals first | (have:=a 0 (by omega);omega) | (have:=a 1 (by omega);omega) | (have:=a 2 (by omega);omega) | (have:=a 3 (by omega);omega) | (have:=a 4 (by omega);omega) | (have:=a 5 (by omega);omega) | (have:=a 6 (by omega);omega) | (have:=a 7 (by omega);omega) | (have:=a 8 (by omega);omega)
 have hE:fJ room has=true→okN [room,has]:=fun g=>by
  have J:=of_decide_eq_true (show decide (0≤room∧room≤2147483647∧0≤has∧has≤room)=true from g)
  exact aE (by omega) (by omega) (aE (by omega) (by omega) bC)
 rcases z with⟨rfl,D,s,u,b,rfl,rfl⟩ | ⟨rfl,rfl,rfl,rfl,rfl,C,rfl,s⟩ | ⟨rfl,D,s,rfl,rfl,rfl,b,u⟩
 ·obtain⟨⟨P,O,I,Q,N,R⟩,G⟩:=dn.1 u
  exact CF i nm mode wd sl cells h f e r K p hF y q w o (aE (by omega) (by omega) bC) ⟨by omega,by omega,by omega,G⟩ (hC b).1 (hC b).2 d hL
 ·exact AP i nm h C room has e r K p hF y q w o (hE s) d hL
 ·exact AK i nm mode h f room has e r K p hF y q w o (aE (by omega) (by omega) bC) (hC b).1 (hC b).2 (hE u) d hL
end
set_option maxHeartbeats 4000000 in
theorem vw (s:St) (o:bD s) (A:Option Addr) (n G:Nat) (X:List Nat) (w:World) (hX:XOk X w) (t:Sl ak w X A n G (stE s)):
 Calls Tryz.prog 210 #[.slice A n G] w fun e w' => ∃ C k p,e = .returned (.tuple #[.agg #[.slice C k p,.int .i64 s.q,.int .i64 s.a],.int .i64 0])∧Sl aI w' X C k p s.cs∧Below w.heap.size w w':=by
 have hlen:=ot o
 have F:n≤10000:=by have:=t.len;omega
 have H:=Lib.hid t.len
 have L:=Lib.hid o
 obtain⟨cs,q,a⟩:=s
 obtain⟨o1,o2,o3,o4,o5,Q,o7⟩:=o
 simp only at o1 o2 o3 o4 o5 Q
 have b:Hid ((stE ⟨cs,q,a⟩).drop 0=au ((cs.length:Nat):Int).toNat++(cs.flatMap dU++(au q.toNat++(au a.toNat ++ [])))):=Lib.hid (by simp[stE,aL])
 generalize stE ⟨cs,q,a⟩=bs at *
 go_enter Tryz.func210,Tryz.ntmps210
 go_upto_region 1 with(fail)
 refine(hstart hX).cw fun W K=>?_
 have K:=K.ksl0 t
 have M:=t.le
 clear t
 go_wp2_with fail
 refine(rQ A n G _ M).mono ?_
 rintro e T ⟨rfl,l⟩
 have K:=K.on l
 clear l
 go_upto_region 3 with(fail)
 refine K.cw fun W K=>?_
 generalize w.heap.size=u at K ⊢
 generalize T.heap.size=d at K ⊢
 go_wp2_with fail
 refine(rdNum (L':=fun k'=>.box (d+1) 37 #[.slice none 0 0,.int .i64 0,.int .i64 0] :: .box d 323 (rdA A n k') :: .box u 37 #[.slice none 0 0,.int .i64 0,.int .i64 0] :: []) 1 _ _ K rfl (List.Mem.head _) b (Nat.zero_le _) (by omega) F).mono ?_
 rintro e w2 ⟨rfl,Z,K,b,g⟩
 rw[show(((cs.length:Nat):Int).toNat:Int)=(cs.length:Int) from by omega]
 have i1:¬ (12:Int)<(cs.length:Int):=by omega
 have K:=((K.nrow (e:=95) (size:=21) (n:=0) (v := .slice none 0 0) (xs:=[]) (Below.refl _ _) ⟨rfl,.inl ⟨rfl,rfl⟩⟩).kra (s:=aI) (vs:=[]) (xs:=[]) rfl).mv 2 rfl
 go_upto_region 7 with(fail)
 go_loopw [17] (fun z wr => ∃ (j kk:Nat) (v:Value) (vs:List Value),j≤cs.length∧z = .int .i64 j∧kk≤bs.length∧Hid (bs.drop kk=(cs.drop j).flatMap dU++(au q.toNat++(au a.toNat ++ [])))∧HH w [] X wr [.box d 323 (rdA A n kk),.row 95 21 v j vs,.box (d+1) 37 #[v,.int .i64 0,.int .i64 0],.box u 37 #[.slice none 0 0,.int .i64 0,.int .i64 0]] [Ra.fact aI vs (cs.take j),Sl.fact ak A n G bs]) (fun z _=>cs.length-(intOf z).toNat)
 case atStart=>exact⟨0,Z,_,_,Nat.zero_le _,rfl,g,b,K⟩
 case round=>
  obtain⟨j,kk,v,vs,hj,rfl,g,b,K⟩:=hrel
  obtain⟨B,cb,rfl,-⟩:=aK (K.row 1 rfl)
  by_cases I:j<cs.length
  ·obtain⟨x,E⟩:∃ x,cs[j]?=some x:=⟨_,List.getElem?_eq_getElem I⟩
   have i:=Q x (List.mem_of_getElem? E)
   have Y:=Lib.hid (iw E)
   have O:=b.out
   rw[drop_cons E,List.flatMap_cons,List.append_assoc]at O
   have b:=Lib.hid O
   have i2:(j:Int)<(cs.length:Int):=by omega
   clear O E
   go_upto_region 8 with(fail)
   refine K.rgl 7 7 (fun V h=>h.tl.tl) fun W K=>?_
   refine tK 0 K.tl.tl ?_
   refine tL 1 (fun _ h=>h.r 0 rfl) K.tl.tl ?_
   refine tK 2 K.tl.tl ?_
   refine tC 3 fun K' hK=>?_
   go_simp
   refine(De 0 x i _ K rfl (.tail _ (.head _)) b g F).mono ?_
   rintro e w5 ⟨C,m,p,rfl,k5,K,b,g⟩
   simp only[]at K
   refine hK.out _ _ K.tl.tl.ft fun _=>?_
   clear hK K'
   try simp only[Act.put,an,ai,aj]
   refine tC 4 fun K' hK=>?_
   go_simp
   have K:=K.to (W':=w5.alloc (.cells (cD x C m p).toArray 95))
   refine hK.out _ _ K.tl.tl.tl.ft fun _=>?_
   clear hK K'
   try simp only[Act.put,an,ai,aj]
   refine tA 5 K 192 1 rfl (by omega) (fun v' U h=>h.tl.tl.ft) fun v' U K=>?_
   refine tK 6 K.tl.tl.ft ?_
   obtain⟨S,J,rfl,-⟩:=aK (K.row 1 rfl)
   have y:=K.c 2 rfl
   refine tZ fun K' hK=>?_
   go_simp
   refine hK.out _ _ ?_
   clear hK K' y
   try simp only[Act.put]
   go_upto_region 9 with(fail)
   refine K.cw fun W K=>?_
   have K:=K.kra ((K.ra 1 rfl).append (.single (s:=aI) (x:=x) ⟨C,m,p,rfl,K.fa (f:=ay.fact C m x.cells) 0 rfl,by have:=i.1.2;unfold maxLen;omega⟩))
   go_wp2
   go_roundw
   case rel=>
    refine⟨j+1,k5,.slice S (j+1) J,vs++cD x C m p,by omega,by go_num,g,b,?_⟩
    rw[Y.out]
    exact(K.out.forget (List.Sublist.cons_cons _ (List.Sublist.cons _ (List.Sublist.cons _ (List.Sublist.refl _))))).hh
   case measure=>simp[intOf];omega
  ·obtain rfl:j=cs.length:=by omega
   rw[List.take_length]at K
   have b:Hid (bs.drop kk=au q.toNat++(au a.toNat ++ [])):=by rw[List.drop_length]at b;exact b
   go_upto_region 10 with(fail)
   go_wp2_with fail
   refine(rdNum (L':=fun k' => [.box d 323 (rdA A n k'),.row 95 21 (.slice B cs.length cb) cs.length vs,.box (d+1) 37 #[.slice B cs.length cb,.int .i64 0,.int .i64 0],.box u 37 #[.slice none 0 0,.int .i64 0,.int .i64 0]]) 0 q.toNat _ K rfl (.tail _ (.head _)) b g (by omega) F).mono ?_
   rw[show((q.toNat:Nat):Int)=q from by omega]
   rintro e w6 ⟨rfl,k6,K,b,g⟩
   have y:=K.c 2 rfl
   go_upto_region 11 with(fail)
   refine K.cw fun W K=>?_
   clear y
   go_wp2_with fail
   refine(rdNum (L':=fun k' => [.box d 323 (rdA A n k'),.row 95 21 (.slice B cs.length cb) cs.length vs,.box (d+1) 37 #[.slice B cs.length cb,.int .i64 q,.int .i64 0],.box u 37 #[.slice none 0 0,.int .i64 0,.int .i64 0]]) 0 a.toNat _ K rfl (.tail _ (.head _)) b g (by omega) F).mono ?_
   rw[show((a.toNat:Nat):Int)=a from by omega]
   rintro e w7 ⟨rfl,N,K,b,g⟩
   have D:(n:Int)-(N:Int)=0:=by
    have h:=congrArg List.length b.out
    rw[List.length_drop,List.length_nil]at h
    have:=H.out
    omega
   have y:=K.c 2 rfl
   go_upto_region 12 with(fail)
   refine K.cw fun W K=>?_
   clear y
   have K:=(K.mv 1 rfl)
   obtain⟨C,p,P,R⟩:=K.out.done_row (s:=aI) 0 rfl (K.ra 0 rfl) (by decide) (by simp)
   injection P with P e2 e3
   subst P e3
   have K:HH w [] X _ [.box d _ _,.box (d+1) _ _,.box u _ _] _:=R
   clear e2 R
   have c0:=K.r 0 rfl
   go_wp2_with (first | refine bF (K.sub 0 rfl 0 [.slice A n n,.int .i64 (N:Int),.int .i64 0]) ?_ | refine K.ld 1 rfl ?_)
   refine(gR A n n N _ (by omega) (by omega) (by omega)).mono ?_
   rw[D]
   rintro e w8 ⟨rfl,l⟩
   have K:=K.on l
   clear l c0 D
   go_wp2_with (first | refine bF (K.at_ 1 rfl) ?_)
   refine(ep ⟨cs,q,a⟩ B _ cb _ _ K.xok (K.sl 0 rfl) L.out).mono ?_
   rintro e w9 ⟨rfl,l⟩
   have K:=K.on l
   clear l
   go_wp2_with (first | refine K.ld 1 rfl ?_ | refine K.sr 2 rfl fun W K=>?_)
   exact K.rc2 2 rfl rfl ⟨B,_,cb,rfl,K.slb 0 rfl,K.below⟩
theorem sQ (A p:Option Addr) (n c m r q:Nat) (bs ps:List UInt8) (X:List Nat) (w:World) (a:Sl ak w X A n c bs) (b:Reads w q 1 p m (byteCells ps)) (f:ps.isPrefixOf bs=true) (u:0<m):
 Calls Tryz.prog 175 #[.slice A n c,.slice p m r] w fun e w' => ∃ A' c',e = .returned (.tuple #[.slice A' (n-m) c',.bool true])∧Sl ak w X A' (n-m) c' (bs.drop m)∧w=w':=by
 have o:m≤n:=by
  have v:=List.IsPrefix.length_le (List.isPrefixOf_iff_prefix.1 f)
  have x:=a.len
  have y:=b.lenB
  omega
 have g:=a.le
 have l:c≤9223372036854775807:=by have:=a.max;unfold maxLen at this;omega
 have d:=Lib.hid (a.suf (k:=m) o)
 have j:=Lib.hid (jE A p n c m r w.heap.size q bs ps w a.bytes b g l)
 rw[f]at j
 obtain⟨ad,rfl⟩:∃ ad,A=some ad:=by
  obtain⟨ad,e,-⟩:=a.bytes.2 (by omega)
  exact⟨ad,e⟩
 clear a b f
 by_cases i:c=m
 ·subst i
  rw[if_pos rfl]at d
  go_enter Tryz.func175,Tryz.ntmps175
  go_wp2_with (go_at_call 227;refine(j.out).mono ?_;rintro e w' ⟨rfl,rfl⟩)
  go_ret2
  exact⟨some ad,c-c,by first | rfl | (simp;omega),d.out,rfl⟩
 ·rw[if_neg i,show(ak.size)=1 from rfl,Nat.mul_one]at d
  have s:¬ m=c:=fun h=>i h.symm
  have t:m<c:=by omega
  go_enter Tryz.func175,Tryz.ntmps175
  go_wp2_with (go_at_call 227;refine(j.out).mono ?_;rintro e w' ⟨rfl,rfl⟩)
  go_ret2
  exact⟨_,_,rfl,d.out,rfl⟩
set_option maxHeartbeats 1000000 in
theorem wm (s:St) (i:bD s) (A:Option Addr) (n h:Nat) (X:List Nat) (w:World) (hX:XOk X w) (g:Sl ak w X A n h (cW s)):
 Calls Tryz.prog 143 #[.slice A n h] w fun e w' => ∃ C k o,e = .returned (.tuple #[.agg #[.slice C k o,.int .i64 s.q,.int .i64 s.a],.int .i64 0])∧Sl aI w' X C k o s.cs∧Below w.heap.size w w':=by
 have H:=ot i
 have y:=g.len
 have p:=xB s
 have c:cW s=([102,98,115,49]++stE s)++kU (pW cZ 0 (bE ([102,98,115,49]++stE s))):=rfl
 have v:=fun(A:Option Addr) (n h:Nat) (X:List Nat) (w:World) (hX:XOk X w) (g:Sl ak w X A n h (stE s))=>Lib.hid (vw s i A n h X w hX g)
 generalize stE s=T at *
 have b:(cW s).length=T.length+8:=by rw[c];simp[fm]
 obtain⟨m,rfl⟩:∃ m,n=m+4:=⟨n-4,by omega⟩
 have t:m=([102,98,115,49]++T).length:=by rw[List.length_append];simp;omega
 have f:(cW s).take m = [102,98,115,49]++T:=by rw[t,c,List.take_left]
 have z:=Lib.hid f
 have l:(fK cZ ((cW s).take m) == cW s)=true:=by rw[f,c];simp[fK]
 have r:=g.le
 have u:h≤9223372036854775807:=by have:=g.max;unfold maxLen at this;omega
 have j:m=T.length+4:=by rw[t,List.length_append];simp;omega
 clear f c t
 generalize cW s=bs at *
 have G:m≤8000∧4≤m:=by omega
 have I:=Lib.hid j
 clear j y b H p
 go_enter Tryz.func143,Tryz.ntmps143
 go_upto_region 1 with(fail)
 refine(hstart hX).cw fun W K=>?_
 have K:=K.ksl0 g
 clear g
 go_wp2_with fail
 refine(mD _).mono ?_
 rintro e F ⟨rfl,d⟩
 have K:=K.on d
 clear d
 go_wp2_with fail
 refine(qP cZ DD A (m+4) m h _ bs F rfl (K.sl 0 rfl).bytes (Nat.le_refl _) r (by omega) u l).mono ?_
 rintro e B ⟨rfl,d⟩
 have K:=K.on d
 clear d l
 have x:=((K.sl 0 rfl).pre (k:=m) (by omega)).cap (c':=m) (Nat.le_refl m) (by omega)
 rw[z.out]at x
 have K:=K.ksl x
 clear x
 have kc:=Lib.run_convert_bytes_const (P:=Tryz.prog) B 50 5 #[.int .u8 102,.int .u8 98,.int .u8 115,.int .u8 49] 4 4 Tryz.underlying50 Tryz.underlying5
 have K:=(K.out.marked #[.int .u8 102,.int .u8 98,.int .u8 115,.int .u8 49] 5 (4,5) [102,98,115,49] rfl (by unfold maxLen;simp)).hh
 go_wp2_with fail
 refine(sQ A (some ⟨B.heap.size,0,none⟩) m m 4 4 _ ([102,98,115,49]++T) [102,98,115,49] _ _ (K.sl 1 rfl) (K.sl 0 rfl).bytes (by simp) (by omega)).mono ?_
 rintro e L ⟨D,E,rfl,b,rfl⟩
 have b:Sl ak _ _ D (m-4) E T:=b
 have K:=K.ksl b
 clear b
 go_wp2_with fail
 refine(v D (m-4) E _ _ K.xok (K.sl 0 rfl)).out.mono ?_
 rintro e J ⟨C,k,o,rfl,b,d⟩
 have K:=(K.on d).ksl b
 clear d b
 go_wp2_with (first | (refine K.lw fun W K=>?_;refine K.sr 0 rfl fun W K=>?_) | refine K.ld 0 rfl ?_ | refine K.sr 1 rfl fun W K=>?_)
 exact K.rc2 1 rfl rfl ⟨C,k,o,rfl,K.slb 0 rfl,K.below⟩
end
section
open Go.RowKit
theorem um {n:Nat} (h:n≤99999999):snB (cx n)=true∧((cx n).extract 5 15).data.toList=qm n:=by
 have a:=eA n
 have b:=jP h
 refine⟨?_,?_⟩
 ·unfold snB
  rw[lG h,ByteArray.toList_eq,ByteArray.data_extract,Array.toList_extract,a]
  rfl
 ·rw[ByteArray.data_extract,Array.toList_extract,a]
  simp
  exact List.take_of_length_le (by omega)
theorem Aw (s d:ByteArray) (h:snB s=true) (b:s.size=15) (c:s.extract 5 15=d) (w:World):Calls Tryz.prog 208 #[.string s,.string ⟨#[115,110,97,112,46]⟩] w fun e w'=>e = .returned (.tuple #[.string d,.bool true])∧w=w':=by
 go_enter Tryz.func208,Tryz.ntmps208
 go_wp2_with fail
 have H:Calls Tryz.prog 252 #[.string s,.string ⟨#[115,110,97,112,46]⟩] w fun e w'=>e = .returned (.tuple #[.string d,.bool true])∧w=w':=by
  go_enter Tryz.func252,Tryz.ntmps252
  go_wp2_with fail
  refine(tW s w).mono ?_
  rw[h]
  rintro e a ⟨rfl,rfl⟩
  go_wp2
  go_ret2
  exact⟨rfl,rfl⟩
 refine H.mono ?_
 rintro e a ⟨rfl,rfl⟩
 go_wp2
 go_ret2
 exact⟨rfl,rfl⟩
theorem yy (l:List UInt8) (c:UInt8):ef 0 (l ++ [c])=ef 0 l*10+(c.toNat-48):=by
 unfold ef
 rw[List.foldl_append]
 rfl
set_option maxHeartbeats 1000000 in
theorem EN (n:Nat) (h:n≤99999999) (w:World):Calls Tryz.prog 142 #[.string (cx n)] w fun e w'=>e = .returned (.tuple #[.int .i64 (n:Int),.bool true])∧w=w':=by
 obtain⟨p,i⟩:=um h
 have o:=lG h
 obtain⟨g,j⟩:=mG (n:=n)
 have q:=jP h
 generalize cx n=s at *
 generalize t:s.extract 5 15=d at *
 have C:d.size=10:=by show d.data.size=10;rw[←Array.length_toList,i,q]
 rw[←i]at g j
 have u:=Lib.hid j
 have E:Hid (∀ (k:Nat) (hk:k<d.size),48≤(d[k]'hk).toNat∧(d[k]'hk).toNat≤57∧d.data.toList.take (k+1)=d.data.toList.take k ++ [d[k]'hk]):=Lib.hid (fun k hk=>by
  have e:d.data.toList[k]?=some (d[k]'hk):=by rw[ByteArray.getElem_eq_getElem_data,Array.getElem?_toList];exact Array.getElem?_eq_getElem hk
  exact⟨(g _ (List.mem_of_getElem? e)).1,(g _ (List.mem_of_getElem? e)).2,iw e⟩)
 have r:Hid (∀ k,k≤10→ef 0 (d.data.toList.take k)≤99999999):=Lib.hid (fun k hk=>by
  have D:d.data.toList=d.data.toList.take k++d.data.toList.drop k:=(List.take_append_drop _ _).symm
  have R:ef 0 d.data.toList=ef (ef 0 (d.data.toList.take k)) (d.data.toList.drop k):=by
   conv=>lhs;rw[D]
   unfold ef
   rw[List.foldl_append]
  have K:=sL (d.data.toList.drop k) (ef 0 (d.data.toList.take k))
  omega)
 clear i g j q
 have l:=Lib.hid (Aw s d p o t w)
 clear p o t
 go_enter Tryz.func142,Tryz.ntmps142
 go_wp2_with fail
 refine l.out.mono ?_
 rintro e J ⟨rfl,rfl⟩
 have N:(d.size:Int)=10:=by omega
 go_upto_region 6 with(fail)
 go_loopw [6,22] (fun a z wr => ∃ (k:Nat),k≤10∧z = .int .i64 k∧a = .int .i64 ((ef 0 (d.data.toList.take k):Nat):Int)∧wr=w) (fun _ z _=>10-(intOf z).toNat)
 case atStart=>exact⟨0,Nat.zero_le _,rfl,rfl,rfl⟩
 case round=>
  obtain⟨k,hk,rfl,rfl,rfl⟩:=hrel
  have x:=r.out k hk
  by_cases hlt:k<d.size
  ·obtain⟨y,A,m⟩:=E.out k hlt
   have f:=Lib.hid (yy (d.data.toList.take k) (d[k]'hlt))
   rw[←m]at f
   have c:=r.out (k+1) (by omega)
   rw[f.out]at c
   generalize G:d[k]'hlt=b at y A m f c
   generalize ef 0 (d.data.toList.take k)=v at f x c ⊢
   clear m
   have Q:(0:Int)≤(k:Int):=by omega
   have H:(k:Int)<10:=by omega
   have F:(k:Int)<(d.size:Int):=by omega
   have P:(48:Int)≤(b.toNat:Int):=by omega
   have I:(b.toNat:Int)≤57:=by omega
   have O:IntKind.u8.wrap ((b.toNat:Int)-48)=(b.toNat:Int)-48:=IntWalk.u8_in _ (by omega)
   have S:IntKind.i64.wrap ((b.toNat:Int)-48)=(b.toNat:Int)-48:=IntWalk.i64_in _ (by omega)
   have M:wrap64 ((v:Int)*10)=(v:Int)*10:=by unfold wrap64;omega
   have L:wrap64 ((v:Int)*10+((b.toNat:Int)-48))=(v:Int)*10+((b.toNat:Int)-48):=by unfold wrap64;omega
   go_wp2
   go_roundw
   case rel=>
    refine⟨k+1,by omega,by go_num,?_,trivial⟩
    rw[f.out]
    congr 1
    omega
   case measure=>simp[intOf];omega
  ·obtain rfl:k=10:=by omega
   have B:d.data.toList.take 10=d.data.toList:=List.take_of_length_le (by have:d.data.toList.length=d.size:=Array.length_toList;omega)
   rw[B,u.out]
   have F:¬ (4294967296:Int)<(n:Int):=by omega
   go_wp2
   go_ret2
   exact⟨rfl,rfl⟩
def vR (f:Fil) (o:Option St):Prop:=match o with
 | none=>snB f.nm=false
 | some s=>bD s∧s.q≤99999999∧f.nm=cx s.q.toNat∧f.all=cW s
def ie (c o:Option St):Option St:=match o with
 | none=>c
 | some s=>if s.q≤(c.getD ⟨[],-1,0⟩).q then c else some s
theorem Cz {α β:Type} {f:β→α→β} {b:β} {l:List α} {k:Nat} {x:α} (h:l[k]?=some x):(l.take (k+1)).foldl f b=f ((l.take k).foldl f b) x:=by
 rw[iw h,List.foldl_append]
 rfl
theorem DZ {os:List (Option St)} (h:∀ o ∈ os,∀ s,o=some s→bD s):∀ s,os.foldl ie none=some s→bD s:=by
 have key:∀ (l:List (Option St)) (c:Option St),(∀ o ∈ l,∀ s,o=some s→bD s)→(∀ s,c=some s→bD s) → ∀ s,l.foldl ie c=some s→bD s:=by
  intro l
  induction l with
  | nil=>intro c _ b;exact b
  | cons o l ih=>
    intro c d b
    refine ih _ (fun x e=>d x (by simp[e])) fun s a=>?_
    unfold ie at a
    split at a
    ·exact b s a
    ·split at a
     ·exact b s a
     ·exact d _ (by simp) s a
 exact key os none h (fun s a=>by cases a)
def nZ (r:Option St) (X:List Nat) (w:World) (e:Ending) (w':World):Prop := ∃ C k ck,e = .returned (.tuple #[.agg #[.slice C k ck,.int .i64 (r.getD ⟨[],0,0⟩).q,.int .i64 (r.getD ⟨[],0,0⟩).a],.int .i64 (if r.isSome then 0 else 14)])∧Sl aI w' X C k ck (r.getD ⟨[],0,0⟩).cs∧Below w.heap.size w w'
set_option maxHeartbeats 4000000 in
theorem CN (fs:List Fil) (os:List (Option St)) (room:Int) (A:Option Addr) (n p:Nat) (X:List Nat) (w:World) (hX:XOk X w) (v:Sl ax w X A n p fs) (l:cj ⟨fs,room⟩) (z:os.length=fs.length) (F:∀ (i:Nat) f o,fs[i]?=some f→os[i]?=some o→vR f o):
 Calls Tryz.prog 76 #[.agg #[.slice A n p,.int .i64 room,.int .i64 (-1),.bool false]] w (nZ (os.foldl ie none) X w):=by
 have L:=Lib.hid v.len
 have U:=Lib.hid z
 have G:n≤64:=by have:=l.1;have:=v.len;simp only at *;omega
 have N:∀ f ∈ fs,f.nm.size≤maxLen:=fun f S=>by
  have:=l.2.2.2.1 f S
  unfold fnB at this
  unfold maxLen
  simp at this
  omega
 have M:Hid (∀ k,∀ s,(os.take k).foldl ie none=some s→bD s):=Lib.hid (fun k=>DZ (fun o t s v=>by
  obtain⟨i,Y⟩:=List.getElem?_of_mem (List.mem_of_mem_take t)
  subst v
  obtain⟨f,S⟩:∃ f,fs[i]?=some f:=⟨_,List.getElem?_eq_getElem (by have:=(List.getElem?_eq_some_iff.1 Y).1;omega)⟩
  exact(F i f _ S Y).1))
 clear z
 go_enter Tryz.func76,Tryz.ntmps76
 go_upto_region 1 with(fail)
 refine(hstart hX).cw fun W K=>?_
 have K:=K.ksl0 v
 clear v
 have c0:=K.r 1 rfl
 go_wp2_with fail
 refine(eZ ⟨fs,room⟩ A n p _ _ K.xok (K.sl 0 rfl) l).mono ?_
 rintro e w1 ⟨rfl,h⟩
 have K:=K.on h
 clear h c0
 have c0:=K.r 1 rfl
 go_upto_region 6 with(refine K.lw fun W K=>?_;refine K.sr 0 rfl fun W K=>?_)
 clear c0
 have c0:=K.r 2 rfl
 go_wp2_with fail
 refine(tD fs room A n p _ _ K.xok (K.sl 0 rfl) G N).mono ?_
 rintro e w2 ⟨B,bc,rfl,d,h⟩
 have K:=((K.on h).ksl d).ksl (s:=aI) (A:=none) (n:=0) (c:=0) (xs:=[]) Sl.nil_
 clear h c0 d
 generalize w.heap.size=V at K ⊢
 generalize w1.heap.size=g1 at K ⊢
 go_wp2
 go_loopw [23] (fun i wr => ∃ (k:Nat) (C:Option Addr) (m y:Nat),k≤n∧i = .int .i64 k∧HH w [] X wr [.box g1 37 #[.slice C m y,.int .i64 (((os.take k).foldl ie none).getD ⟨[],-1,0⟩).q,.int .i64 (((os.take k).foldl ie none).getD ⟨[],-1,0⟩).a],.box (V+1) 37 #[.slice none 0 0,.int .i64 0,.int .i64 0],.box V 30 #[.slice A n p,.int .i64 room,.int .i64 (-1),.bool false]] [Sl.fact aI C m y (((os.take k).foldl ie none).getD ⟨[],-1,0⟩).cs,Sl.fact dx B n bc (fs.map Fil.nm),Sl.fact ax A n p fs]) (fun i _=>n-(intOf i).toNat)
 case atStart=>exact⟨0,none,0,0,Nat.zero_le _,rfl,K⟩
 case round=>
  obtain⟨k,C,m,y,hk,rfl,K⟩:=hrel
  have g:=M.out k
  by_cases ab:k<n
  ·obtain⟨x,u⟩:∃ x,fs[k]?=some x:=⟨_,List.getElem?_eq_getElem (by have:=L.out;omega)⟩
   obtain⟨o,t⟩:∃ o,os[k]?=some o:=⟨_,List.getElem?_eq_getElem (by have:=L.out;have:=U.out;omega)⟩
   have D:=F k x o u t
   have I:=Lib.hid (Cz (f:=ie) (b:=none) t)
   generalize (os.take k).foldl ie none=r at K I g
   obtain⟨ad,rr,rfl,K,⟨rfl,-⟩⟩:=K.elem 1 rfl (j:=k) (x:=x.nm) (by rw[List.getElem?_map,u];rfl)
   have s0:=At.one (K.at' 0 rfl) rfl rfl
   have i1:(0:Int)≤(k:Int):=by omega
   have i2:(k:Int)<(n:Int):=by omega
   cases o with
   | none=>
     have H:=Lib.hid (Gm x.nm D)
     clear u t
     go_wp2_with fail
     refine(H.out _).mono ?_
     rintro e w3 ⟨rfl,rfl⟩
     go_wp2
     go_roundw
     case rel=>exact⟨k+1,C,m,y,by omega,by go_num,by rw[I.out];exact K.ft⟩
     case measure=>simp[intOf];omega
   | some s=>
     obtain⟨O,x2,Z,x4⟩:=D
     have ae:=O.2.1
     have ac:=O.2.2.1
     have H:=Lib.hid (EN s.q.toNat (by omega))
     rw[←Z,show((s.q.toNat:Nat):Int)=s.q from by omega]at H
     have J:=Lib.hid (sJ l.2.2.2.2.1 u)
     have HX:=Lib.hid u
     have R:=Lib.hid x4
     clear u t Z x4
     go_wp2_with fail
     refine(H.out _).mono ?_
     rintro e w3 ⟨rfl,rfl⟩
     have c0:=K.r 0 rfl
     by_cases E:s.q≤(r.getD ⟨[],-1,0⟩).q
     ·go_wp2
      go_roundw
      case rel=>exact⟨k+1,C,m,y,by omega,by go_num,by rw[I.out];unfold ie;simp only[E,if_true];exact K.ft⟩
      case measure=>simp[intOf];omega
     ·have E9:Hid (ie r (some s)=some s):=Lib.hid (by unfold ie;simp only;rw[if_neg E])
      go_upto_region 11 with(fail)
      clear c0
      go_wp2_with (first | refine K.ld 2 rfl ?_)
      refine(oT ⟨fs,room⟩ x k A n p _ _ K.xok (K.sl 3 rfl) l HX.out J.out).mono ?_
      rw[R.out]
      rintro e w4 ⟨B4,c4,rfl,d,h⟩
      have K:=(K.on h).ksl d
      clear h d
      go_wp2_with fail
      refine(wm s O B4 _ c4 _ _ K.xok (K.sl 0 rfl)).mono ?_
      rintro e w5 ⟨C5,k5,P,rfl,d,h⟩
      have K:=(K.on h).ksl d
      clear h d
      go_upto_region 14 with(refine K.lw fun W K=>?_;refine K.sr 0 rfl fun W K=>?_)
      have c0:=K.r 0 rfl
      go_upto_region 15 with(fail)
      clear c0
      go_wp2_with (first | refine K.ld 0 rfl ?_ | refine K.sr 1 rfl fun W K=>?_)
      go_roundw
      case rel=>
       refine⟨k+1,C5,k5,P,by omega,by go_num,?_⟩
       rw[I.out,E9.out]
       exact(K.tl.out.forget (List.Sublist.cons_cons _ (List.Sublist.cons _ (List.Sublist.cons _ (List.Sublist.cons _ (List.Sublist.refl _)))))).hh
      case measure=>simp[intOf];omega
  ·obtain rfl:k=n:=by omega
   have e1:os.take k=os:=List.take_of_length_le (by have:=L.out;have:=U.out;omega)
   rw[e1]at K g
   obtain⟨r,Q⟩:∃ r,os.foldl ie none=r:=⟨_,rfl⟩
   rw[Q]at K g
   have T:=Lib.hid Q
   clear Q
   have c0:=K.r 0 rfl
   cases r with
   | none=>
     go_wp2_with (refine K.lw fun W K=>?_;refine K.sr 1 rfl fun W K=>?_)
     refine K.rc2 1 rfl rfl ?_
     unfold nZ
     rw[T.out]
     exact⟨none,0,0,rfl,Sl.nil_,K.below⟩
   | some s=>
     have hq:=(g s rfl).2.1
     have i5:¬ s.q<0:=by omega
     simp only[Option.getD_some]at K c0
     go_upto_region 19 with(fail)
     clear c0
     go_wp2_with (first | refine K.ld 0 rfl ?_ | refine K.sr 1 rfl fun W K=>?_)
     refine K.rc2 1 rfl rfl ?_
     unfold nZ
     rw[T.out]
     exact⟨C,m,y,rfl,K.slb 0 rfl,K.below⟩
end
section
open Go.RowKit
section
variable {w0 W:World} {M X:List Nat} {L L':List Itm} {F:List Fact} {P:Program}
theorem HH.sw {o:Oper} {a:Act} {K':Act→World→Prop} {Q:Exit→Act→World→Prop} {g k:Nat} {t ty:TypeId} {old cells new:Array Value} {x y:Operand} (K:HH w0 M X W L F) (i:Nat) (c:L[i]?=some (.box g t old))
 (kk:∀ U,HH w0 M X U L' F→K' (a.put o.dst undef) U) (d:o.op = .store ty x y:=by rfl)
 (hx:a.eval x = .pointer (some ⟨g,k,none⟩):=by rfl) (hy:a.eval y = .agg cells:=by rfl) (hT:((P.info? ty).map (·.size) == some cells.size)=true:=by kernel_rfl) (hz:decide (k+cells.size≤old.size)=true:=by rfl) (h1:cells.toList.all (·.oneCell')=true:=by rfl)
 (hn:Bo old k cells.toList=new:=by rfl) (hL:L.set i (.box g t new)=L':=by(first | (simp only[ai,aj];done) | (simp only[ai,aj];exact rfl))):Oper.wp P o a W K' Q:=by
 have b:=aq.box_sets cells.toList k W old L K.out i c
 rw[hn,hL]at b
 have e:=of_decide_eq_true hz
 refine wp_store_mid ty x y d g k cells hx hy (fun j f=>⟨?_,K.out.frozen i c _⟩) (beq_iff_eq.1 hT) (by rw[←Array.all_toList];exact h1) (kk _ b)
 rw[K.r i c,Array.getElem?_eq_getElem (by omega)];rfl
end
def eY (ps:List Prt):List ByteArray:=ps.map (fun p=>az p.s.num.toNat)
structure cR (fs:List Fil) (room:Int) (ps:List Prt) (os:List ByteArray) (k0 t:St):Prop where
 dk:cj ⟨fs,room⟩
 nm:∀ f ∈ fs,uF f.nm
 sn:∃ sl:List (Option St),sl.length=fs.length∧(∀ (i:Nat) f o,fs[i]?=some f→sl[i]?=some o→vR f o)∧(sl.foldl ie none).getD ⟨[],0,0⟩=k0
 len:∀ f ∈ fs,f.all.length≤10000
 rows:∃ qs rs,cU fs=(qs,rs)∧((ps=qs∧os=rs ∧ ∀ p,qs.getLast?=some p→k0.q≤p.s.c.q)∨(ps = []∧os=eY qs++rs ∧ ∃ p,qs.getLast?=some p∧p.s.c.q<k0.q))
 rep:jh k0.q ps k0=some t
 first:∀ p,ps[0]?=some p→p.s.bq≤k0.q
 last:∀ p,ps.getLast?=some p→p.s.c.a=t.a
 ok:bD k0
theorem cR.len64 {fs:List Fil} {room:Int} {ps:List Prt} {os:List ByteArray} {k0 t:St} (h:cR fs room ps os k0 t):ps.length≤64:=by
 obtain⟨e,rs,b,c⟩:=h.rows
 have a:=(jo fs h.nm).1
 have d:=h.dk.1
 rw[b]at a
 simp only at a d
 rcases c with⟨rfl,-⟩ | ⟨rfl,-⟩
 ·omega
 ·simp
set_option maxHeartbeats 8000000 in
theorem wJ (fs:List Fil) (room:Int) (ps:List Prt) (os:List ByteArray) (k0 t:St) (h:cR fs room ps os k0 t) (A:Option Addr) (n N:Nat) (X:List Nat) (w:World) (hX:XOk X w) (hs:Sl ax w X A n N fs) (hp:aV w):
 Calls Tryz.prog 28 #[.agg #[.slice A n N,.int .i64 room,.int .i64 (-1),.bool false]] w fun e w' => ∃ B I bc O on z C k J,e = .returned (.agg #[.slice B I bc,.slice O on z,.int .i64 k0.q,.slice C k J,.int .i64 t.q,.int .i64 t.a,.bool true]) ∧
  Sl dP w' X B I bc ps∧Sl dx w' X O on z os∧Sl aI w' X C k J t.cs∧I≤64∧Below w.heap.size w w':=by
 obtain⟨l1,l2,⟨sl,s1,s2,s3⟩,l4,⟨qs,rs,l5,l9⟩,l6,l7,l8,R⟩:=h
 have Z:=(jo fs l2).1
 have y:=(jo fs l2).2
 rw[l5]at Z y
 simp only at Z y
 have aw:qs.length≤fs.length:=by omega
 have ao:=l1.1
 simp only at ao
 have S:=Lib.hid s3
 have Y:=Lib.hid l9
 clear s3 l9
 go_enter Tryz.func28,Tryz.ntmps28
 go_upto_region 2 with(fail)
 refine(hstart hX).cw fun W K=>?_
 have K:=K.ksl0 hs
 clear hs
 have c2:=K.r 2 rfl
 go_wp2_with fail
 refine(FY fs room A n N _ _ K.xok (K.sl 0 rfl) l1 l2 l4 (hp.on K.below)).mono ?_
 rw[l5]
 rintro e w1 ⟨B,I,bc,O,on,z,rfl,j,L,g⟩
 have K:=((K.on g).ksl L).ksl j
 have o:=Lib.hid j.len
 have ap:I≤64:=by have:=o.out;simp only at this;omega
 clear g c2 j L
 have c0:=K.c 0 rfl
 go_upto_region 3 with(fail)
 refine K.cw fun W K=>?_
 clear c0
 have c2:=K.r 2 rfl
 go_wp2_with fail
 refine(CN fs sl room A n N _ _ K.xok (K.sl 2 rfl) l1 s1 s2).mono ?_
 unfold nZ
 rw[S.out]
 rintro e w2 ⟨C0,m0,ab,rfl,f,g⟩
 have K:=(K.on g).ksl f
 clear g c2 f s2
 generalize sl.foldl ie none=r at S ⊢
 rcases r with _ | s
 case' none=>
  have ag:Hid (k0=⟨[],0,0⟩):=Lib.hid S.out.symm
  go_upto_region 6 with(refine K.lw fun W K=>?_;refine K.sr 0 rfl fun W K=>?_)
  obtain⟨u,F,d,K⟩:∃ u F d,HH w [] X W [.box (w.heap.size+2) 77 #[.slice B I bc,.slice O on z,.int .i64 k0.q,.slice u F d,.int .i64 k0.q,.int .i64 k0.a,.bool false],.box (w.heap.size+1) 77 #[.slice none 0 0,.slice none 0 0,.int .i64 0,.slice none 0 0,.int .i64 0,.int .i64 0,.bool false],.box w.heap.size 30 #[.slice A n N,.int .i64 room,.int .i64 (-1),.bool false]] [Sl.fact aI u F d k0.cs,Sl.fact dP B I bc qs,Sl.fact dx O on z rs,Sl.fact ax A n N fs]:=⟨none,0,0,by rw[ag.out]at K ⊢;exact K.tl.ft.ksl Sl.nil_⟩
 case' some=>
  go_upto_region 5 with(refine K.lw fun W K=>?_;refine K.sr 0 rfl fun W K=>?_)
  have D:=fun {a b:Itm} {l:List Itm}=>List.Sublist.cons_cons a (List.Sublist.cons b (List.Sublist.refl l))
  refine K.rgl 6 6 (fun V h=>h.drop D) fun W K=>?_
  refine tK 0 (K.drop D) ?_
  refine tL 1 (fun _ h=>h.r 0 rfl) (K.drop D) ?_
  refine tL 2 (fun _ h=>h.at_ 0 rfl) (K.drop D) ?_ (hy:=fun w hw=>aM hw)
  refine tK 3 (K.drop D) ?_
  have H:=K.c 1 rfl
  refine tC 4 fun K' hK=>?_
  go_simp
  have K:=K.to (W':=W.setCell ⟨w.heap.size+2,2,none⟩ (.int .i64 k0.q))
  refine hK.out _ _ (K.drop D) fun _=>?_
  clear hK K' H
  try simp only[Act.put,an,ai,aj]
  refine tK 5 (K.drop D) ?_
  refine tZ fun K' hK=>?_
  refine K.sw (new:=#[.slice B I bc,.slice O on z,.int .i64 k0.q,.slice C0 m0 ab,.int .i64 k0.q,.int .i64 k0.a,.bool false]) 1 rfl fun W K=>?_
  refine hK.out _ _ ?_
  clear hK K'
  try simp only[Act.put,an,ai,aj]
  go_upto_region 6 with(fail)
  obtain⟨u,F,d,K⟩:∃ u F d,HH w [] X W [.box (w.heap.size+2) 77 #[.slice B I bc,.slice O on z,.int .i64 k0.q,.slice u F d,.int .i64 k0.q,.int .i64 k0.a,.bool false],.box (w.heap.size+1) 77 #[.slice none 0 0,.slice none 0 0,.int .i64 0,.slice none 0 0,.int .i64 0,.int .i64 0,.bool false],.box w.heap.size 30 #[.slice A n N,.int .i64 room,.int .i64 (-1),.bool false]] [Sl.fact aI u F d k0.cs,Sl.fact dP B I bc qs,Sl.fact dx O on z rs,Sl.fact ax A n N fs]:=⟨C0,m0,ab,K.tl⟩
 all_goals
  have H:=K.r 0 rfl
  go_upto_region 7 with(fail)
  clear H
  cases I with
  | zero=>
    obtain rfl:qs = []:=List.eq_nil_of_length_eq_zero o.out.symm
    obtain⟨rfl,rfl⟩:ps = []∧os=rs:=by
     rcases Y.out with⟨j,L,-⟩ | ⟨-,-,p,j,-⟩
     ·exact⟨j,L⟩
     ·cases j
    refine K.rg fun W K=>?_
    refine tK 0 K ?_
    refine tK 1 K ?_
    refine tK 2 K ?_
    refine tN 3 K ?_
    refine tN 4 K ?_
    refine tN 5 K ?_
    refine tN 6 K ?_
    refine tN 7 K ?_
    refine tN 8 K ?_
    refine tN 9 K ?_
    refine tN 10 K ?_
    refine tN 11 K ?_
    refine tN 12 K ?_
    refine tN 13 K ?_
    refine tN 14 K ?_
    refine tK 15 K ?_
    refine tE ?_
    have c0:=K.r 0 rfl
    go_wp2_with (first | refine bF (K.sub 0 rfl 3 [.slice u F d,.int .i64 k0.q,.int .i64 k0.a]) ?_)
    refine(pG [] k0 t B 0 bc u F d _ _ K.xok (K.sl 1 rfl) (K.sl 0 rfl) R l6 l7 l8 (by omega)).mono ?_
    rintro e w3 ⟨C,k,J,rfl,f,g⟩
    have K:=(K.on g).ksl f
    clear c0 g f
    go_upto_region 16 with(refine K.ss (new:=#[.slice B 0 bc,.slice O on z,.int .i64 k0.q,.slice C k J,.int .i64 t.q,.int .i64 t.a,.bool false]) 0 rfl fun W K=>?_;have H:=K.c 0 rfl)
    refine K.cw fun W K=>?_
    go_wp2_with (first | refine K.ld 0 rfl ?_ | refine K.sr 1 rfl fun W K=>?_)
    exact K.rc1 1 rfl rfl ⟨B,0,bc,O,on,z,C,k,J,rfl,K.slb 2 rfl,K.slb 3 rfl,K.slb 0 rfl,by omega,K.below⟩
  | succ m=>
    obtain⟨pl,Q⟩:∃ x,qs[m]?=some x:=⟨_,List.getElem?_eq_getElem (by have:=o.out;omega)⟩
    have ac:Hid (qs.getLast?=some pl):=Lib.hid (by rw[List.getLast?_eq_getElem?,←o.out];exact Q)
    obtain⟨ad,r,rfl,K,⟨E,en,ec,An,nn,cn,rfl,-⟩⟩:=K.elem 1 rfl Q
    have i3:(0:Int)≤(m:Int):=by omega
    have i4:(m:Int)<(m:Int)+1:=by omega
    have i5:=IntWalk.i64_in (m:Int) (by omega)
    clear Q
    by_cases ba:pl.s.c.q<k0.q
    all_goals
     refine K.rg fun W K=>?_
     refine tK 0 K ?_
     refine tK 1 K ?_
     refine tK 2 K ?_
     refine tK 3 K ?_
     refine tL 4 (fun _ h=>h.r 0 rfl) K ?_
     refine tK 5 K ?_
     refine tK 6 K ?_
     refine tK 7 K ?_
     refine tK 8 K ?_
     refine tK 9 K ?_
     refine tK 10 K ?_
     refine tL 11 (T:=fun W=>W.cell? ⟨(ad.add (m*11)).block,(ad.add (m*11)).off+5,none⟩=some (.int .i64 pl.s.c.q)) (fun _ h=>h.at' 0 rfl 5 _ rfl) K ?_
     refine tK 12 K ?_
     refine tL 13 (fun _ h=>h.r 0 rfl) K ?_
     refine tK 14 K ?_
     refine tK 15 K ?_
     refine tE ?_
    ·obtain⟨rfl,am⟩:ps = []∧Hid (os=eY qs++rs):=by
      rcases Y.out with⟨-,-,h3⟩ | ⟨j,L,-⟩
      ·have:=h3 _ ac.out;omega
      ·exact⟨j,Lib.hid L⟩
     have K:=K.nrow (e:=9) (size:=1) (n:=0) (v := .slice none 0 0) (xs:=[]) (Below.refl _ _) ⟨rfl,.inl ⟨rfl,rfl⟩⟩
     have H:=K.r 1 rfl
     go_upto_region 10 with(fail)
     clear H
     generalize w.heap.size=g0 at K ⊢
     go_loopw [51,7] (fun i v wr => ∃ (k:Nat),k≤m+1∧i = .int .i64 k∧HH w [] X wr [.row 9 1 v k ((eY (qs.take k)).map Value.string),.box (g0+2) 77 #[.slice (some ad) (m+1) bc,.slice O on z,.int .i64 k0.q,.slice u F d,.int .i64 k0.q,.int .i64 k0.a,.bool false],.box (g0+1) 77 #[.slice none 0 0,.slice none 0 0,.int .i64 0,.slice none 0 0,.int .i64 0,.int .i64 0,.bool false]] [Sl.fact aI u F d k0.cs,Sl.fact dP (some ad) (m+1) bc qs,Sl.fact dx O on z rs]) (fun i _ _=>m+1-(intOf i).toNat)
     case atStart=>exact⟨0,Nat.zero_le _,rfl,((K.drop (List.Sublist.cons_cons _ (List.Sublist.cons_cons _ (List.Sublist.cons_cons _ (List.nil_sublist _))))).out.forget (List.Sublist.cons _ (List.Sublist.cons_cons _ (List.Sublist.cons_cons _ (List.Sublist.cons_cons _ (List.nil_sublist _)))))).hh⟩
     case round=>
      obtain⟨k,hk,rfl,K⟩:=hrel
      by_cases ar:k<m+1
      ·obtain⟨x,hx⟩:∃ x,qs[k]?=some x:=⟨_,List.getElem?_eq_getElem (by have:=o.out;omega)⟩
       have bi:=y x (List.mem_of_getElem? hx)
       obtain⟨xn,M⟩:∃ xn:Nat,x.s.num=(xn:Int):=⟨x.s.num.toNat,by omega⟩
       obtain⟨bb,r2,P,K,⟨E2,bj,bk,bd,be,bm,rfl,-⟩⟩:=K.elem 1 rfl hx
       injection P with P
       subst P
       have HT:Hid (eY (qs.take (k+1))=eY (qs.take k) ++ [az xn]):=Lib.hid (by unfold eY;rw[iw hx,List.map_append];simp[M])
       have j1:(0:Int)≤(k:Int):=by omega
       have j2:(k:Int)<(m:Int)+1:=by omega
       clear hx
       go_upto_region 12 with(first | (refine bF (K.at' 0 rfl) ?_) | (refine K.lw fun W K=>?_;refine K.sr 0 rfl fun W K=>?_))
       have c0:W.cell? ⟨wr.heap.size,0,none⟩=some (.int .i64 (xn:Int)):=by rw[←M];exact K.r 0 rfl 0
       go_wp2_with fail
       refine(dS xn (by omega) (by omega) _ (hp.on K.below)).mono ?_
       rintro e w4 ⟨rfl,g⟩
       have K:=K.on g
       clear c0 g
       go_wp2_with (at_builtin;refine K.lw fun W K=>?_;refine K.ap1 16 1 rfl (by omega) fun v' U K=>?_)
       go_roundw
       case rel=>
        refine⟨k+1,by omega,by go_num,?_⟩
        rw[HT.out,List.map_append]
        exact K.tl.ft
       case measure=>simp[intOf];omega
      ·obtain rfl:k=m+1:=by omega
       have e1:qs.take (m+1)=qs:=List.take_of_length_le (by have:=o.out;omega)
       rw[e1]at K
       have K:=K.kra (vm (eY qs) (fun s hs=>by
        obtain⟨p,al,rfl⟩:=List.mem_map.1 hs
        have:=y p al
        rw[(fN (by omega)).1]
        unfold maxLen
        omega))
       have ah:m+1+on≤100000:=by have j:=(K.sl 3 rfl).len;have L:=o.out;omega
       have H:=K.c 1 rfl
       go_wp2_with (at_builtin;refine K.apS (sh:=dx) 16 0 rfl (K.sl 3 rfl) ah fun v' vs' U K=>?_;obtain⟨G,gc,rfl,-⟩:=aK (K.row 0 rfl);have H:=K.c 1 rfl)
       refine K.cl fun W K=>?_
       clear H
       have ae:=(K.ra 1 rfl).append (K.ra 0 rfl)
       obtain⟨G2,bl,P,K2⟩:=K.don (s:=dx) ae (by decide)
       injection P with P e3 e4
       subst P e4
       have K:=K2
       clear K2 ae e3
       refine(pG [] k0 t none 0 0 u F d _ _ K.xok Sl.nil_ (K.sl 3 rfl) R l6 l7 l8 (by omega)).mono ?_
       rintro e w3 ⟨C,k,J,rfl,f,g⟩
       have K:=(K.on g).ksl f
       clear g f
       go_upto_region 16 with(refine K.ss (new:=#[.slice none 0 0,.slice G (m+1+on) gc,.int .i64 k0.q,.slice C k J,.int .i64 t.q,.int .i64 t.a,.bool false]) 0 rfl fun W K=>?_;have H:=K.c 0 rfl)
       refine K.cw fun W K=>?_
       go_wp2_with (first | refine K.ld 0 rfl ?_ | refine K.sr 1 rfl fun W K=>?_)
       refine K.rc1 1 rfl rfl ⟨none,0,0,G,m+1+on,gc,C,k,J,rfl,Sl.nil_,?_,K.slb 0 rfl,by omega,K.below⟩
       rw[am.out]
       exact K.slb 1 rfl
    ·obtain⟨rfl,rfl⟩:ps=qs∧os=rs:=by
      rcases Y.out with⟨j,L,-⟩ | ⟨-,-,p,j,L⟩
      ·exact⟨j,L⟩
      ·rw[ac.out]at j;injection j with j;subst j;omega
     have c0:=K.r 0 rfl
     go_wp2_with (first | refine bF (K.sub 0 rfl 3 [.slice u F d,.int .i64 k0.q,.int .i64 k0.a]) ?_)
     refine(pG ps k0 t (some ad) (m+1) bc u F d _ _ K.xok (K.sl 2 rfl) (K.sl 1 rfl) R l6 l7 l8 (by omega)).mono ?_
     rintro e w3 ⟨C,k,J,rfl,f,g⟩
     have K:=(K.on g).ksl f
     clear c0 g f
     go_upto_region 16 with(refine K.ss (new:=#[.slice (some ad) (m+1) bc,.slice O on z,.int .i64 k0.q,.slice C k J,.int .i64 t.q,.int .i64 t.a,.bool false]) 0 rfl fun W K=>?_;have H:=K.c 0 rfl)
     refine K.cw fun W K=>?_
     go_wp2_with (first | refine K.ld 0 rfl ?_ | refine K.sr 1 rfl fun W K=>?_)
     exact K.rc1 1 rfl rfl ⟨some ad,m+1,bc,O,on,z,C,k,J,rfl,K.slb 3 rfl,K.slb 4 rfl,K.slb 0 rfl,by omega,K.below⟩
end
section
open Go.RowKit
theorem uI {s:St} (h:bD s):∀ c ∈ s.cs,c.cells.length≤1000:=fun c b=>by
 rcases(h.2.2.2.2.2.1 c b).2.2 with a | a | a
 ·have:=cI a.2.2.2.1;omega
 ·rw[a.2.2.2.2.1];simp
 ·rw[a.2.2.2.2.2.1];simp
set_option maxHeartbeats 3000000 in
theorem pL (fs:List Fil) (room:Int) (ps:List Prt) (k0 t:St) (h:cR fs room ps [] k0 t) (R:∀ p ∈ ps,(p.al:Int)≤p.s.size) (b d:Int) (Y:dH b d=true) (A:Option Addr) (n g:Nat) (S:Option Addr) (m v:Nat) (N:Option Addr) (nn o:Nat) (C:Option Addr) (k u:Nat) (M:Int) (Q:k0.q≤M∧M≤t.q) (sh:Bool) (G:bD t)
 (X:List Nat) (w:World) (hX:XOk X w) (y:Sl ax w X A n g fs) (l:Sl bw w X S m v (ps.map aD)) (I:Sl af w X N nn o (aa ps).ns) (Z:nn≤1000) (j:Sl aI w X C k u t.cs) (hp:aV w):
 Calls Tryz.prog 67 #[.agg (jnA A n g room b d S m v (aa ps).q (aa ps).a N nn o C k u t.q t.a M k0.q sh).toArray] w fun e w'=>e = .returned (.bool true)∧Below w.heap.size w w':=by
 have T:=h.dk
 have ab:=Lib.hid (show m=ps.length by have:=l.len;simpa using this)
 have D:k≤12:=by have:=j.len;have:=G.1;omega
 obtain⟨u1,u2⟩:=Q
 simp only[jnA]
 go_enter Tryz.func67,Tryz.ntmps67
 go_upto_region 1 with(fail)
 refine(hstart hX).cw fun W K=>?_
 have K:=(((K.ksl0 j).ksl0 I).ksl0 l).ksl0 y
 clear j I l y
 have c0:=K.r 0 rfl
 go_wp2_with (first | refine bF (K.sub 0 rfl 4 [.int .i64 b,.int .i64 d]) ?_)
 refine(rI b d _).mono ?_
 rw[Y]
 rintro e w1 ⟨rfl,c⟩
 have K:=K.on c
 clear c c0
 have c0:=K.r 0 rfl
 go_wp2_with (first | refine bF (K.sub 0 rfl 0 [.slice A n g,.int .i64 room,.int .i64 (-1),.bool false]) ?_)
 refine(eZ ⟨fs,room⟩ A n g _ _ K.xok (K.sl 0 rfl) T).mono ?_
 rintro e w2 ⟨rfl,c⟩
 have K:=K.on c
 clear c c0
 have c0:=K.r 0 rfl
 go_upto_region 3 with(fail)
 clear c0
 go_wp2_with (first | refine bF (K.sub 0 rfl 0 [.slice A n g,.int .i64 room,.int .i64 (-1),.bool false]) ?_)
 refine(wJ fs room ps [] k0 t h A n g _ _ K.xok (K.sl 0 rfl) (hp.on K.below)).mono ?_
 rintro e w3 ⟨B,bn,bc,O,on,oc,J,L,f,rfl,h1,h2,h3,z,c⟩
 have K:=(((K.on c).ksl h3).ksl h1)
 obtain rfl:on=0:=h2.len
 clear c h1 h2 h3
 go_upto_region 4 with(refine K.lw fun W K=>?_;refine K.sr 0 rfl fun W K=>?_)
 have c0:=K.r 0 rfl
 go_upto_region 6 with(fail)
 clear c0
 have F:=Lib.hid (K.sl 0 rfl).len
 have c0:=K.r 0 rfl
 generalize U:w3.heap.size=gf at K c0 ⊢
 clear U
 go_wp2
 go_loopw [36] (fun i wr => ∃ (a:Nat),a≤bn∧i = .int .i64 a∧HH w [] X wr [.box gf 77 #[.slice B bn bc,.slice O 0 oc,.int .i64 k0.q,.slice J L f,.int .i64 t.q,.int .i64 t.a,.bool true],.box w.heap.size 39 (jnA A n g room b d S m v (aa ps).q (aa ps).a N nn o C k u t.q t.a M k0.q sh).toArray] [Sl.fact dP B bn bc ps,Sl.fact aI J L f t.cs,Sl.fact ax A n g fs,Sl.fact bw S m v (ps.map aD),Sl.fact af N nn o (aa ps).ns,Sl.fact aI C k u t.cs]) (fun i _=>bn-(intOf i).toNat)
 case atStart=>exact⟨0,Nat.zero_le _,rfl,K⟩
 case round=>
  obtain⟨a,ha,rfl,K⟩:=hrel
  by_cases ae:a<bn
  ·obtain⟨x,P⟩:∃ x,ps[a]?=some x:=⟨_,List.getElem?_eq_getElem (by have:=F.out;omega)⟩
   have ah:¬ x.s.size<(x.al:Int):=by have:=R x (List.mem_of_getElem? P);omega
   obtain⟨ad,r,rfl,V,ac,⟨E,en,ec,An,ag,ao,rfl,-⟩,H⟩:=(K.sl 0 rfl).at' P
   have i1:(0:Int)≤(a:Int):=by omega
   have i2:(a:Int)<(bn:Int):=by omega
   clear P V ac
   go_upto_region 9 with(first | (refine bF H ?_) | (refine K.lw fun W K=>?_;refine K.sr 0 rfl fun W K=>?_))
   clear H
   have c0:=K.r 0 rfl
   go_wp2
   go_roundw
   case rel=>exact⟨a+1,by omega,by go_num,K.tl⟩
   case measure=>simp[intOf];omega
  ·obtain rfl:a=bn:=by omega
   go_upto_region 12 with(fail)
   refine K.rg fun W K=>?_
   refine tK 0 K ?_
   refine tL 1 (fun _ h=>h.r 1 rfl) K ?_
   refine tK 2 K ?_
   refine tL 3 (fun _ h=>h.r 0 rfl) K ?_
   refine tC 4 fun K' hK=>?_
   go_simp
   refine(Aq ps B a bc _ _ K.xok (K.sl 0 rfl) z).mono ?_
   rintro e w4 ⟨B4,c4,rfl,h4,c⟩
   have K:=(K.on c).ksl h4
   refine hK.out _ _ K.ft fun _=>?_
   clear hK K' c h4
   try simp only[Act.put,an,ai,aj]
   refine tC 5 fun K' hK=>?_
   go_simp
   refine(Bc (ps.map aD) S m v B4 a c4 _ _ K.xok (K.sl 4 rfl) (K.sl 0 rfl) (by have:=ab.out;have:=F.out;omega)).mono ?_
   rintro e w5 ⟨rfl,c⟩
   have K:=(K.on c).ft
   refine hK.out _ _ K fun _=>?_
   clear hK K' c
   try simp only[Act.put,an,ai,aj]
   refine tK 6 K ?_
   refine tK 7 K ?_
   refine tK 8 K ?_
   refine tL 9 (fun _ h=>h.sub 1 rfl 7 [.int .i64 (aa ps).q,.int .i64 (aa ps).a,.slice N nn o]) K ?_ (hy:=fun w hw=>aM hw)
   refine tK 10 K ?_
   refine tL 11 (fun _ h=>h.r 0 rfl) K ?_
   refine tC 12 fun K' hK=>?_
   go_simp
   refine(yl ps B a bc _ _ K.xok (K.sl 0 rfl) z).mono ?_
   rintro e w6 ⟨B6,m6,c6,rfl,h6,am,c⟩
   have K:=(K.on c).ksl h6
   refine hK.out _ _ K.ft fun _=>?_
   clear hK K' c h6
   try simp only[Act.put,an,ai,aj]
   refine tC 13 fun K' hK=>?_
   go_simp
   refine(zJ (aa ps).q (aa ps).a (aa ps).ns N nn o B6 m6 c6 _ _ K.xok (K.sl 5 rfl) (K.sl 0 rfl) Z).mono ?_
   rintro e w7 ⟨rfl,c⟩
   have K:=(K.on c).ft
   refine hK.out _ _ K fun _=>?_
   clear hK K' c
   try simp only[Act.put,an,ai,aj]
   refine tK 14 K ?_
   refine tK 15 K ?_
   refine tE ?_
   go_upto_region 14 with(fail)
   go_wp2_with (first | refine bF (K.sub 1 rfl 10 [.slice C k u,.int .i64 t.q,.int .i64 t.a]) ?_ | refine bF (K.sub 0 rfl 3 [.slice J L f,.int .i64 t.q,.int .i64 t.a]) ?_)
   refine(xI t C k u J L f _ _ K.xok (K.sl 5 rfl) (K.sl 1 rfl) D (uI G)).mono ?_
   rintro e w8 ⟨rfl,c⟩
   have K:=K.on c
   clear c
   have c0:=K.r 0 rfl
   have c1:=K.r 1 rfl
   go_wp2
   go_ret
   exact⟨by simp,K.below⟩
end
section
open Go.RowKit
set_option maxHeartbeats 2000000 in
theorem eT (fs:List Fil) (room:Int) (ps:List Prt) (k0 t:St) (h:cR fs room ps [] k0 t) (D:∀ p ∈ ps,(p.al:Int)≤p.s.size) (b i:Int) (E:dH b i=true) (A:Option Addr) (n j:Nat) (S:Option Addr) (m o:Nat) (N:Option Addr) (nn u:Nat) (C:Option Addr) (k x:Nat) (v:Int) (y:k0.q≤v∧v≤t.q) (sh:Bool) (B:bD t)
 (X:List Nat) (w:World) (hX:XOk X w) (f:Sl ax w X A n j fs) (d:Sl bw w X S m o (ps.map aD)) (g:Sl af w X N nn u (aa ps).ns) (G:nn≤1000) (c:Sl aI w X C k x t.cs) (z:aV w):
 Calls Tryz.prog 37 #[.agg (jnA A n j room b i S m o (aa ps).q (aa ps).a N nn u C k x t.q t.a v k0.q sh).toArray] w fun e w'=>e = .returned (.int .i64 0)∧Below w.heap.size w w':=by
 have H:=fun(w:World) (X:List Nat) (hX:XOk X w) (f:Sl ax w X A n j fs) (d:Sl bw w X S m o (ps.map aD)) (g:Sl af w X N nn u (aa ps).ns) (c:Sl aI w X C k x t.cs) (z:aV w)=>Lib.hid (pL fs room ps k0 t h D b i E A n j S m o N nn u C k x v y sh B X w hX f d g G c z)
 have F:=h.dk
 simp only[jnA]at H ⊢
 go_enter Tryz.func37,Tryz.ntmps37
 go_upto_region 1 with(fail)
 refine(hstart hX).cw fun W K=>?_
 have K:=(((K.ksl0 c).ksl0 g).ksl0 d).ksl0 f
 clear c g d f
 have c0:=K.r 0 rfl
 go_wp2_with (first | refine bF (K.sub 0 rfl 0 [.slice A n j,.int .i64 room,.int .i64 (-1),.bool false]) ?_)
 refine(eZ ⟨fs,room⟩ A n j _ _ K.xok (K.sl 0 rfl) F).mono ?_
 rintro e I ⟨rfl,l⟩
 have K:=K.on l
 clear l c0
 have c0:=K.r 0 rfl
 go_upto_region 3 with(fail)
 clear c0
 go_wp2_with (first | refine K.ld 0 rfl ?_)
 refine(H _ _ K.xok (K.sl 0 rfl) (K.sl 1 rfl) (K.sl 2 rfl) (K.sl 3 rfl) (z.on K.below)).out.mono ?_
 rintro e J ⟨rfl,l⟩
 have K:=K.on l
 go_wp2
 go_ret
 exact⟨rfl,K.below⟩
end
section
open Go.RowKit
theorem yQ:(Tryz.prog.info? 67).map (fun i=>(i.zero,i.size,i.bytes))=some (some (.agg #[.int .i64 0,.int .i64 0,.int .i64 0,.int .i64 0,.int .i64 0,.int .i64 0,.bool false]),7,56):=by kernel_rfl
theorem gM {xs:List _} (A:Option Addr) (n c:Nat) (X:List Nat) (w:World) (hX:XOk X w) (d:Sl bw w X A n c xs) (D:n≤100000):
 Calls Tryz.prog 39 #[.slice A n c] w fun e w' => ∃ v vs,e = .returned v∧aC bw w X vs xs∧w'.ownsRow w.heap.size 67 7 v n vs∧Below w.heap.size w w':=by
 have q:∀ (w:World) (a:Option Addr) (n c n' c':Nat),(binOp .eql 31 (.slice a n c) (.slice none n' c')).run Tryz.prog w = .ok (.bool a.isNone) w:=fun w a n c n' c'=>Lib.run_eql_slice_nil w _ _ a n c n' c' Tryz.underlying31
 obtain⟨y,l,m,g,h⟩:=info_parts yQ
 obtain⟨vs,f,-,r⟩:=d.reads
 have hnil:=d.none_
 have x:=d.le
 have i:=Lib.hid r
 clear d r
 rcases A with _ | ad
 ·have j:n=0:=by have:=hnil rfl;omega
  subst j
  have o:vs = []:=List.eq_nil_of_length_eq_zero (by simpa using f.1)
  have s:=Lib.hid o
  clear f hnil o
  go_enter Tryz.func39,Tryz.ntmps39
  go_wp2
  go_ret
  exact⟨_,vs,rfl,i.out,⟨by rw[s.out];rfl,.inl ⟨rfl,rfl⟩⟩,Below.refl _ _⟩
 ·have z:=Lib.hid f;clear f
  have t:=Lib.hid (aC.one_ i.out)
  go_enter Tryz.func39,Tryz.ntmps39
  go_wp2_with (at_builtin;go_must (refine bf _ rfl _ _ 31 rfl w.heap.size 67 y _ 7 56 Tryz.underlying31 l m g h rfl (by omega) _ 0 [] rfl (cY w 67 w.heap.size (Nat.le_refl _) 7) w.heap.size (some ad) n c _ rfl (z.out.alloc (Nat.le_refl _) _) t.out (by unfold maxLen;omega) (by omega) (by simp) ?_);intro B C b k p)
  go_ret
  have u:=cX ((Below.refl w.heap.size w).alloc (Nat.le_refl _) _) k (cY w 67 w.heap.size (Nat.le_refl _) 7) (Nat.le_refl _) (by simp)
  exact⟨B,vs,rfl,i.out,by simpa using b,u⟩
end
section
open Go.RowKit
theorem wP (g cap:Nat) (B:Option Addr) (w:World) (a:w.cell? ⟨g,6,none⟩=some (.slice B 0 cap)):
 Calls Tryz.prog 43 #[.pointer (some ⟨g,0,none⟩)] w fun e w'=>e = .returned (.bool false)∧w=w':=by
 go_enter Tryz.func43,Tryz.ntmps43
 go_wp2
 go_ret
 exact⟨by simp,rfl⟩
theorem lA (g gs k cap:Nat) (sd:Bool) (w:World) (b:k≤100) (c:w.cell? ⟨g,6,none⟩=some (.slice (some ⟨gs,0,none⟩) (k+1) cap)) (a:w.cell? ⟨gs,k*7+6,none⟩=some (.bool sd)):
 Calls Tryz.prog 43 #[.pointer (some ⟨g,0,none⟩)] w fun e w'=>e = .returned (.bool (!sd))∧w=w':=by
 have d:(0:Int)≤(k:Int):=by omega
 have f:(0:Int)<(k:Int)+1:=by omega
 go_enter Tryz.func43,Tryz.ntmps43
 go_wp2
 go_ret
 exact⟨by simp,rfl⟩
end
end Go.Proofs.YtpokkciheejeiaaGreatDoor
