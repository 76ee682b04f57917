/- Lemmas and contracts that the proof of TopParse uses, part 10 of 20: each is a theorem for every input that its premises allow. -/
import Derived.Test.YtmpiinhnabmjcaaGreatDoorTqI
set_option linter.unusedVariables false
set_option linter.unusedSimpArgs false
set_option maxRecDepth 100000
namespace Go.Proofs.YtmpiinhnabmjcaaGreatDoor
section
open Go.RowKit
theorem Bh:(Tryz.f11.body.map flat).getD [] = [((((Tryz.f11.body.map flat).getD [])[0]?).getD .skip),((((Tryz.f11.body.map flat).getD [])[1]?).getD .skip),((((Tryz.f11.body.map flat).getD [])[2]?).getD .skip),((((Tryz.f11.body.map flat).getD [])[3]?).getD .skip),((((Tryz.f11.body.map flat).getD [])[4]?).getD .skip),((((Tryz.f11.body.map flat).getD [])[5]?).getD .skip),((((Tryz.f11.body.map flat).getD [])[6]?).getD .skip),((((Tryz.f11.body.map flat).getD [])[7]?).getD .skip)]:=by kernel_rfl
theorem Cd:Tryz.f11.body.isSome=true:=by kernel_rfl
theorem Bt (w:World) (hgl:ij (fun _ _=>none) w):Calls Tryz.prog 11 #[] w fun e w'=>e = .returned (.bool true)∧Below w.heap.size w w':=by
 obtain⟨c,hc⟩:=Option.isSome_iff_exists.1 Cd
 have hfl:=Bh
 have hE:=qu Tryz.prog aq aC
 have hC:=kz aN hE ki Dp 1000000 59
 rw[←kC]at hC
 have hg:bM (aJ Tryz.prog aq aC) 11 c=true:=ki 11 Tryz.f11 c (by kernel_rfl) hc
 refine calls_of_wp Tryz.func11 hc ?_
 have hn:Tryz.f11.ntmps=70:=by kernel_rfl
 refine vb c _ _ ?_
 have hf2:flat c = [((((Tryz.f11.body.map flat).getD [])[0]?).getD .skip),((((Tryz.f11.body.map flat).getD [])[1]?).getD .skip),((((Tryz.f11.body.map flat).getD [])[2]?).getD .skip),((((Tryz.f11.body.map flat).getD [])[3]?).getD .skip),((((Tryz.f11.body.map flat).getD [])[4]?).getD .skip),((((Tryz.f11.body.map flat).getD [])[5]?).getD .skip),((((Tryz.f11.body.map flat).getD [])[6]?).getD .skip),((((Tryz.f11.body.map flat).getD [])[7]?).getD .skip)]:=by
  rw[←hfl,hc];rfl
 have hgs:∀ k ∈ flat c,bM (aJ Tryz.prog aq aC) 11 k=true:=fY c hg
 rw[hf2]at hgs ⊢
 have h0:At w 70 ⟨[],0,[]⟩ { tmps:=(#[]:Array Value)++Array.replicate (Tryz.f11.ntmps-(#[]:Array Value).size) undef,defers:=[] } w:=At.start w hgl 70 _ rfl (by simp[hn])
 refine At.step aN hE hC h0 (hgs _ (by simp)) La (fun a1 w1 h1=>?_)
 refine At.step aN hE hC h1 (hgs _ (by simp)) Kc (fun a2 w2 h2=>?_)
 refine At.step aN hE hC h2 (hgs _ (by simp)) Lf (fun a3 w3 h3=>?_)
 refine At.step aN hE hC h3 (hgs _ (by simp)) KO (fun a4 w4 h4=>?_)
 refine At.step aN hE hC h4 (hgs _ (by simp)) JJ (fun a5 w5 h5=>?_)
 refine At.step aN hE hC h5 (hgs _ (by simp)) KI (fun a6 w6 h6=>?_)
 refine At.step aN hE hC h6 (hgs _ (by simp)) KM (fun a7 w7 h7=>?_)
 refine At.step aN hE hC h7 (hgs _ (by simp)) JU (fun a8 w8 h8=>?_)
 obtain⟨ρ,k1,k2,k3,k4⟩:=h8.ex
 have hv:=k1.get 0 (.bool true) (by kernel_rfl)
 refine⟨k1.defers,.bool true,?_,rfl,k3.below⟩
 have hres:Tryz.f11.results=#[.tmp 0]:=by kernel_rfl
 have he:∃ v,a8.tmps.getD 0 undef=v∧VR ρ (.bool true) v:=⟨_,rfl,hv⟩
 obtain⟨v,e1,e2⟩:=he
 cases e2
 rw[Array.getD_eq_getD_getElem?]at e1
 simp[results,hres,e1]
end
section
def qv (args:List ah) (H:af):Option ah:=match args with
 | []=>some (.bool true)
 | _=>none
theorem rK:Told Tryz.prog 11 qv:=by
 refine⟨⟨_,Tryz.func11,by kernel_rfl,by kernel_rfl⟩,fun args H r h ρ w vs hr hv=>?_⟩
 unfold qv at h
 split at h
 ·injection h with h
  subst h
  cases hv
  refine(Bt w hr.gl.none).mono ?_
  rintro e w' ⟨rfl,hb⟩
  exact⟨_,rfl,.bool _,hb⟩
 ·cases h
def kG (f:FuncId):Option aA:=if f=78 then some (uZ (cP 78 AB) mR) else if f=37 then some (cP 37 vm) else if f=38 then some (cP 38 IN) else if f=305 then some (cP 305 uE) else if f=301 then some (cP 301 uu) else if f=328 then some (cP 328 uX) else if f=10 then some (cP 10 ET) else if f=34 then some (cP 34 DE) else if f=6 then some (cP 6 zi) else if f=5 then some (cP 5 za) else if f=11 then some (cP 11 qv) else none
theorem xD:∀ f g,kG f=some g→aU Tryz.prog g:=by
 intro f g h
 unfold kG at h
 split at h
 ·injection h with h;subst h;exact BA qj.ok xp
 split at h
 ·injection h with h;subst h;exact oy.ok
 split at h
 ·injection h with h;subst h;exact sW.ok
 split at h
 ·injection h with h;subst h;exact oq.ok
 split at h
 ·injection h with h;subst h;exact oL.ok
 split at h
 ·injection h with h;subst h;exact oP.ok
 split at h
 ·injection h with h;subst h;exact zu.ok
 split at h
 ·injection h with h;subst h;exact zO.ok
 split at h
 ·injection h with h;subst h;exact ym.ok
 split at h
 ·injection h with h;subst h;exact xj.ok
 split at h
 ·injection h with h;subst h;exact rK.ok
 cases h
end
section
def AH:List ah:=[iV 5000,.agg [iV 64,iV 2],.slc 1 0 0 5 5 16 true]
abbrev yr16:bH:=⟨35,[iV 5,iV 4,iV 0,.str [],.nils],0,0⟩
abbrev yr17:bH:=⟨57,[iV 1,iV 0,iV 3,iV 1,.str [98],iV 1,iV 0,iV 0,iV 0,iV 0,iV 0,.str [],.nils,iV 0,.str [],.nils,iV 2,iV 0,iV 0,iV 0,.str [],iV 0,iV 0,iV 0,iV 0,iV 0,iV 0,.str [],.nils,iV 0,.str [],.nils,iV 1,iV 0,iV 9,iV 4,.str [98],iV 1,iV 0,iV 0,iV 0,iV 0,iV 0,.str [],.nils,iV 0,.str [],.nils,iV 6,iV 0,iV 0,iV 0,.str [],iV 0,iV 0,iV 0,iV 5,iV 4,iV 0,.str [],.nils,iV 1,.str [],.nils,iV 9,iV 0,iV 0,iV 0,.str [],iV 0,iV 0,iV 0,iV 0,iV 0,iV 0,.str [],.nils,iV 0,.str [],.nils],0,0⟩
def lD:bB:=⟨[],
 2,
 [(0,yr16),
  (1,yr17)]⟩
def CM:bB:=⟨yT 0 AH,lD.next,lD.rows⟩
abbrev yr18:bH:=⟨49,[.nils,iV 0,iV 0,.bool false,iV 0,iV 0,.nils,iV 0,iV 0,.nils,.nils,iV 0,iV 0,iV 0,iV 0,.bool false],0,0⟩
def Ev:bB:=⟨[(2,.slc 1 0 0 5 5 16 true),
 (6,.ptr 3 0 0 16),
 (7,.nils),
 (8,iV 0),
 (9,.ptr 33 0 0 16),
 (11,.nils),
 (29,.slc 1 0 0 5 5 16 true),
 (30,iV 5),
 (31,iV 0)],
 34,
 [(0,yr16),
  (1,yr17),
  (3,yr18),
  (33,⟨49,[.nils,iV 5000,iV (-1),.bool false,iV 64,iV 2,.nils,iV 0,iV 0,.nils,.nils,iV 0,iV 0,iV 0,iV 0,.bool false],0,0⟩)]⟩
abbrev yr19:bH:=⟨66,[iV 1,iV 0,.nils,.str [],iV 0,.str []],0,0⟩
abbrev yr20:bH:=⟨111,[.str [98],iV 1,iV 0,iV 10,iV 0,.slc 93 0 0 4 4 2 true,iV 0,iV 0,iV 0,iV 0,iV 0,iV 0,iV 0,iV 0,iV 0,iV 0,iV 0,iV 0,iV 0,iV 0,iV 0],0,0⟩
def Cx:bB:=⟨[(2,.slc 1 0 0 5 5 16 true),
 (6,.ptr 3 0 0 16),
 (7,.nils),
 (8,iV 0),
 (9,.ptr 33 0 0 16),
 (11,.nils),
 (14,.ptr 35 0 0 6),
 (29,.slc 1 0 0 5 5 16 true),
 (30,iV 5),
 (31,iV 0)],
 262,
 [(0,yr16),
  (1,yr17),
  (3,yr18),
  (33,⟨49,[.slc 255 0 0 1 1 3 false,iV 5000,iV (-1),.bool false,iV 64,iV 2,.slc 128 0 0 1 1 7 false,iV 1,iV 3,.slc 150 0 0 1 1 1 false,.slc 96 0 0 1 1 21 false,iV 1,iV 3,iV 0,iV 0,.bool false],0,0⟩),
  (35,yr19),
  (93,yr0),
  (96,yr20),
  (128,yr1),
  (150,⟨9,[.str [98]],0,0⟩),
  (255,⟨243,[.str yb3,.slc 258 0 0 0 0 1 true,.slc 258 0 0 28 28 1 true],0,0⟩),
  (258,yr2)]⟩
def DO:bB:=⟨[(2,.slc 1 0 0 5 5 16 true),
 (6,.ptr 3 0 0 16),
 (7,.nils),
 (8,iV 0),
 (9,.ptr 33 0 0 16),
 (11,.slc 263 0 0 1 1 6 false),
 (14,.ptr 265 0 0 6),
 (29,.slc 1 0 0 5 5 16 true),
 (30,iV 5),
 (31,iV 1)],
 594,
 [(0,yr16),
  (1,yr17),
  (3,yr18),
  (33,⟨49,[.slc 587 0 0 1 1 3 false,iV 5000,iV (-1),.bool false,iV 64,iV 2,.slc 128 0 0 1 1 7 false,iV 1,iV 3,.slc 150 0 0 1 1 1 false,.slc 96 0 0 1 1 21 false,iV 1,iV 3,iV 1,iV 0,.bool false],0,0⟩),
  (93,yr0),
  (96,yr20),
  (128,yr1),
  (150,⟨9,[.str [98]],0,0⟩),
  (263,yr19),
  (265,⟨66,[iV 2,iV 0,.nils,.str [],iV 0,.str []],0,0⟩),
  (587,⟨243,[.str yb3,.slc 590 0 0 28 28 1 true,.slc 590 0 0 0 0 1 true],0,0⟩),
  (590,yr2)]⟩
abbrev yr21:bH:=⟨49,[.slc 1269 0 0 2 2 3 false,iV 5000,iV (-1),.bool false,iV 64,iV 2,.slc 970 1 0 2 2 7 false,iV 2,iV 9,.slc 1090 0 0 1 1 1 false,.slc 941 0 0 1 1 21 false,iV 2,iV 9,iV 1,iV 0,.bool false],0,0⟩
abbrev yr22:bH:=⟨111,[.str [98],iV 1,iV 1,iV 10,iV 0,.slc 93 0 0 4 4 2 true,iV 0,iV 0,iV 0,iV 0,iV 0,iV 0,iV 0,iV 0,iV 0,iV 0,iV 0,iV 0,iV 0,iV 0,iV 0],0,0⟩
abbrev yr23:bH:=⟨243,[.str yb3,.slc 1180 0 0 38 38 1 true,.slc 1180 0 0 0 0 1 true,.str yb9,.slc 1272 0 0 0 0 1 true,.slc 1272 0 0 28 28 1 true],0,0⟩
def Cs:bB:=⟨[(2,.slc 1 0 0 5 5 16 true),
 (6,.ptr 3 0 0 16),
 (7,.nils),
 (8,iV 0),
 (9,.ptr 33 0 0 16),
 (11,.slc 263 1 0 2 2 6 false),
 (14,.ptr 596 0 0 6),
 (29,.slc 1 0 0 5 5 16 true),
 (30,iV 5),
 (31,iV 2)],
 1276,
 [(0,yr16),
  (1,yr17),
  (3,yr18),
  (33,yr21),
  (93,yr0),
  (263,⟨66,[iV 1,iV 0,.nils,.str [],iV 0,.str [],iV 2,iV 0,.nils,.str [],iV 0,.str []],1,0⟩),
  (596,yr19),
  (941,yr22),
  (970,yr6),
  (1090,⟨9,[.str [98]],0,0⟩),
  (1180,yr7),
  (1269,yr23),
  (1272,yr10)]⟩
abbrev yr24:bH:=⟨54,[iV 2,iV 9,iV 4,.str [98],iV 1,iV 0,iV 0],0,0⟩
abbrev yb25:List UInt8:=[48,50,102,99,102,55,56,49,102,97]
def Ed:bB:=⟨[(2,.slc 1 0 0 5 5 16 true),
 (6,.ptr 3 0 0 16),
 (7,.nils),
 (8,iV 0),
 (9,.ptr 33 0 0 16),
 (11,.slc 263 2 0 3 3 6 false),
 (14,.ptr 1278 0 0 6),
 (29,.slc 1 0 0 5 5 16 true),
 (30,iV 5),
 (31,iV 3)],
 2223,
 [(0,yr16),
  (1,yr17),
  (3,yr18),
  (33,yr21),
  (93,yr0),
  (263,⟨66,[iV 1,iV 0,.nils,.str [],iV 0,.str [],iV 2,iV 0,.nils,.str [],iV 0,.str [],iV 1,iV 0,.nils,.str [],iV 0,.str []],2,0⟩),
  (941,yr22),
  (970,yr6),
  (1090,⟨9,[.str [98]],0,0⟩),
  (1180,yr7),
  (1269,yr23),
  (1272,yr10),
  (1278,⟨66,[iV 6,iV 0,.slc 2222 0 0 1 1 7 false,.str yb25,iV 2,.str []],0,0⟩),
  (2222,yr24)]⟩
abbrev yr26:bH:=⟨49,[.slc 2622 0 0 1 2 3 false,iV 5000,iV (-1),.bool false,iV 64,iV 2,.slc 2625 0 0 1 1 7 false,iV 0,iV 0,.nils,.slc 2594 0 0 1 1 21 false,iV 1,iV 3,iV 1,iV 0,.bool false],0,0⟩
abbrev yr27:bH:=⟨111,[.str [98],iV 1,iV 0,iV 10,iV 0,.slc 2591 0 0 4 4 2 true,iV 0,iV 0,iV 0,iV 0,iV 0,iV 0,iV 0,iV 0,iV 0,iV 0,iV 0,iV 0,iV 0,iV 0,iV 0],0,0⟩
abbrev yr28:bH:=⟨243,[.str yb3,.slc 2246 0 0 38 38 1 true,.slc 2246 0 0 0 0 1 true,.str [],.nils,.nils],0,0⟩
abbrev yr29:bH:=⟨186,[iV 1,iV 0,iV 1,iV 0,iV 3,iV 38,.bool true],0,0⟩
def CY:bB:=⟨[(2,.slc 1 0 0 5 5 16 true),
 (6,.ptr 3 0 0 16),
 (7,.nils),
 (8,iV 0),
 (9,.ptr 33 0 0 16),
 (11,.slc 263 3 0 4 4 6 false),
 (14,.ptr 2225 0 0 6),
 (29,.slc 1 0 0 5 5 16 true),
 (30,iV 5),
 (31,iV 4)],
 2627,
 [(0,yr16),
  (1,yr17),
  (3,yr18),
  (33,yr26),
  (263,⟨66,[iV 1,iV 0,.nils,.str [],iV 0,.str [],iV 2,iV 0,.nils,.str [],iV 0,.str [],iV 1,iV 0,.nils,.str [],iV 0,.str [],iV 6,iV 0,.slc 2222 0 0 1 1 7 false,.str yb25,iV 2,.str []],3,0⟩),
  (2222,yr24),
  (2225,⟨66,[iV 9,iV 0,.nils,.str [],iV 0,.str []],0,0⟩),
  (2246,yr7),
  (2591,yr0),
  (2594,yr27),
  (2622,yr28),
  (2625,yr29)]⟩
abbrev yr30:bH:=⟨66,[iV 1,iV 0,.nils,.str [],iV 0,.str [],iV 2,iV 0,.nils,.str [],iV 0,.str [],iV 1,iV 0,.nils,.str [],iV 0,.str [],iV 6,iV 0,.slc 2222 0 0 1 1 7 false,.str yb25,iV 2,.str [],iV 9,iV 0,.nils,.str [],iV 0,.str []],4,0⟩
def xO:bB:=⟨[(6,.ptr 3 0 0 16),
 (7,.slc 263 4 0 5 5 6 false),
 (8,iV 0)],
 2628,
 [(0,yr16),
  (1,yr17),
  (3,yr26),
  (263,yr30),
  (2222,yr24),
  (2246,yr7),
  (2591,yr0),
  (2594,yr27),
  (2622,yr28),
  (2625,yr29)]⟩
def Mx:bB:=⟨[],xO.next,xO.rows⟩
def iT:iw:=⟨8,AH,lD,.tup [.agg [.slc 2622 0 0 1 2 3 false,iV 5000,iV (-1),.bool false,iV 64,iV 2,.slc 2625 0 0 1 1 7 false,iV 0,iV 0,.nils,.slc 2594 0 0 1 1 21 false,iV 1,iV 3,iV 1,iV 0,.bool false],.slc 263 4 0 5 5 6 false,iV 0],Mx⟩
noncomputable def dW:Code:=(Tryz.f8.body).getD .skip
end
end Go.Proofs.YtmpiinhnabmjcaaGreatDoor
