/- Lemmas and contracts that the proof of TopParse uses, part 5 of 20: each is a theorem for every input that its premises allow. -/
import Derived.Deep.RegionHeld3
import Derived.Deep.DeepCutAuto
import Derived.JoinedOf
import Derived.RowKit
import Derived.RowKitTokens
import Derived.LaidLaws
import Derived.LaidHandle
import Derived.LaidSub
import Derived.MakeChecks
import Derived.Lib.LaidTab
import Derived.Test.YtmpiinhnabmjcaaGreatDoorRows
import Derived.Deep.Slices
import Derived.Deep.Fields
import Derived.ChangeSame
import Derived.ChangeArms
import Derived.WalkLawsBesides
import Derived.WalkSpells
import Derived.Outline
import Derived.Laws.FloatArith
import Derived.Laws.ComplexArith
import Derived.Laws.Externs
import Derived.Deep.DeepMust
import Derived.Laws.EntriesVeiled
import Derived.WideLaws
import Derived.StillTailTactics
import Derived.Test.YtmpiinhnabmjcaaGreatDoorTqD
set_option linter.unusedVariables false
set_option linter.unusedSimpArgs false
set_option maxRecDepth 100000
namespace Go.Proofs.YtmpiinhnabmjcaaGreatDoor
section
open Go.RowKit
set_option maxHeartbeats 8000000 in
theorem zv (A Al:Option Addr) (n c nl cl:Nat) (X:List Nat) (nm hp:List UInt8) (ty:Nat) (ss:List aF) (x:aF) (w:World) (hs:Sl ak w X A n c ss) (hl:Sl aj w X Al nl cl x.labs) (hX:XOk X w) (hnm:nm.length≤64) (hF:jt nm ty ss x) (h3:ty≠3):
 Calls Tryz.prog 63 #[.agg #[.string (sB nm),.string (sB hp),.int .i64 (ty:Int),.slice A n c],.agg #[.string (sB x.name),.slice Al nl cl,.int .i64 x.val]] w fun e w'=>e = .returned (.bool true)∧Below w.heap.size w w':=by
 have hns:=hs.len
 have HNl:=Lib.hid hl.len
 have hn4:n<400:=by rw[hns];exact hF.few
 have hnc:n≤c:=hs.le
 have hcc:c≤9223372036854775807:=by have h3:=hs.max;simp only[maxLen]at h3;omega
 have hnl8:nl≤8:=by rw[hl.len];exact(eZ hF.labs).1
 have hnlc:nl≤cl:=hl.le
 have hclm:cl≤9223372036854775807:=by have h3:=hl.max;simp only[maxLen]at h3;omega
 have HLb:=Lib.hid hF.labs
 obtain⟨p1,p2⟩:=hF.plain h3
 have x1:(x.name == nm)=true:=by rw[beq_iff_eq];exact p1
 have HP2:=Lib.hid p2
 clear p1 p2
 have b4:((ty:Int) == 3)=false:=by rw[beq_eq_false_iff_ne];omega
 have b5:((ty:Int) != 3)=true:=by rw[bne_iff_ne];omega
 have b6:decide ((ty:Int)=3)=false:=by simp;omega
 have HNs:=Lib.hid hns
 clear hns
 have HK1:Hid (ai w [] X ((w.alloc (.cells #[.string (sB nm),.string (sB hp),.int .i64 (ty:Int),.slice A n c] 85)).alloc (.cells #[.string (sB x.name),.slice Al nl cl,.int .i64 x.val] 73)) [.box (w.heap.size+1) 73 #[.string (sB x.name),.slice Al nl cl,.int .i64 x.val],.box (w.heap.size) 85 #[.string (sB nm),.string (sB hp),.int .i64 (ty:Int),.slice A n c]] [Sl.fact aj Al nl cl x.labs,Sl.fact ak A n c ss]):=(((((ai.start w hX).alloc_at 85 #[.string (sB nm),.string (sB hp),.int .i64 (ty:Int),.slice A n c] (w.heap.size) (by simp)).alloc_at 73 #[.string (sB x.name),.slice Al nl cl,.int .i64 x.val] (w.heap.size+1) (by simp)).know0 (Sl.fact ak A n c ss) hs).know0 (Sl.fact aj Al nl cl x.labs) hl)
 clear hs hl hX hF
 go_enter Tryz.func63,Tryz.ntmps63
 have c_f_0_2:((w.alloc (.cells #[.string (sB nm),.string (sB hp),.int .i64 (ty:Int),.slice A n c] 85)).alloc (.cells #[.string (sB x.name),.slice Al nl cl,.int .i64 x.val] 73)).cell? ⟨w.heap.size,0,none⟩=some (.string (sB nm)):=HK1.out.cell 1 rfl 0
 have c_f_1_3:((w.alloc (.cells #[.string (sB nm),.string (sB hp),.int .i64 (ty:Int),.slice A n c] 85)).alloc (.cells #[.string (sB x.name),.slice Al nl cl,.int .i64 x.val] 73)).cell? ⟨w.heap.size,1,none⟩=some (.string (sB hp)):=HK1.out.cell 1 rfl 1
 have c_f_2_4:((w.alloc (.cells #[.string (sB nm),.string (sB hp),.int .i64 (ty:Int),.slice A n c] 85)).alloc (.cells #[.string (sB x.name),.slice Al nl cl,.int .i64 x.val] 73)).cell? ⟨w.heap.size,2,none⟩=some (.int .i64 (ty:Int)):=HK1.out.cell 1 rfl 2
 have c_f_3_5:((w.alloc (.cells #[.string (sB nm),.string (sB hp),.int .i64 (ty:Int),.slice A n c] 85)).alloc (.cells #[.string (sB x.name),.slice Al nl cl,.int .i64 x.val] 73)).cell? ⟨w.heap.size,3,none⟩=some (.slice A n c):=HK1.out.cell 1 rfl 3
 have c_x_0_6:((w.alloc (.cells #[.string (sB nm),.string (sB hp),.int .i64 (ty:Int),.slice A n c] 85)).alloc (.cells #[.string (sB x.name),.slice Al nl cl,.int .i64 x.val] 73)).cell? ⟨w.heap.size+1,0,none⟩=some (.string (sB x.name)):=HK1.out.cell 0 rfl 0
 have c_x_1_7:((w.alloc (.cells #[.string (sB nm),.string (sB hp),.int .i64 (ty:Int),.slice A n c] 85)).alloc (.cells #[.string (sB x.name),.slice Al nl cl,.int .i64 x.val] 73)).cell? ⟨w.heap.size+1,1,none⟩=some (.slice Al nl cl):=HK1.out.cell 0 rfl 1
 have c_x_2_8:((w.alloc (.cells #[.string (sB nm),.string (sB hp),.int .i64 (ty:Int),.slice A n c] 85)).alloc (.cells #[.string (sB x.name),.slice Al nl cl,.int .i64 x.val] 73)).cell? ⟨w.heap.size+1,2,none⟩=some (.int .i64 x.val):=HK1.out.cell 0 rfl 2
 go_wp2_with fail
 clear c_f_0_2 c_f_1_3 c_f_2_4 c_f_3_5 c_x_0_6 c_x_1_7 c_x_2_8
 generalize (w.alloc (.cells #[.string (sB nm),.string (sB hp),.int .i64 (ty:Int),.slice A n c] 85)).alloc (.cells #[.string (sB x.name),.slice Al nl cl,.int .i64 x.val] 73)=w1 at HK1 ⊢
 generalize w.heap.size=gf at HK1 ⊢
 generalize gf+1=gx at HK1 ⊢
 refine(eG Al nl cl _ x.labs _ ((HK1.out.sl 0 rfl)) HLb.out (HK1.out.xok')).mono ?_
 rintro e w2 ⟨rfl,hb2⟩
 have HK9:Hid (ai w [] X w2 [.box (gx) 73 #[.string (sB x.name),.slice Al nl cl,.int .i64 x.val],.box (gf) 85 #[.string (sB nm),.string (sB hp),.int .i64 (ty:Int),.slice A n c]] [Sl.fact aj Al nl cl x.labs,Sl.fact ak A n c ss]):=(HK1.out.on hb2)
 clear HK1
 clear hb2
 have e4:decide ((400:Int)≤(n:Int))=false:=by simp;omega
 have c_f_0_10:w2.cell? ⟨gf,0,none⟩=some (.string (sB nm)):=HK9.out.cell 1 rfl 0
 have c_f_1_11:w2.cell? ⟨gf,1,none⟩=some (.string (sB hp)):=HK9.out.cell 1 rfl 1
 have c_f_2_12:w2.cell? ⟨gf,2,none⟩=some (.int .i64 (ty:Int)):=HK9.out.cell 1 rfl 2
 have c_f_3_13:w2.cell? ⟨gf,3,none⟩=some (.slice A n c):=HK9.out.cell 1 rfl 3
 have c_x_0_14:w2.cell? ⟨gx,0,none⟩=some (.string (sB x.name)):=HK9.out.cell 0 rfl 0
 have c_x_1_15:w2.cell? ⟨gx,1,none⟩=some (.slice Al nl cl):=HK9.out.cell 0 rfl 1
 have c_x_2_16:w2.cell? ⟨gx,2,none⟩=some (.int .i64 x.val):=HK9.out.cell 0 rfl 2
 go_wp2_with fail
 refine(Jr Al nl cl _ x.labs _ ((HK9.out.sl 0 rfl))).mono ?_
 rw[HP2.out]
 rintro e W ⟨rfl,rfl⟩
 go_wp2
 go_ret
 exact⟨rfl,HK9.out.below⟩
set_option maxHeartbeats 8000000 in
theorem uG (A Al:Option Addr) (n c nl cl:Nat) (X:List Nat) (nm hp:List UInt8) (ss:List aF) (x:aF) (w:World) (hs:Sl ak w X A n c ss) (hl:Sl aj w X Al nl cl x.labs) (hX:XOk X w) (hnm:nm.length≤64) (hF:jt nm 3 ss x) (hk:ss.length%11=0):
 Calls Tryz.prog 63 #[.agg #[.string (sB nm),.string (sB hp),.int .i64 3,.slice A n c],.agg #[.string (sB x.name),.slice Al nl cl,.int .i64 x.val]] w fun e w'=>e = .returned (.bool true)∧Below w.heap.size w w':=by
 have hns:=hs.len
 have HNl:=Lib.hid hl.len
 have hn4:n<400:=by rw[hns];exact hF.few
 have hnc:n≤c:=hs.le
 have hcc:c≤9223372036854775807:=by have h3:=hs.max;simp only[maxLen]at h3;omega
 have hnl8:nl≤8:=by rw[hl.len];exact(eZ hF.labs).1
 have hnlc:nl≤cl:=hl.le
 have hclm:cl≤9223372036854775807:=by have h3:=hl.max;simp only[maxLen]at h3;omega
 have HLb:=Lib.hid hF.labs
 have hm:=hk
 rw[←hns]at hm
 obtain⟨p1,p2⟩:=hF.first rfl (by omega)
 rw[hk]at p2
 have b3:Int.tmod (n:Int) 11=0:=by rw[Int.tmod_eq_emod_of_nonneg (by omega)];omega
 have b5:IntKind.i64.wrap (Int.tmod (n:Int) 11)=0:=by rw[b3,IntWalk.i64_in _ (by omega)]
 have hnl7:¬ 9223372036854775807<nm.length+7:=by omega
 have ap7:(sB nm++⟨#[95,98,117,99,107,101,116]⟩).toList=nm++aI:=by rw[show(⟨#[95,98,117,99,107,101,116]⟩:ByteArray)=sB aI from rfl,cU,ByteArray.toList_eq]
 have x1:(x.name == nm++aI)=true:=by rw[beq_iff_eq];exact p1
 have x2:(x.name != nm++aI)=false:=by rw[bne_eq_false_iff_eq];exact p1
 obtain⟨m,hmm⟩:∃ m,nl=m+1:=⟨nl-1,by have h1:=HNl.out;cases hq:x.labs with | nil=>rw[hq]at p2;simp at p2 | cons a l=>rw[hq]at h1;simp at h1;omega⟩
 have HY:=Lib.hid (show x.labs[m]?=some ⟨leN,bnd 0⟩ from by rw[←mV HNl.out hmm];exact p2)
 have hwm:IntKind.i64.wrap ((nl:Int)-1)=(m:Int):=by rw[IntWalk.i64_in _ (by omega)];omega
 have b7:((nl:Int) == 0)=false:=by rw[beq_eq_false_iff_ne];omega
 have i3:(0:Int)≤(m:Int):=by omega
 have i4:(m:Int)<(nl:Int):=by omega
 have hml:m<nl:=by omega
 obtain⟨p3,p4⟩:=hF.zero rfl hk
 have HP3:=Lib.hid p3
 have b8:decide ((0:Int)≤x.val)=true:=by simp;omega
 clear p3 p4
 have HMM:=Lib.hid hmm
 clear hm hk p1 p2 hmm
 have HNs:=Lib.hid hns
 clear hns
 have HK1:Hid (ai w [] X ((w.alloc (.cells #[.string (sB nm),.string (sB hp),.int .i64 3,.slice A n c] 85)).alloc (.cells #[.string (sB x.name),.slice Al nl cl,.int .i64 x.val] 73)) [.box (w.heap.size+1) 73 #[.string (sB x.name),.slice Al nl cl,.int .i64 x.val],.box (w.heap.size) 85 #[.string (sB nm),.string (sB hp),.int .i64 3,.slice A n c]] [Sl.fact aj Al nl cl x.labs,Sl.fact ak A n c ss]):=(((((ai.start w hX).alloc_at 85 #[.string (sB nm),.string (sB hp),.int .i64 3,.slice A n c] (w.heap.size) (by simp)).alloc_at 73 #[.string (sB x.name),.slice Al nl cl,.int .i64 x.val] (w.heap.size+1) (by simp)).know0 (Sl.fact ak A n c ss) hs).know0 (Sl.fact aj Al nl cl x.labs) hl)
 clear hs hl hX hF
 go_enter Tryz.func63,Tryz.ntmps63
 have c_f_0_2:((w.alloc (.cells #[.string (sB nm),.string (sB hp),.int .i64 3,.slice A n c] 85)).alloc (.cells #[.string (sB x.name),.slice Al nl cl,.int .i64 x.val] 73)).cell? ⟨w.heap.size,0,none⟩=some (.string (sB nm)):=HK1.out.cell 1 rfl 0
 have c_f_1_3:((w.alloc (.cells #[.string (sB nm),.string (sB hp),.int .i64 3,.slice A n c] 85)).alloc (.cells #[.string (sB x.name),.slice Al nl cl,.int .i64 x.val] 73)).cell? ⟨w.heap.size,1,none⟩=some (.string (sB hp)):=HK1.out.cell 1 rfl 1
 have c_f_2_4:((w.alloc (.cells #[.string (sB nm),.string (sB hp),.int .i64 3,.slice A n c] 85)).alloc (.cells #[.string (sB x.name),.slice Al nl cl,.int .i64 x.val] 73)).cell? ⟨w.heap.size,2,none⟩=some (.int .i64 3):=HK1.out.cell 1 rfl 2
 have c_f_3_5:((w.alloc (.cells #[.string (sB nm),.string (sB hp),.int .i64 3,.slice A n c] 85)).alloc (.cells #[.string (sB x.name),.slice Al nl cl,.int .i64 x.val] 73)).cell? ⟨w.heap.size,3,none⟩=some (.slice A n c):=HK1.out.cell 1 rfl 3
 have c_x_0_6:((w.alloc (.cells #[.string (sB nm),.string (sB hp),.int .i64 3,.slice A n c] 85)).alloc (.cells #[.string (sB x.name),.slice Al nl cl,.int .i64 x.val] 73)).cell? ⟨w.heap.size+1,0,none⟩=some (.string (sB x.name)):=HK1.out.cell 0 rfl 0
 have c_x_1_7:((w.alloc (.cells #[.string (sB nm),.string (sB hp),.int .i64 3,.slice A n c] 85)).alloc (.cells #[.string (sB x.name),.slice Al nl cl,.int .i64 x.val] 73)).cell? ⟨w.heap.size+1,1,none⟩=some (.slice Al nl cl):=HK1.out.cell 0 rfl 1
 have c_x_2_8:((w.alloc (.cells #[.string (sB nm),.string (sB hp),.int .i64 3,.slice A n c] 85)).alloc (.cells #[.string (sB x.name),.slice Al nl cl,.int .i64 x.val] 73)).cell? ⟨w.heap.size+1,2,none⟩=some (.int .i64 x.val):=HK1.out.cell 0 rfl 2
 go_wp2_with fail
 clear c_f_0_2 c_f_1_3 c_f_2_4 c_f_3_5 c_x_0_6 c_x_1_7 c_x_2_8
 generalize (w.alloc (.cells #[.string (sB nm),.string (sB hp),.int .i64 3,.slice A n c] 85)).alloc (.cells #[.string (sB x.name),.slice Al nl cl,.int .i64 x.val] 73)=w1 at HK1 ⊢
 generalize w.heap.size=gf at HK1 ⊢
 generalize gf+1=gx at HK1 ⊢
 refine(eG Al nl cl _ x.labs _ ((HK1.out.sl 0 rfl)) HLb.out (HK1.out.xok')).mono ?_
 rintro e w2 ⟨rfl,hb2⟩
 have HK9:Hid (ai w [] X w2 [.box (gx) 73 #[.string (sB x.name),.slice Al nl cl,.int .i64 x.val],.box (gf) 85 #[.string (sB nm),.string (sB hp),.int .i64 3,.slice A n c]] [Sl.fact aj Al nl cl x.labs,Sl.fact ak A n c ss]):=(HK1.out.on hb2)
 clear HK1
 clear hb2
 have e4:decide ((400:Int)≤(n:Int))=false:=by simp;omega
 have c_f_0_10:w2.cell? ⟨gf,0,none⟩=some (.string (sB nm)):=HK9.out.cell 1 rfl 0
 have c_f_1_11:w2.cell? ⟨gf,1,none⟩=some (.string (sB hp)):=HK9.out.cell 1 rfl 1
 have c_f_2_12:w2.cell? ⟨gf,2,none⟩=some (.int .i64 3):=HK9.out.cell 1 rfl 2
 have c_f_3_13:w2.cell? ⟨gf,3,none⟩=some (.slice A n c):=HK9.out.cell 1 rfl 3
 have c_x_0_14:w2.cell? ⟨gx,0,none⟩=some (.string (sB x.name)):=HK9.out.cell 0 rfl 0
 have c_x_1_15:w2.cell? ⟨gx,1,none⟩=some (.slice Al nl cl):=HK9.out.cell 0 rfl 1
 have c_x_2_16:w2.cell? ⟨gx,2,none⟩=some (.int .i64 x.val):=HK9.out.cell 0 rfl 2
 go_wp2_with fail
 clear c_f_0_10 c_f_1_11 c_f_2_12 c_f_3_13 c_x_0_14 c_x_1_15 c_x_2_16
 obtain⟨ad2,y,hA,hy,-,-,-,-,-⟩:=bG ((HK9.out.sl 0 rfl)) hml
 subst hA
 clear hy y
 refine wp_region_noPanic ?_
 refine wp_region_held_drew (S:=fun W'=>ai w [] X W' [.box (gx) 73 #[.string (sB x.name),.slice (some ad2) nl cl,.int .i64 x.val],.box (gf) 85 #[.string (sB nm),.string (sB hp),.int .i64 3,.slice A n c]] [Sl.fact aj (some ad2) nl cl x.labs,Sl.fact ak A n c ss]) (by kernel_rfl) HK9.out.drew (fun hHeld=>?_)
 refine tS 0 hHeld ?_
 refine tS 1 hHeld ?_ (hy:=by(intro W hSW;(try dsimp only at hSW);have q0:W.cell? ⟨gx,0,none⟩=some (.string (sB x.name)):=hSW.cell 0 rfl 0;go_simp;try with_reducible rfl))
 refine tS 2 hHeld ?_
 refine tS 3 hHeld ?_ (hy:=by(intro W hSW;(try dsimp only at hSW);have q0:W.cell? ⟨gf,0,none⟩=some (.string (sB nm)):=hSW.cell 1 rfl 0;go_simp;try with_reducible rfl))
 refine tS 4 hHeld ?_
 refine tS 5 hHeld ?_
 refine tS 6 hHeld ?_
 refine tS 7 hHeld ?_
 refine tS 8 hHeld ?_
 refine tS 9 hHeld ?_
 refine tS 10 hHeld ?_
 refine tS 11 hHeld ?_
 refine tS 12 hHeld ?_ (hy:=by(intro W hSW;(try dsimp only at hSW);have q1:W.cell? ⟨gx,1,none⟩=some (.slice (some ad2) nl cl):=hSW.cell 0 rfl 1;go_simp;try with_reducible rfl))
 refine tS 13 hHeld ?_
 refine tS 14 hHeld ?_
 refine tS 15 hHeld ?_
 refine aa 16 (v:=(.agg #[.string ⟨#[108,101]⟩,.string (sB (bnd 0))])) rfl (by kernel_rfl) (by kernel_rfl) (by kernel_rfl) rfl (fun _ _ _ h=>h) (Or.inl ⟨by rfl,?y16u17⟩) hHeld ?r16u17
 case y16u17=>(intro W hSW;(try dsimp only at hSW);obtain⟨adz,z,hAz,hz,-,q0,q1,-,-⟩:=bG (hSW.sl 0 rfl) hml;injection hAz with hAz;subst hAz;obtain rfl:z=⟨leN,bnd 0⟩:=(by rw[HY.out]at hz;exact(Option.some.inj hz).symm);have q2:W.cell? (ad2.add (m*2))=some (.string ⟨#[108,101]⟩):=q0;clear q0;go_simp)
 simp only[Act.put,sI,sZ,sS]
 refine tS 17 hHeld ?_
 refine wpAnyH_ready (rs:=[18]) (by kernel_rfl) (by simp) ?_
 refine AllReadyH.cons rfl (fun K hK=>?_) AllReadyH.nil
 go_simp
 refine(Mg 0 (by omega) _).mono ?_
 rintro e W ⟨rfl,hbW⟩
 refine hK.out _ _ (hHeld.on hbW) (fun hHeld=>?_)
 clear hK K
 try simp only[Act.put,sI,sZ,sS]
 refine tS 19 hHeld ?_
 refine tS 20 hHeld ?_
 refine tS 21 hHeld ?_
 refine wpAnyH_done (by kernel_rfl) ?_ _
 refine NoPanic.normal ?_
 have HKd:=Lib.hid hHeld
 clear hHeld HK9
 have c_f_0_17:W.cell? ⟨gf,0,none⟩=some (.string (sB nm)):=HKd.out.cell 1 rfl 0
 have c_f_1_18:W.cell? ⟨gf,1,none⟩=some (.string (sB hp)):=HKd.out.cell 1 rfl 1
 have c_f_2_19:W.cell? ⟨gf,2,none⟩=some (.int .i64 3):=HKd.out.cell 1 rfl 2
 have c_f_3_20:W.cell? ⟨gf,3,none⟩=some (.slice A n c):=HKd.out.cell 1 rfl 3
 have c_x_0_21:W.cell? ⟨gx,0,none⟩=some (.string (sB x.name)):=HKd.out.cell 0 rfl 0
 have c_x_1_22:W.cell? ⟨gx,1,none⟩=some (.slice (some ad2) nl cl):=HKd.out.cell 0 rfl 1
 have c_x_2_23:W.cell? ⟨gx,2,none⟩=some (.int .i64 x.val):=HKd.out.cell 0 rfl 2
 go_wp2_with fail
 refine(Jr (some ad2) nl cl _ x.labs _ ((HKd.out.sl 0 rfl))).mono ?_
 rw[HP3.out]
 rintro e W ⟨rfl,rfl⟩
 go_wp2
 go_ret
 exact⟨rfl,HKd.out.below⟩
set_option maxHeartbeats 8000000 in
theorem vu (A Al:Option Addr) (n c nl cl:Nat) (X:List Nat) (nm hp:List UInt8) (ss:List aF) (x:aF) (w:World) (hs:Sl ak w X A n c ss) (hl:Sl aj w X Al nl cl x.labs) (hX:XOk X w) (hnm:nm.length≤64) (hF:jt nm 3 ss x) (kk:Nat) (hk:ss.length%11=kk) (hk0:kk≠0) (hk9:kk<9):
 Calls Tryz.prog 63 #[.agg #[.string (sB nm),.string (sB hp),.int .i64 3,.slice A n c],.agg #[.string (sB x.name),.slice Al nl cl,.int .i64 x.val]] w fun e w'=>e = .returned (.bool true)∧Below w.heap.size w w':=by
 have hns:=hs.len
 have HNl:=Lib.hid hl.len
 have hn4:n<400:=by rw[hns];exact hF.few
 have hnc:n≤c:=hs.le
 have hcc:c≤9223372036854775807:=by have h3:=hs.max;simp only[maxLen]at h3;omega
 have hnl8:nl≤8:=by rw[hl.len];exact(eZ hF.labs).1
 have hnlc:nl≤cl:=hl.le
 have hclm:cl≤9223372036854775807:=by have h3:=hl.max;simp only[maxLen]at h3;omega
 have HLb:=Lib.hid hF.labs
 have hm:=hk
 rw[←hns]at hm
 obtain⟨p1,p2⟩:=hF.first rfl (by omega)
 rw[hk]at p2
 have b3:Int.tmod (n:Int) 11=(kk:Int):=by rw[Int.tmod_eq_emod_of_nonneg (by omega)];omega
 have b5:IntKind.i64.wrap (Int.tmod (n:Int) 11)=(kk:Int):=by rw[b3,IntWalk.i64_in _ (by omega)]
 have hnl7:¬ 9223372036854775807<nm.length+7:=by omega
 have ap7:(sB nm++⟨#[95,98,117,99,107,101,116]⟩).toList=nm++aI:=by rw[show(⟨#[95,98,117,99,107,101,116]⟩:ByteArray)=sB aI from rfl,cU,ByteArray.toList_eq]
 have x1:(x.name == nm++aI)=true:=by rw[beq_iff_eq];exact p1
 have x2:(x.name != nm++aI)=false:=by rw[bne_eq_false_iff_eq];exact p1
 obtain⟨m,hmm⟩:∃ m,nl=m+1:=⟨nl-1,by have h1:=HNl.out;cases hq:x.labs with | nil=>rw[hq]at p2;simp at p2 | cons a l=>rw[hq]at h1;simp at h1;omega⟩
 have HY:=Lib.hid (show x.labs[m]?=some ⟨leN,bnd kk⟩ from by rw[←mV HNl.out hmm];exact p2)
 have hwm:IntKind.i64.wrap ((nl:Int)-1)=(m:Int):=by rw[IntWalk.i64_in _ (by omega)];omega
 have b7:((nl:Int) == 0)=false:=by rw[beq_eq_false_iff_ne];omega
 have i3:(0:Int)≤(m:Int):=by omega
 have i4:(m:Int)<(nl:Int):=by omega
 have hml:m<nl:=by omega
 obtain⟨y,p3,p4,p5,p6⟩:=hF.next rfl (by omega) (by omega)
 have HYs:=Lib.hid (show ss[n-1]?=some y from by rw[hns];exact p3)
 have HP4:=Lib.hid p4
 have HP5:=Lib.hid p5
 have b8:decide (y.val≤x.val)=true:=by simp;omega
 have b9:((kk:Int) == 0)=false:=by rw[beq_eq_false_iff_ne];omega
 have b10:decide ((kk:Int)<9)=true:=by simp;omega
 have b11:decide (kk<9)=true:=by simp;omega
 have hn0:1≤n:=by omega
 obtain⟨n1,hn1⟩:∃ n1,n1=n-1:=⟨_,rfl⟩
 rw[←hn1]at HYs
 have hwn:IntKind.i64.wrap ((n:Int)-1)=(n1:Int):=by rw[IntWalk.i64_in _ (by omega)];omega
 have hn1n:n1<n:=by omega
 have HN1:=Lib.hid hn1
 have j1:(0:Int)≤(n1:Int):=by omega
 have j2:(n1:Int)<(n:Int):=by omega
 clear p3 p4 p5 p6 hn1
 have HMM:=Lib.hid hmm
 clear hm hk p1 p2 hmm
 have HNs:=Lib.hid hns
 clear hns
 have HK1:Hid (ai w [] X ((w.alloc (.cells #[.string (sB nm),.string (sB hp),.int .i64 3,.slice A n c] 85)).alloc (.cells #[.string (sB x.name),.slice Al nl cl,.int .i64 x.val] 73)) [.box (w.heap.size+1) 73 #[.string (sB x.name),.slice Al nl cl,.int .i64 x.val],.box (w.heap.size) 85 #[.string (sB nm),.string (sB hp),.int .i64 3,.slice A n c]] [Sl.fact aj Al nl cl x.labs,Sl.fact ak A n c ss]):=(((((ai.start w hX).alloc_at 85 #[.string (sB nm),.string (sB hp),.int .i64 3,.slice A n c] (w.heap.size) (by simp)).alloc_at 73 #[.string (sB x.name),.slice Al nl cl,.int .i64 x.val] (w.heap.size+1) (by simp)).know0 (Sl.fact ak A n c ss) hs).know0 (Sl.fact aj Al nl cl x.labs) hl)
 clear hs hl hX hF
 go_enter Tryz.func63,Tryz.ntmps63
 have c_f_0_2:((w.alloc (.cells #[.string (sB nm),.string (sB hp),.int .i64 3,.slice A n c] 85)).alloc (.cells #[.string (sB x.name),.slice Al nl cl,.int .i64 x.val] 73)).cell? ⟨w.heap.size,0,none⟩=some (.string (sB nm)):=HK1.out.cell 1 rfl 0
 have c_f_1_3:((w.alloc (.cells #[.string (sB nm),.string (sB hp),.int .i64 3,.slice A n c] 85)).alloc (.cells #[.string (sB x.name),.slice Al nl cl,.int .i64 x.val] 73)).cell? ⟨w.heap.size,1,none⟩=some (.string (sB hp)):=HK1.out.cell 1 rfl 1
 have c_f_2_4:((w.alloc (.cells #[.string (sB nm),.string (sB hp),.int .i64 3,.slice A n c] 85)).alloc (.cells #[.string (sB x.name),.slice Al nl cl,.int .i64 x.val] 73)).cell? ⟨w.heap.size,2,none⟩=some (.int .i64 3):=HK1.out.cell 1 rfl 2
 have c_f_3_5:((w.alloc (.cells #[.string (sB nm),.string (sB hp),.int .i64 3,.slice A n c] 85)).alloc (.cells #[.string (sB x.name),.slice Al nl cl,.int .i64 x.val] 73)).cell? ⟨w.heap.size,3,none⟩=some (.slice A n c):=HK1.out.cell 1 rfl 3
 have c_x_0_6:((w.alloc (.cells #[.string (sB nm),.string (sB hp),.int .i64 3,.slice A n c] 85)).alloc (.cells #[.string (sB x.name),.slice Al nl cl,.int .i64 x.val] 73)).cell? ⟨w.heap.size+1,0,none⟩=some (.string (sB x.name)):=HK1.out.cell 0 rfl 0
 have c_x_1_7:((w.alloc (.cells #[.string (sB nm),.string (sB hp),.int .i64 3,.slice A n c] 85)).alloc (.cells #[.string (sB x.name),.slice Al nl cl,.int .i64 x.val] 73)).cell? ⟨w.heap.size+1,1,none⟩=some (.slice Al nl cl):=HK1.out.cell 0 rfl 1
 have c_x_2_8:((w.alloc (.cells #[.string (sB nm),.string (sB hp),.int .i64 3,.slice A n c] 85)).alloc (.cells #[.string (sB x.name),.slice Al nl cl,.int .i64 x.val] 73)).cell? ⟨w.heap.size+1,2,none⟩=some (.int .i64 x.val):=HK1.out.cell 0 rfl 2
 go_wp2_with fail
 clear c_f_0_2 c_f_1_3 c_f_2_4 c_f_3_5 c_x_0_6 c_x_1_7 c_x_2_8
 generalize (w.alloc (.cells #[.string (sB nm),.string (sB hp),.int .i64 3,.slice A n c] 85)).alloc (.cells #[.string (sB x.name),.slice Al nl cl,.int .i64 x.val] 73)=w1 at HK1 ⊢
 generalize w.heap.size=gf at HK1 ⊢
 generalize gf+1=gx at HK1 ⊢
 refine(eG Al nl cl _ x.labs _ ((HK1.out.sl 0 rfl)) HLb.out (HK1.out.xok')).mono ?_
 rintro e w2 ⟨rfl,hb2⟩
 have HK9:Hid (ai w [] X w2 [.box (gx) 73 #[.string (sB x.name),.slice Al nl cl,.int .i64 x.val],.box (gf) 85 #[.string (sB nm),.string (sB hp),.int .i64 3,.slice A n c]] [Sl.fact aj Al nl cl x.labs,Sl.fact ak A n c ss]):=(HK1.out.on hb2)
 clear HK1
 clear hb2
 have e4:decide ((400:Int)≤(n:Int))=false:=by simp;omega
 have c_f_0_10:w2.cell? ⟨gf,0,none⟩=some (.string (sB nm)):=HK9.out.cell 1 rfl 0
 have c_f_1_11:w2.cell? ⟨gf,1,none⟩=some (.string (sB hp)):=HK9.out.cell 1 rfl 1
 have c_f_2_12:w2.cell? ⟨gf,2,none⟩=some (.int .i64 3):=HK9.out.cell 1 rfl 2
 have c_f_3_13:w2.cell? ⟨gf,3,none⟩=some (.slice A n c):=HK9.out.cell 1 rfl 3
 have c_x_0_14:w2.cell? ⟨gx,0,none⟩=some (.string (sB x.name)):=HK9.out.cell 0 rfl 0
 have c_x_1_15:w2.cell? ⟨gx,1,none⟩=some (.slice Al nl cl):=HK9.out.cell 0 rfl 1
 have c_x_2_16:w2.cell? ⟨gx,2,none⟩=some (.int .i64 x.val):=HK9.out.cell 0 rfl 2
 go_wp2_with fail
 clear c_f_0_10 c_f_1_11 c_f_2_12 c_f_3_13 c_x_0_14 c_x_1_15 c_x_2_16
 obtain⟨ad2,y,hA,hy,-,-,-,-,-⟩:=bG ((HK9.out.sl 0 rfl)) hml
 subst hA
 clear hy y
 refine wp_region_noPanic ?_
 refine wp_region_held_drew (S:=fun W'=>ai w [] X W' [.box (gx) 73 #[.string (sB x.name),.slice (some ad2) nl cl,.int .i64 x.val],.box (gf) 85 #[.string (sB nm),.string (sB hp),.int .i64 3,.slice A n c]] [Sl.fact aj (some ad2) nl cl x.labs,Sl.fact ak A n c ss]) (by kernel_rfl) HK9.out.drew (fun hHeld=>?_)
 refine tS 0 hHeld ?_
 refine tS 1 hHeld ?_ (hy:=by(intro W hSW;(try dsimp only at hSW);have q0:W.cell? ⟨gx,0,none⟩=some (.string (sB x.name)):=hSW.cell 0 rfl 0;go_simp;try with_reducible rfl))
 refine tS 2 hHeld ?_
 refine tS 3 hHeld ?_ (hy:=by(intro W hSW;(try dsimp only at hSW);have q0:W.cell? ⟨gf,0,none⟩=some (.string (sB nm)):=hSW.cell 1 rfl 0;go_simp;try with_reducible rfl))
 refine tS 4 hHeld ?_
 refine tS 5 hHeld ?_
 refine tS 6 hHeld ?_
 refine tS 7 hHeld ?_
 refine tS 8 hHeld ?_
 refine tS 9 hHeld ?_
 refine tS 10 hHeld ?_
 refine tS 11 hHeld ?_
 refine tS 12 hHeld ?_ (hy:=by(intro W hSW;(try dsimp only at hSW);have q1:W.cell? ⟨gx,1,none⟩=some (.slice (some ad2) nl cl):=hSW.cell 0 rfl 1;go_simp;try with_reducible rfl))
 refine tS 13 hHeld ?_
 refine tS 14 hHeld ?_
 refine tS 15 hHeld ?_
 refine aa 16 (v:=(.agg #[.string ⟨#[108,101]⟩,.string (sB (bnd kk))])) rfl (by kernel_rfl) (by kernel_rfl) (by kernel_rfl) rfl (fun _ _ _ h=>h) (Or.inl ⟨by rfl,?y16u38⟩) hHeld ?r16u38
 case y16u38=>(intro W hSW;(try dsimp only at hSW);obtain⟨adz,z,hAz,hz,-,q0,q1,-,-⟩:=bG (hSW.sl 0 rfl) hml;injection hAz with hAz;subst hAz;obtain rfl:z=⟨leN,bnd kk⟩:=(by rw[HY.out]at hz;exact(Option.some.inj hz).symm);have q2:W.cell? (ad2.add (m*2))=some (.string ⟨#[108,101]⟩):=q0;clear q0;go_simp)
 simp only[Act.put,sI,sZ,sS]
 refine tS 17 hHeld ?_
 refine wpAnyH_ready (rs:=[18]) (by kernel_rfl) (by simp) ?_
 refine AllReadyH.cons rfl (fun K hK=>?_) AllReadyH.nil
 go_simp
 refine(Mg kk (by omega) _).mono ?_
 rintro e W ⟨rfl,hbW⟩
 refine hK.out _ _ (hHeld.on hbW) (fun hHeld=>?_)
 clear hK K
 try simp only[Act.put,sI,sZ,sS]
 refine tS 19 hHeld ?_
 refine tS 20 hHeld ?_
 refine tS 21 hHeld ?_
 refine wpAnyH_done (by kernel_rfl) ?_ _
 refine NoPanic.normal ?_
 have HKd:=Lib.hid hHeld
 clear hHeld HK9
 have c_f_0_17:W.cell? ⟨gf,0,none⟩=some (.string (sB nm)):=HKd.out.cell 1 rfl 0
 have c_f_1_18:W.cell? ⟨gf,1,none⟩=some (.string (sB hp)):=HKd.out.cell 1 rfl 1
 have c_f_2_19:W.cell? ⟨gf,2,none⟩=some (.int .i64 3):=HKd.out.cell 1 rfl 2
 have c_f_3_20:W.cell? ⟨gf,3,none⟩=some (.slice A n c):=HKd.out.cell 1 rfl 3
 have c_x_0_21:W.cell? ⟨gx,0,none⟩=some (.string (sB x.name)):=HKd.out.cell 0 rfl 0
 have c_x_1_22:W.cell? ⟨gx,1,none⟩=some (.slice (some ad2) nl cl):=HKd.out.cell 0 rfl 1
 have c_x_2_23:W.cell? ⟨gx,2,none⟩=some (.int .i64 x.val):=HKd.out.cell 0 rfl 2
 obtain⟨ad3,y',Ay,ny,cy,hA,hy,-,d0,d1,d2,hSy,-,-⟩:=cL ((HKd.out.sl 1 rfl)) (show n1<n by omega)
 subst hA
 obtain rfl:y'=y:=(by rw[HYs.out]at hy;exact(Option.some.inj hy).symm)
 clear c_f_0_17 c_f_1_18 c_f_2_19 c_f_3_20 c_x_0_21 c_x_1_22 c_x_2_23
 have HK24:Hid (ai w [] X W [.box (gx) 73 #[.string (sB x.name),.slice (some ad2) nl cl,.int .i64 x.val],.box (gf) 85 #[.string (sB nm),.string (sB hp),.int .i64 3,.slice (some ad3) n c]] [Sl.fact aj Ay ny cy y'.labs,Sl.fact aj (some ad2) nl cl x.labs,Sl.fact ak (some ad3) n c ss]):=(HKd.out.know (Sl.fact aj Ay ny cy y'.labs) hSy)
 clear HKd
 clear hy
 have HNy:=Lib.hid hSy.len
 have hnyc:ny≤cy:=hSy.le
 have hcym:cy≤9223372036854775807:=by have h3:=hSy.max;simp only[maxLen]at h3;omega
 clear hSy
 have c_f_0_25:W.cell? ⟨gf,0,none⟩=some (.string (sB nm)):=HK24.out.cell 1 rfl 0
 have c_f_1_26:W.cell? ⟨gf,1,none⟩=some (.string (sB hp)):=HK24.out.cell 1 rfl 1
 have c_f_2_27:W.cell? ⟨gf,2,none⟩=some (.int .i64 3):=HK24.out.cell 1 rfl 2
 have c_f_3_28:W.cell? ⟨gf,3,none⟩=some (.slice (some ad3) n c):=HK24.out.cell 1 rfl 3
 have c_x_0_29:W.cell? ⟨gx,0,none⟩=some (.string (sB x.name)):=HK24.out.cell 0 rfl 0
 have c_x_1_30:W.cell? ⟨gx,1,none⟩=some (.slice (some ad2) nl cl):=HK24.out.cell 0 rfl 1
 have c_x_2_31:W.cell? ⟨gx,2,none⟩=some (.int .i64 x.val):=HK24.out.cell 0 rfl 2
 have HK32:Hid (ai w [] X (W.alloc (.cells #[.string (sB y'.name),.slice Ay ny cy,.int .i64 y'.val] 73)) [.box (W.heap.size) 73 #[.string (sB y'.name),.slice Ay ny cy,.int .i64 y'.val],.box (gx) 73 #[.string (sB x.name),.slice (some ad2) nl cl,.int .i64 x.val],.box (gf) 85 #[.string (sB nm),.string (sB hp),.int .i64 3,.slice (some ad3) n c]] [Sl.fact aj Ay ny cy y'.labs,Sl.fact aj (some ad2) nl cl x.labs,Sl.fact ak (some ad3) n c ss]):=HK24.out.alloc_at 73 #[.string (sB y'.name),.slice Ay ny cy,.int .i64 y'.val] (W.heap.size) (by simp)
 clear HK24
 go_wp2_with fail
 clear d0 d1 d2 hHeld ap7 x1 x2 b3 b5
 clear c_f_0_25 c_f_1_26 c_f_2_27 c_f_3_28 c_x_0_29 c_x_1_30 c_x_2_31
 generalize W.alloc (.cells #[.string (sB y'.name),.slice Ay ny cy,.int .i64 y'.val] 73)=w3 at HK32 ⊢
 generalize W.heap.size=gy at HK32 ⊢
 have HNN:=Lib.hid (show ny=nl from by rw[HNy.out,HNl.out];exact HP4.out)
 have hny:=HNN.out
 have hmy:m<ny:=by omega
 have hmcy:m≤cy:=by omega
 have hmcl:m≤cl:=by omega
 have hml2:m≤nl:=by omega
 have hmy2:m≤ny:=by omega
 obtain⟨ad4,y2,hA,hy2,-,-,-,-,-⟩:=bG ((HK32.out.sl 0 rfl)) hmy
 subst hA
 clear hy2 y2 hny
 have HTk:=Lib.hid (show y'.labs.take m=x.labs.take m from by have h1:=HP5.out;rw[List.dropLast_eq_take,List.dropLast_eq_take,HP4.out,←HNl.out,show nl-1=m from by have:=HMM.out;omega]at h1;exact h1.symm)
 have e5:((ny:Int) == (nl:Int))=true:=by rw[beq_iff_eq,HNN.out]
 refine wp_region_noPanic ?_
 refine wp_region_held_drew (S:=fun W'=>ai w [] X W' [.box (gy) 73 #[.string (sB y'.name),.slice (some ad4) ny cy,.int .i64 y'.val],.box (gx) 73 #[.string (sB x.name),.slice (some ad2) nl cl,.int .i64 x.val],.box (gf) 85 #[.string (sB nm),.string (sB hp),.int .i64 3,.slice (some ad3) n c]] [Sl.fact aj (some ad4) ny cy y'.labs,Sl.fact aj (some ad2) nl cl x.labs,Sl.fact ak (some ad3) n c ss]) (by kernel_rfl) HK32.out.drew (fun hHeld=>?_)
 refine tS 0 hHeld ?_
 refine tS 1 hHeld ?_ (hy:=by(intro W hSW;(try dsimp only at hSW);have q1:W.cell? ⟨gy,1,none⟩=some (.slice (some ad4) ny cy):=hSW.cell 0 rfl 1;go_simp;try with_reducible rfl))
 refine tS 2 hHeld ?_
 refine tS 3 hHeld ?_
 refine tS 4 hHeld ?_
 refine tS 5 hHeld ?_
 refine tS 6 hHeld ?_
 refine tS 7 hHeld ?_ (hy:=by(intro W hSW;(try dsimp only at hSW);have q1:W.cell? ⟨gx,1,none⟩=some (.slice (some ad2) nl cl):=hSW.cell 1 rfl 1;go_simp;try with_reducible rfl))
 refine tS 8 hHeld ?_
 refine tS 9 hHeld ?_
 refine tS 10 hHeld ?_
 refine tS 11 hHeld ?_
 refine tS 12 hHeld ?_ (hy:=by(intro W hSW;(try dsimp only at hSW);have q1:W.cell? ⟨gy,1,none⟩=some (.slice (some ad4) ny cy):=hSW.cell 0 rfl 1;go_simp;try with_reducible rfl))
 refine tS 13 hHeld ?_
 refine tS 14 hHeld ?_
 refine tS 15 hHeld ?_
 refine wpAnyH_ready (rs:=[16]) (by kernel_rfl) (by simp) ?_
 refine AllReadyH.cons rfl (fun K hK=>?_) AllReadyH.nil
 go_simp
 refine(qh (some ad2) (some ad4) m cl cy _ (x.labs.take m) _ ((hHeld.sl 1 rfl).pre hml2) (HTk.out ▸ (hHeld.sl 0 rfl).pre hmy2) hHeld.xok').mono ?_
 rintro e W2 ⟨rfl,hbW⟩
 refine hK.out _ _ (hHeld.on hbW) (fun hHeld=>?_)
 clear hK K
 try simp only[Act.put,sI,sZ,sS]
 refine tS 17 hHeld ?_
 refine tS 18 hHeld ?_
 refine tS 19 hHeld ?_
 refine tS 20 hHeld ?_ (hy:=by(intro W hSW;(try dsimp only at hSW);have q2:W.cell? ⟨gx,2,none⟩=some (.int .i64 x.val):=hSW.cell 1 rfl 2;go_simp;try with_reducible rfl))
 refine tS 21 hHeld ?_
 refine tS 22 hHeld ?_ (hy:=by(intro W hSW;(try dsimp only at hSW);have q2:W.cell? ⟨gy,2,none⟩=some (.int .i64 y'.val):=hSW.cell 0 rfl 2;go_simp;try with_reducible rfl))
 refine tS 23 hHeld ?_
 refine tS 24 hHeld ?_
 refine tS 25 hHeld ?_
 refine wpAnyH_done (by kernel_rfl) ?_ _
 refine NoPanic.normal ?_
 have HKd:=Lib.hid hHeld
 clear hHeld HK32
 go_wp2
 go_ret
 exact⟨rfl,HKd.out.below⟩
end
section
open Go.RowKit
set_option maxHeartbeats 8000000 in
theorem zL (A Al:Option Addr) (n c nl cl:Nat) (X:List Nat) (nm hp:List UInt8) (ss:List aF) (x:aF) (w:World) (hs:Sl ak w X A n c ss) (hl:Sl aj w X Al nl cl x.labs) (hX:XOk X w) (hnm:nm.length≤64) (hF:jt nm 3 ss x) (hk:ss.length%11=9) (hyl:∀ y,ss[ss.length-1-(9-9)]?=some y→1≤y.labs.length):
 Calls Tryz.prog 63 #[.agg #[.string (sB nm),.string (sB hp),.int .i64 3,.slice A n c],.agg #[.string (sB x.name),.slice Al nl cl,.int .i64 x.val]] w fun e w'=>e = .returned (.bool true)∧Below w.heap.size w w':=by
 have hns:=hs.len
 have HNl:=Lib.hid hl.len
 have hn4:n<400:=by rw[hns];exact hF.few
 have hnc:n≤c:=hs.le
 have hcc:c≤9223372036854775807:=by have h3:=hs.max;simp only[maxLen]at h3;omega
 have hnl8:nl≤8:=by rw[hl.len];exact(eZ hF.labs).1
 have hnlc:nl≤cl:=hl.le
 have hclm:cl≤9223372036854775807:=by have h3:=hl.max;simp only[maxLen]at h3;omega
 have HLb:=Lib.hid hF.labs
 have hm:=hk
 rw[←hns]at hm
 obtain⟨y,p3,p4,p5,p6⟩:=hF.last rfl (by omega)
 have hyl1:=hyl y (by rw[hk]at p3;exact p3)
 have p7:=p5 hk
 have b3:Int.tmod (n:Int) 11=9:=by rw[Int.tmod_eq_emod_of_nonneg (by omega)];omega
 have b5:IntKind.i64.wrap (Int.tmod (n:Int) 11)=9:=by rw[b3,IntWalk.i64_in _ (by omega)]
 have hnl7:¬ 9223372036854775807<nm.length+4:=by omega
 have ap7:(sB nm++⟨#[95,115,117,109]⟩).toList=nm++jh:=by rw[show(⟨#[95,115,117,109]⟩:ByteArray)=sB jh from rfl,cU,ByteArray.toList_eq]
 have x1:(x.name == nm++jh)=true:=by rw[beq_iff_eq];exact p7
 have hn0:9≤n:=by omega
 obtain⟨n1,hn1⟩:∃ n1,n1=n-1:=⟨_,rfl⟩
 have hwn:IntKind.i64.wrap ((n:Int)-1)=(n1:Int):=by rw[IntWalk.i64_in _ (by omega)];omega
 have HYs:=Lib.hid (show ss[n1]?=some y from by rw[hk,←hns]at p3;rw[show n1=n-1-(9-9) from by omega];exact p3)
 have j0:n1<n:=by omega
 have j1:(0:Int)≤(n1:Int):=by omega
 have j2:(n1:Int)<(n:Int):=by omega
 have HP4:=Lib.hid p4
 have HYl:=Lib.hid hyl1
 clear hm hk p3 p4 p5 p6 p7 hyl hyl1 hn1
 have HNs:=Lib.hid hns
 clear hns
 have HK1:Hid (ai w [] X ((w.alloc (.cells #[.string (sB nm),.string (sB hp),.int .i64 3,.slice A n c] 85)).alloc (.cells #[.string (sB x.name),.slice Al nl cl,.int .i64 x.val] 73)) [.box (w.heap.size+1) 73 #[.string (sB x.name),.slice Al nl cl,.int .i64 x.val],.box (w.heap.size) 85 #[.string (sB nm),.string (sB hp),.int .i64 3,.slice A n c]] [Sl.fact aj Al nl cl x.labs,Sl.fact ak A n c ss]):=(((((ai.start w hX).alloc_at 85 #[.string (sB nm),.string (sB hp),.int .i64 3,.slice A n c] (w.heap.size) (by simp)).alloc_at 73 #[.string (sB x.name),.slice Al nl cl,.int .i64 x.val] (w.heap.size+1) (by simp)).know0 (Sl.fact ak A n c ss) hs).know0 (Sl.fact aj Al nl cl x.labs) hl)
 clear hs hl hX hF
 go_enter Tryz.func63,Tryz.ntmps63
 have c_f_0_2:((w.alloc (.cells #[.string (sB nm),.string (sB hp),.int .i64 3,.slice A n c] 85)).alloc (.cells #[.string (sB x.name),.slice Al nl cl,.int .i64 x.val] 73)).cell? ⟨w.heap.size,0,none⟩=some (.string (sB nm)):=HK1.out.cell 1 rfl 0
 have c_f_1_3:((w.alloc (.cells #[.string (sB nm),.string (sB hp),.int .i64 3,.slice A n c] 85)).alloc (.cells #[.string (sB x.name),.slice Al nl cl,.int .i64 x.val] 73)).cell? ⟨w.heap.size,1,none⟩=some (.string (sB hp)):=HK1.out.cell 1 rfl 1
 have c_f_2_4:((w.alloc (.cells #[.string (sB nm),.string (sB hp),.int .i64 3,.slice A n c] 85)).alloc (.cells #[.string (sB x.name),.slice Al nl cl,.int .i64 x.val] 73)).cell? ⟨w.heap.size,2,none⟩=some (.int .i64 3):=HK1.out.cell 1 rfl 2
 have c_f_3_5:((w.alloc (.cells #[.string (sB nm),.string (sB hp),.int .i64 3,.slice A n c] 85)).alloc (.cells #[.string (sB x.name),.slice Al nl cl,.int .i64 x.val] 73)).cell? ⟨w.heap.size,3,none⟩=some (.slice A n c):=HK1.out.cell 1 rfl 3
 have c_x_0_6:((w.alloc (.cells #[.string (sB nm),.string (sB hp),.int .i64 3,.slice A n c] 85)).alloc (.cells #[.string (sB x.name),.slice Al nl cl,.int .i64 x.val] 73)).cell? ⟨w.heap.size+1,0,none⟩=some (.string (sB x.name)):=HK1.out.cell 0 rfl 0
 have c_x_1_7:((w.alloc (.cells #[.string (sB nm),.string (sB hp),.int .i64 3,.slice A n c] 85)).alloc (.cells #[.string (sB x.name),.slice Al nl cl,.int .i64 x.val] 73)).cell? ⟨w.heap.size+1,1,none⟩=some (.slice Al nl cl):=HK1.out.cell 0 rfl 1
 have c_x_2_8:((w.alloc (.cells #[.string (sB nm),.string (sB hp),.int .i64 3,.slice A n c] 85)).alloc (.cells #[.string (sB x.name),.slice Al nl cl,.int .i64 x.val] 73)).cell? ⟨w.heap.size+1,2,none⟩=some (.int .i64 x.val):=HK1.out.cell 0 rfl 2
 go_wp2_with fail
 clear c_f_0_2 c_f_1_3 c_f_2_4 c_f_3_5 c_x_0_6 c_x_1_7 c_x_2_8
 generalize (w.alloc (.cells #[.string (sB nm),.string (sB hp),.int .i64 3,.slice A n c] 85)).alloc (.cells #[.string (sB x.name),.slice Al nl cl,.int .i64 x.val] 73)=w1 at HK1 ⊢
 generalize w.heap.size=gf at HK1 ⊢
 generalize gf+1=gx at HK1 ⊢
 refine(eG Al nl cl _ x.labs _ ((HK1.out.sl 0 rfl)) HLb.out (HK1.out.xok')).mono ?_
 rintro e w2 ⟨rfl,hb2⟩
 have HK9:Hid (ai w [] X w2 [.box (gx) 73 #[.string (sB x.name),.slice Al nl cl,.int .i64 x.val],.box (gf) 85 #[.string (sB nm),.string (sB hp),.int .i64 3,.slice A n c]] [Sl.fact aj Al nl cl x.labs,Sl.fact ak A n c ss]):=(HK1.out.on hb2)
 clear HK1
 clear hb2
 have e4:decide ((400:Int)≤(n:Int))=false:=by simp;omega
 have c_f_0_10:w2.cell? ⟨gf,0,none⟩=some (.string (sB nm)):=HK9.out.cell 1 rfl 0
 have c_f_1_11:w2.cell? ⟨gf,1,none⟩=some (.string (sB hp)):=HK9.out.cell 1 rfl 1
 have c_f_2_12:w2.cell? ⟨gf,2,none⟩=some (.int .i64 3):=HK9.out.cell 1 rfl 2
 have c_f_3_13:w2.cell? ⟨gf,3,none⟩=some (.slice A n c):=HK9.out.cell 1 rfl 3
 have c_x_0_14:w2.cell? ⟨gx,0,none⟩=some (.string (sB x.name)):=HK9.out.cell 0 rfl 0
 have c_x_1_15:w2.cell? ⟨gx,1,none⟩=some (.slice Al nl cl):=HK9.out.cell 0 rfl 1
 have c_x_2_16:w2.cell? ⟨gx,2,none⟩=some (.int .i64 x.val):=HK9.out.cell 0 rfl 2
 obtain⟨ad3,y',Ay,ny,cy,hA,hy,-,d0,d1,d2,hSy,-,-⟩:=cL ((HK9.out.sl 1 rfl)) (show n1<n by omega)
 subst hA
 obtain rfl:y'=y:=(by rw[HYs.out]at hy;exact(Option.some.inj hy).symm)
 clear c_f_0_10 c_f_1_11 c_f_2_12 c_f_3_13 c_x_0_14 c_x_1_15 c_x_2_16
 have HK17:Hid (ai w [] X w2 [.box (gx) 73 #[.string (sB x.name),.slice Al nl cl,.int .i64 x.val],.box (gf) 85 #[.string (sB nm),.string (sB hp),.int .i64 3,.slice (some ad3) n c]] [Sl.fact aj Ay ny cy y'.labs,Sl.fact aj Al nl cl x.labs,Sl.fact ak (some ad3) n c ss]):=(HK9.out.know (Sl.fact aj Ay ny cy y'.labs) hSy)
 clear HK9
 clear hy
 have HNy:=Lib.hid hSy.len
 have hnyc:ny≤cy:=hSy.le
 have hcym:cy≤9223372036854775807:=by have h3:=hSy.max;simp only[maxLen]at h3;omega
 clear hSy
 have c_f_0_18:w2.cell? ⟨gf,0,none⟩=some (.string (sB nm)):=HK17.out.cell 1 rfl 0
 have c_f_1_19:w2.cell? ⟨gf,1,none⟩=some (.string (sB hp)):=HK17.out.cell 1 rfl 1
 have c_f_2_20:w2.cell? ⟨gf,2,none⟩=some (.int .i64 3):=HK17.out.cell 1 rfl 2
 have c_f_3_21:w2.cell? ⟨gf,3,none⟩=some (.slice (some ad3) n c):=HK17.out.cell 1 rfl 3
 have c_x_0_22:w2.cell? ⟨gx,0,none⟩=some (.string (sB x.name)):=HK17.out.cell 0 rfl 0
 have c_x_1_23:w2.cell? ⟨gx,1,none⟩=some (.slice Al nl cl):=HK17.out.cell 0 rfl 1
 have c_x_2_24:w2.cell? ⟨gx,2,none⟩=some (.int .i64 x.val):=HK17.out.cell 0 rfl 2
 have HK25:Hid (ai w [] X (w2.alloc (.cells #[.string (sB y'.name),.slice Ay ny cy,.int .i64 y'.val] 73)) [.box (w2.heap.size) 73 #[.string (sB y'.name),.slice Ay ny cy,.int .i64 y'.val],.box (gx) 73 #[.string (sB x.name),.slice Al nl cl,.int .i64 x.val],.box (gf) 85 #[.string (sB nm),.string (sB hp),.int .i64 3,.slice (some ad3) n c]] [Sl.fact aj Ay ny cy y'.labs,Sl.fact aj Al nl cl x.labs,Sl.fact ak (some ad3) n c ss]):=HK17.out.alloc_at 73 #[.string (sB y'.name),.slice Ay ny cy,.int .i64 y'.val] (w2.heap.size) (by simp)
 clear HK17
 go_wp2_with fail
 clear d0 d1 d2 b3 b5
 clear c_f_0_18 c_f_1_19 c_f_2_20 c_f_3_21 c_x_0_22 c_x_1_23 c_x_2_24
 generalize w2.alloc (.cells #[.string (sB y'.name),.slice Ay ny cy,.int .i64 y'.val] 73)=w3 at HK25 ⊢
 generalize w2.heap.size=gy at HK25 ⊢
 obtain⟨m,hmm⟩:∃ m,ny=m+1:=⟨ny-1,by have h1:=HNy.out;have h2:=HYl.out;omega⟩
 have hmy:m<ny:=by omega
 have hmy2:m≤ny:=by omega
 have hmcy:m≤cy:=by omega
 have HTk:=Lib.hid (show y'.labs.take m=x.labs from by have h1:=HP4.out;rw[List.dropLast_eq_take,←HNy.out,hmm]at h1;exact h1.symm)
 have HMl:=Lib.hid (show m=nl from by rw[HNl.out,←HTk.out,List.length_take,←HNy.out];omega)
 have hwm:IntKind.i64.wrap ((ny:Int)-1)=(m:Int):=by rw[IntWalk.i64_in _ (by omega)];omega
 have i3:(0:Int)≤(m:Int):=by omega
 have i4:(m:Int)<(ny:Int):=by omega
 clear hmm
 obtain rfl:nl=m:=HMl.out.symm
 obtain⟨ad4,y2,hA,hy2,-,-,-,-,-⟩:=bG ((HK25.out.sl 0 rfl)) hmy
 subst hA
 clear hy2 y2
 refine wp_region_noPanic ?_
 refine wp_region_held_drew (S:=fun W'=>ai w [] X W' [.box (gy) 73 #[.string (sB y'.name),.slice (some ad4) ny cy,.int .i64 y'.val],.box (gx) 73 #[.string (sB x.name),.slice Al nl cl,.int .i64 x.val],.box (gf) 85 #[.string (sB nm),.string (sB hp),.int .i64 3,.slice (some ad3) n c]] [Sl.fact aj (some ad4) ny cy y'.labs,Sl.fact aj Al nl cl x.labs,Sl.fact ak (some ad3) n c ss]) (by kernel_rfl) HK25.out.drew (fun hHeld=>?_)
 refine tS 0 hHeld ?_
 refine tS 1 hHeld ?_ (hy:=by(intro W hSW;(try dsimp only at hSW);have q1:W.cell? ⟨gx,1,none⟩=some (.slice Al nl cl):=hSW.cell 1 rfl 1;go_simp;try with_reducible rfl))
 refine tS 2 hHeld ?_
 refine tS 3 hHeld ?_ (hy:=by(intro W hSW;(try dsimp only at hSW);have q1:W.cell? ⟨gy,1,none⟩=some (.slice (some ad4) ny cy):=hSW.cell 0 rfl 1;go_simp;try with_reducible rfl))
 refine tS 4 hHeld ?_
 refine tS 5 hHeld ?_ (hy:=by(intro W hSW;(try dsimp only at hSW);have q1:W.cell? ⟨gy,1,none⟩=some (.slice (some ad4) ny cy):=hSW.cell 0 rfl 1;go_simp;try with_reducible rfl))
 refine tS 6 hHeld ?_
 refine tS 7 hHeld ?_
 refine tS 8 hHeld ?_
 refine wpAnyH_ready (rs:=[9]) (by kernel_rfl) (by simp) ?_
 refine AllReadyH.cons rfl (fun K hK=>?_) AllReadyH.nil
 go_simp
 have hpre:=(hHeld.sl 0 rfl).pre hmy2
 rw[HTk.out]at hpre
 refine(qh Al (some ad4) nl cl cy _ x.labs _ (hHeld.sl 1 rfl) hpre hHeld.xok').mono ?_
 rintro e W2 ⟨rfl,hbW⟩
 refine hK.out _ _ (hHeld.on hbW) (fun hHeld=>?_)
 clear hK K
 try simp only[Act.put,sI,sZ,sS]
 refine tS 10 hHeld ?_
 refine wpAnyH_done (by kernel_rfl) ?_ _
 refine NoPanic.normal ?_
 have HKd:=Lib.hid hHeld
 clear hHeld HK25
 have c_f_0_26:W2.cell? ⟨gf,0,none⟩=some (.string (sB nm)):=HKd.out.cell 2 rfl 0
 have c_f_1_27:W2.cell? ⟨gf,1,none⟩=some (.string (sB hp)):=HKd.out.cell 2 rfl 1
 have c_f_2_28:W2.cell? ⟨gf,2,none⟩=some (.int .i64 3):=HKd.out.cell 2 rfl 2
 have c_f_3_29:W2.cell? ⟨gf,3,none⟩=some (.slice (some ad3) n c):=HKd.out.cell 2 rfl 3
 have c_x_0_30:W2.cell? ⟨gx,0,none⟩=some (.string (sB x.name)):=HKd.out.cell 1 rfl 0
 have c_x_1_31:W2.cell? ⟨gx,1,none⟩=some (.slice Al nl cl):=HKd.out.cell 1 rfl 1
 have c_x_2_32:W2.cell? ⟨gx,2,none⟩=some (.int .i64 x.val):=HKd.out.cell 1 rfl 2
 have c_y_0_33:W2.cell? ⟨gy,0,none⟩=some (.string (sB y'.name)):=HKd.out.cell 0 rfl 0
 have c_y_1_34:W2.cell? ⟨gy,1,none⟩=some (.slice (some ad4) ny cy):=HKd.out.cell 0 rfl 1
 have c_y_2_35:W2.cell? ⟨gy,2,none⟩=some (.int .i64 y'.val):=HKd.out.cell 0 rfl 2
 go_wp2
 go_ret
 exact⟨rfl,HKd.out.below⟩
end
section
open Go.RowKit
set_option maxHeartbeats 8000000 in
theorem xR (A Al:Option Addr) (n c nl cl:Nat) (X:List Nat) (nm hp:List UInt8) (ss:List aF) (x:aF) (w:World) (hs:Sl ak w X A n c ss) (hl:Sl aj w X Al nl cl x.labs) (hX:XOk X w) (hnm:nm.length≤64) (hF:jt nm 3 ss x) (hk:ss.length%11=10) (hyl:∀ y,ss[ss.length-1-(10-9)]?=some y→1≤y.labs.length):
 Calls Tryz.prog 63 #[.agg #[.string (sB nm),.string (sB hp),.int .i64 3,.slice A n c],.agg #[.string (sB x.name),.slice Al nl cl,.int .i64 x.val]] w fun e w'=>e = .returned (.bool true)∧Below w.heap.size w w':=by
 have hns:=hs.len
 have HNl:=Lib.hid hl.len
 have hn4:n<400:=by rw[hns];exact hF.few
 have hnc:n≤c:=hs.le
 have hcc:c≤9223372036854775807:=by have h3:=hs.max;simp only[maxLen]at h3;omega
 have hnl8:nl≤8:=by rw[hl.len];exact(eZ hF.labs).1
 have hnlc:nl≤cl:=hl.le
 have hclm:cl≤9223372036854775807:=by have h3:=hl.max;simp only[maxLen]at h3;omega
 have HLb:=Lib.hid hF.labs
 have hm:=hk
 rw[←hns]at hm
 obtain⟨y,p3,p4,p5,p6⟩:=hF.last rfl (by omega)
 have hyl1:=hyl y (by rw[hk]at p3;exact p3)
 obtain⟨p7,p8⟩:=p6 (by omega)
 have b3:Int.tmod (n:Int) 11=10:=by rw[Int.tmod_eq_emod_of_nonneg (by omega)];omega
 have b5:IntKind.i64.wrap (Int.tmod (n:Int) 11)=10:=by rw[b3,IntWalk.i64_in _ (by omega)]
 have hnl7:¬ 9223372036854775807<nm.length+6:=by omega
 have ap7:(sB nm++⟨#[95,99,111,117,110,116]⟩).toList=nm++cC:=by rw[show(⟨#[95,99,111,117,110,116]⟩:ByteArray)=sB cC from rfl,cU,ByteArray.toList_eq]
 have x1:(x.name == nm++cC)=true:=by rw[beq_iff_eq];exact p7
 have hn0:9≤n:=by omega
 obtain⟨n1,hn1⟩:∃ n1,n1=n-1:=⟨_,rfl⟩
 have hwn:IntKind.i64.wrap ((n:Int)-1)=(n1:Int):=by rw[IntWalk.i64_in _ (by omega)];omega
 obtain⟨n2,hn2⟩:∃ n2,n2=n1-1:=⟨_,rfl⟩
 have hwn2:IntKind.i64.wrap ((n1:Int)-1)=(n2:Int):=by rw[IntWalk.i64_in _ (by omega)];omega
 have e6:(x.val == y.val)=true:=by rw[beq_iff_eq];exact p8
 have HYs:=Lib.hid (show ss[n2]?=some y from by rw[hk,←hns]at p3;rw[show n2=n-1-(10-9) from by omega];exact p3)
 have j0:n2<n:=by omega
 have j1:(0:Int)≤(n2:Int):=by omega
 have j2:(n2:Int)<(n:Int):=by omega
 have HP4:=Lib.hid p4
 have HYl:=Lib.hid hyl1
 clear hm hk p3 p4 p5 p6 p7 hyl hyl1 hn1 hn2 p8
 have HNs:=Lib.hid hns
 clear hns
 have HK1:Hid (ai w [] X ((w.alloc (.cells #[.string (sB nm),.string (sB hp),.int .i64 3,.slice A n c] 85)).alloc (.cells #[.string (sB x.name),.slice Al nl cl,.int .i64 x.val] 73)) [.box (w.heap.size+1) 73 #[.string (sB x.name),.slice Al nl cl,.int .i64 x.val],.box (w.heap.size) 85 #[.string (sB nm),.string (sB hp),.int .i64 3,.slice A n c]] [Sl.fact aj Al nl cl x.labs,Sl.fact ak A n c ss]):=(((((ai.start w hX).alloc_at 85 #[.string (sB nm),.string (sB hp),.int .i64 3,.slice A n c] (w.heap.size) (by simp)).alloc_at 73 #[.string (sB x.name),.slice Al nl cl,.int .i64 x.val] (w.heap.size+1) (by simp)).know0 (Sl.fact ak A n c ss) hs).know0 (Sl.fact aj Al nl cl x.labs) hl)
 clear hs hl hX hF
 go_enter Tryz.func63,Tryz.ntmps63
 have c_f_0_2:((w.alloc (.cells #[.string (sB nm),.string (sB hp),.int .i64 3,.slice A n c] 85)).alloc (.cells #[.string (sB x.name),.slice Al nl cl,.int .i64 x.val] 73)).cell? ⟨w.heap.size,0,none⟩=some (.string (sB nm)):=HK1.out.cell 1 rfl 0
 have c_f_1_3:((w.alloc (.cells #[.string (sB nm),.string (sB hp),.int .i64 3,.slice A n c] 85)).alloc (.cells #[.string (sB x.name),.slice Al nl cl,.int .i64 x.val] 73)).cell? ⟨w.heap.size,1,none⟩=some (.string (sB hp)):=HK1.out.cell 1 rfl 1
 have c_f_2_4:((w.alloc (.cells #[.string (sB nm),.string (sB hp),.int .i64 3,.slice A n c] 85)).alloc (.cells #[.string (sB x.name),.slice Al nl cl,.int .i64 x.val] 73)).cell? ⟨w.heap.size,2,none⟩=some (.int .i64 3):=HK1.out.cell 1 rfl 2
 have c_f_3_5:((w.alloc (.cells #[.string (sB nm),.string (sB hp),.int .i64 3,.slice A n c] 85)).alloc (.cells #[.string (sB x.name),.slice Al nl cl,.int .i64 x.val] 73)).cell? ⟨w.heap.size,3,none⟩=some (.slice A n c):=HK1.out.cell 1 rfl 3
 have c_x_0_6:((w.alloc (.cells #[.string (sB nm),.string (sB hp),.int .i64 3,.slice A n c] 85)).alloc (.cells #[.string (sB x.name),.slice Al nl cl,.int .i64 x.val] 73)).cell? ⟨w.heap.size+1,0,none⟩=some (.string (sB x.name)):=HK1.out.cell 0 rfl 0
 have c_x_1_7:((w.alloc (.cells #[.string (sB nm),.string (sB hp),.int .i64 3,.slice A n c] 85)).alloc (.cells #[.string (sB x.name),.slice Al nl cl,.int .i64 x.val] 73)).cell? ⟨w.heap.size+1,1,none⟩=some (.slice Al nl cl):=HK1.out.cell 0 rfl 1
 have c_x_2_8:((w.alloc (.cells #[.string (sB nm),.string (sB hp),.int .i64 3,.slice A n c] 85)).alloc (.cells #[.string (sB x.name),.slice Al nl cl,.int .i64 x.val] 73)).cell? ⟨w.heap.size+1,2,none⟩=some (.int .i64 x.val):=HK1.out.cell 0 rfl 2
 go_wp2_with fail
 clear c_f_0_2 c_f_1_3 c_f_2_4 c_f_3_5 c_x_0_6 c_x_1_7 c_x_2_8
 generalize (w.alloc (.cells #[.string (sB nm),.string (sB hp),.int .i64 3,.slice A n c] 85)).alloc (.cells #[.string (sB x.name),.slice Al nl cl,.int .i64 x.val] 73)=w1 at HK1 ⊢
 generalize w.heap.size=gf at HK1 ⊢
 generalize gf+1=gx at HK1 ⊢
 refine(eG Al nl cl _ x.labs _ ((HK1.out.sl 0 rfl)) HLb.out (HK1.out.xok')).mono ?_
 rintro e w2 ⟨rfl,hb2⟩
 have HK9:Hid (ai w [] X w2 [.box (gx) 73 #[.string (sB x.name),.slice Al nl cl,.int .i64 x.val],.box (gf) 85 #[.string (sB nm),.string (sB hp),.int .i64 3,.slice A n c]] [Sl.fact aj Al nl cl x.labs,Sl.fact ak A n c ss]):=(HK1.out.on hb2)
 clear HK1
 clear hb2
 have e4:decide ((400:Int)≤(n:Int))=false:=by simp;omega
 have c_f_0_10:w2.cell? ⟨gf,0,none⟩=some (.string (sB nm)):=HK9.out.cell 1 rfl 0
 have c_f_1_11:w2.cell? ⟨gf,1,none⟩=some (.string (sB hp)):=HK9.out.cell 1 rfl 1
 have c_f_2_12:w2.cell? ⟨gf,2,none⟩=some (.int .i64 3):=HK9.out.cell 1 rfl 2
 have c_f_3_13:w2.cell? ⟨gf,3,none⟩=some (.slice A n c):=HK9.out.cell 1 rfl 3
 have c_x_0_14:w2.cell? ⟨gx,0,none⟩=some (.string (sB x.name)):=HK9.out.cell 0 rfl 0
 have c_x_1_15:w2.cell? ⟨gx,1,none⟩=some (.slice Al nl cl):=HK9.out.cell 0 rfl 1
 have c_x_2_16:w2.cell? ⟨gx,2,none⟩=some (.int .i64 x.val):=HK9.out.cell 0 rfl 2
 obtain⟨ad3,y',Ay,ny,cy,hA,hy,-,d0,d1,d2,hSy,-,-⟩:=cL ((HK9.out.sl 1 rfl)) (show n2<n by omega)
 subst hA
 obtain rfl:y'=y:=(by rw[HYs.out]at hy;exact(Option.some.inj hy).symm)
 clear c_f_0_10 c_f_1_11 c_f_2_12 c_f_3_13 c_x_0_14 c_x_1_15 c_x_2_16
 have HK17:Hid (ai w [] X w2 [.box (gx) 73 #[.string (sB x.name),.slice Al nl cl,.int .i64 x.val],.box (gf) 85 #[.string (sB nm),.string (sB hp),.int .i64 3,.slice (some ad3) n c]] [Sl.fact aj Ay ny cy y'.labs,Sl.fact aj Al nl cl x.labs,Sl.fact ak (some ad3) n c ss]):=(HK9.out.know (Sl.fact aj Ay ny cy y'.labs) hSy)
 clear HK9
 clear hy
 have HNy:=Lib.hid hSy.len
 have hnyc:ny≤cy:=hSy.le
 have hcym:cy≤9223372036854775807:=by have h3:=hSy.max;simp only[maxLen]at h3;omega
 clear hSy
 have c_f_0_18:w2.cell? ⟨gf,0,none⟩=some (.string (sB nm)):=HK17.out.cell 1 rfl 0
 have c_f_1_19:w2.cell? ⟨gf,1,none⟩=some (.string (sB hp)):=HK17.out.cell 1 rfl 1
 have c_f_2_20:w2.cell? ⟨gf,2,none⟩=some (.int .i64 3):=HK17.out.cell 1 rfl 2
 have c_f_3_21:w2.cell? ⟨gf,3,none⟩=some (.slice (some ad3) n c):=HK17.out.cell 1 rfl 3
 have c_x_0_22:w2.cell? ⟨gx,0,none⟩=some (.string (sB x.name)):=HK17.out.cell 0 rfl 0
 have c_x_1_23:w2.cell? ⟨gx,1,none⟩=some (.slice Al nl cl):=HK17.out.cell 0 rfl 1
 have c_x_2_24:w2.cell? ⟨gx,2,none⟩=some (.int .i64 x.val):=HK17.out.cell 0 rfl 2
 have HK25:Hid (ai w [] X (w2.alloc (.cells #[.string (sB y'.name),.slice Ay ny cy,.int .i64 y'.val] 73)) [.box (w2.heap.size) 73 #[.string (sB y'.name),.slice Ay ny cy,.int .i64 y'.val],.box (gx) 73 #[.string (sB x.name),.slice Al nl cl,.int .i64 x.val],.box (gf) 85 #[.string (sB nm),.string (sB hp),.int .i64 3,.slice (some ad3) n c]] [Sl.fact aj Ay ny cy y'.labs,Sl.fact aj Al nl cl x.labs,Sl.fact ak (some ad3) n c ss]):=HK17.out.alloc_at 73 #[.string (sB y'.name),.slice Ay ny cy,.int .i64 y'.val] (w2.heap.size) (by simp)
 clear HK17
 go_wp2_with fail
 clear d0 d1 d2 b3 b5
 clear c_f_0_18 c_f_1_19 c_f_2_20 c_f_3_21 c_x_0_22 c_x_1_23 c_x_2_24
 generalize w2.alloc (.cells #[.string (sB y'.name),.slice Ay ny cy,.int .i64 y'.val] 73)=w3 at HK25 ⊢
 generalize w2.heap.size=gy at HK25 ⊢
 obtain⟨m,hmm⟩:∃ m,ny=m+1:=⟨ny-1,by have h1:=HNy.out;have h2:=HYl.out;omega⟩
 have hmy:m<ny:=by omega
 have hmy2:m≤ny:=by omega
 have hmcy:m≤cy:=by omega
 have HTk:=Lib.hid (show y'.labs.take m=x.labs from by have h1:=HP4.out;rw[List.dropLast_eq_take,←HNy.out,hmm]at h1;exact h1.symm)
 have HMl:=Lib.hid (show m=nl from by rw[HNl.out,←HTk.out,List.length_take,←HNy.out];omega)
 have hwm:IntKind.i64.wrap ((ny:Int)-1)=(m:Int):=by rw[IntWalk.i64_in _ (by omega)];omega
 have i3:(0:Int)≤(m:Int):=by omega
 have i4:(m:Int)<(ny:Int):=by omega
 clear hmm
 obtain rfl:nl=m:=HMl.out.symm
 obtain⟨ad4,y2,hA,hy2,-,-,-,-,-⟩:=bG ((HK25.out.sl 0 rfl)) hmy
 subst hA
 clear hy2 y2
 refine wp_region_noPanic ?_
 refine wp_region_held_drew (S:=fun W'=>ai w [] X W' [.box (gy) 73 #[.string (sB y'.name),.slice (some ad4) ny cy,.int .i64 y'.val],.box (gx) 73 #[.string (sB x.name),.slice Al nl cl,.int .i64 x.val],.box (gf) 85 #[.string (sB nm),.string (sB hp),.int .i64 3,.slice (some ad3) n c]] [Sl.fact aj (some ad4) ny cy y'.labs,Sl.fact aj Al nl cl x.labs,Sl.fact ak (some ad3) n c ss]) (by kernel_rfl) HK25.out.drew (fun hHeld=>?_)
 refine tS 0 hHeld ?_
 refine tS 1 hHeld ?_ (hy:=by(intro W hSW;(try dsimp only at hSW);have q1:W.cell? ⟨gx,1,none⟩=some (.slice Al nl cl):=hSW.cell 1 rfl 1;go_simp;try with_reducible rfl))
 refine tS 2 hHeld ?_
 refine tS 3 hHeld ?_ (hy:=by(intro W hSW;(try dsimp only at hSW);have q1:W.cell? ⟨gy,1,none⟩=some (.slice (some ad4) ny cy):=hSW.cell 0 rfl 1;go_simp;try with_reducible rfl))
 refine tS 4 hHeld ?_
 refine tS 5 hHeld ?_ (hy:=by(intro W hSW;(try dsimp only at hSW);have q1:W.cell? ⟨gy,1,none⟩=some (.slice (some ad4) ny cy):=hSW.cell 0 rfl 1;go_simp;try with_reducible rfl))
 refine tS 6 hHeld ?_
 refine tS 7 hHeld ?_
 refine tS 8 hHeld ?_
 refine wpAnyH_ready (rs:=[9]) (by kernel_rfl) (by simp) ?_
 refine AllReadyH.cons rfl (fun K hK=>?_) AllReadyH.nil
 go_simp
 have hpre:=(hHeld.sl 0 rfl).pre hmy2
 rw[HTk.out]at hpre
 refine(qh Al (some ad4) nl cl cy _ x.labs _ (hHeld.sl 1 rfl) hpre hHeld.xok').mono ?_
 rintro e W2 ⟨rfl,hbW⟩
 refine hK.out _ _ (hHeld.on hbW) (fun hHeld=>?_)
 clear hK K
 try simp only[Act.put,sI,sZ,sS]
 refine tS 10 hHeld ?_
 refine wpAnyH_done (by kernel_rfl) ?_ _
 refine NoPanic.normal ?_
 have HKd:=Lib.hid hHeld
 clear hHeld HK25
 have c_f_0_26:W2.cell? ⟨gf,0,none⟩=some (.string (sB nm)):=HKd.out.cell 2 rfl 0
 have c_f_1_27:W2.cell? ⟨gf,1,none⟩=some (.string (sB hp)):=HKd.out.cell 2 rfl 1
 have c_f_2_28:W2.cell? ⟨gf,2,none⟩=some (.int .i64 3):=HKd.out.cell 2 rfl 2
 have c_f_3_29:W2.cell? ⟨gf,3,none⟩=some (.slice (some ad3) n c):=HKd.out.cell 2 rfl 3
 have c_x_0_30:W2.cell? ⟨gx,0,none⟩=some (.string (sB x.name)):=HKd.out.cell 1 rfl 0
 have c_x_1_31:W2.cell? ⟨gx,1,none⟩=some (.slice Al nl cl):=HKd.out.cell 1 rfl 1
 have c_x_2_32:W2.cell? ⟨gx,2,none⟩=some (.int .i64 x.val):=HKd.out.cell 1 rfl 2
 have c_y_0_33:W2.cell? ⟨gy,0,none⟩=some (.string (sB y'.name)):=HKd.out.cell 0 rfl 0
 have c_y_1_34:W2.cell? ⟨gy,1,none⟩=some (.slice (some ad4) ny cy):=HKd.out.cell 0 rfl 1
 have c_y_2_35:W2.cell? ⟨gy,2,none⟩=some (.int .i64 y'.val):=HKd.out.cell 0 rfl 2
 go_wp2
 go_ret
 exact⟨rfl,HKd.out.below⟩
end
section
open Go.RowKit
theorem KD (A Al:Option Addr) (n c nl cl:Nat) (X:List Nat) (nm hp:List UInt8) (ty:Nat) (ss:List aF) (x:aF) (w:World) (hs:Sl ak w X A n c ss) (hl:Sl aj w X Al nl cl x.labs) (hX:XOk X w) (hnm:nm.length≤64) (hF:jt nm ty ss x)
 (hyl:ty=3→9≤ss.length%11 → ∀ y,ss[ss.length-1-(ss.length%11-9)]?=some y→1≤y.labs.length):
 Calls Tryz.prog 63 #[.agg #[.string (sB nm),.string (sB hp),.int .i64 (ty:Int),.slice A n c],.agg #[.string (sB x.name),.slice Al nl cl,.int .i64 x.val]] w fun e w'=>e = .returned (.bool true)∧Below w.heap.size w w':=by
 by_cases h3:ty=3
 ·subst h3
  by_cases h9:ss.length%11<9
  ·by_cases h0:ss.length%11=0
   ·exact uG A Al n c nl cl X nm hp ss x w hs hl hX hnm hF h0
   ·exact vu A Al n c nl cl X nm hp ss x w hs hl hX hnm hF _ rfl h0 h9
  ·by_cases h0:ss.length%11=9
   ·exact zL A Al n c nl cl X nm hp ss x w hs hl hX hnm hF h0 (by have:=hyl rfl (by omega);rwa [h0]at this)
   ·have h10:ss.length%11=10:=by omega
    exact xR A Al n c nl cl X nm hp ss x w hs hl hX hnm hF h10 (by have:=hyl rfl (by omega);rwa [h10]at this)
 ·exact zv A Al n c nl cl X nm hp ty ss x w hs hl hX hnm hF h3
theorem zI {f:ax} (h:oZ f) {k:Nat} (hk:k≤f.smps.length) (h3:f.type=3) (h9:9≤(f.smps.take k).length%11):∀ y,(f.smps.take k)[(f.smps.take k).length-1-((f.smps.take k).length%11-9)]?=some y→1≤y.labs.length:=by
 have hl:(f.smps.take k).length=k:=by rw[List.length_take];omega
 rw[hl]at h9 ⊢
 intro y hy
 have hi:k-1-(k%11-9)<k:=by omega
 rw[List.getElem?_take_of_lt hi]at hy
 have hF:=h.fits _ y hy
 have hl2:(f.smps.take (k-1-(k%11-9))).length=k-1-(k%11-9):=by rw[List.length_take];omega
 have:=(hF.first h3 (by rw[hl2];omega)).2
 cases hq:y.labs with
 | nil=>rw[hq]at this;simp at this
 | cons a l=>simp
set_option maxHeartbeats 8000000 in
theorem tf (A:Option Addr) (n c:Nat) (X:List Nat) (f:ax) (w:World) (hl:Sl ak w X A n c f.smps) (hR:oZ f) (hX:XOk X w):
 Calls Tryz.prog 22 #[.agg #[.string (sB f.name),.string (sB f.help),.int .i64 (f.type:Int),.slice A n c]] w fun e w'=>e = .returned (.bool true)∧Below w.heap.size w w':=by
 have hn:=hl.len
 have HN:=Lib.hid hn
 have HL:=Lib.hid hl
 have hcn:n≤c:=hl.le
 have hcc:c≤9223372036854775807:=by have h3:=hl.max;simp only[maxLen]at h3;omega
 have hnm:=eR hR.named
 have hhp:=hR.help
 have ht1:=hR.t1
 have ht3:=hR.t3
 have hn4:n≤400:=by
  by_cases h0:n=0
  ·omega
  ·have hlt:n-1<f.smps.length:=by omega
   have:=(hR.fits (n-1) _ (List.getElem?_eq_getElem hlt)).few
   rw[List.length_take]at this
   omega
 have HR:=Lib.hid hR
 have b1:decide ((f.type:Int)<1)=false:=by simp;omega
 have b2:decide ((3:Int)<(f.type:Int))=false:=by simp;omega
 have b3:decide ((200:Int)<(f.help.length:Int))=false:=by simp;omega
 clear hR hn
 have HK1:Hid (ai w [] X (w.alloc (.cells #[.string (sB f.name),.string (sB f.help),.int .i64 (f.type:Int),.slice A n c] 85)) [.box (w.heap.size) 85 #[.string (sB f.name),.string (sB f.help),.int .i64 (f.type:Int),.slice A n c]] [Sl.fact ak A n c f.smps]):=(((ai.start w hX).alloc_at 85 #[.string (sB f.name),.string (sB f.help),.int .i64 (f.type:Int),.slice A n c] (w.heap.size) (by simp)).know0 (Sl.fact ak A n c f.smps) hl)
 clear hl hX
 go_enter Tryz.func22,Tryz.ntmps22
 have c_f_0_2:(w.alloc (.cells #[.string (sB f.name),.string (sB f.help),.int .i64 (f.type:Int),.slice A n c] 85)).cell? ⟨w.heap.size,0,none⟩=some (.string (sB f.name)):=HK1.out.cell 0 rfl 0
 have c_f_1_3:(w.alloc (.cells #[.string (sB f.name),.string (sB f.help),.int .i64 (f.type:Int),.slice A n c] 85)).cell? ⟨w.heap.size,1,none⟩=some (.string (sB f.help)):=HK1.out.cell 0 rfl 1
 have c_f_2_4:(w.alloc (.cells #[.string (sB f.name),.string (sB f.help),.int .i64 (f.type:Int),.slice A n c] 85)).cell? ⟨w.heap.size,2,none⟩=some (.int .i64 (f.type:Int)):=HK1.out.cell 0 rfl 2
 have c_f_3_5:(w.alloc (.cells #[.string (sB f.name),.string (sB f.help),.int .i64 (f.type:Int),.slice A n c] 85)).cell? ⟨w.heap.size,3,none⟩=some (.slice A n c):=HK1.out.cell 0 rfl 3
 go_wp2_with fail
 refine(sG (sB f.name) (show bp (sB f.name).data.toList=true from by rw[show(sB f.name).data.toList=f.name from by simp[sB]];exact HR.out.named) _).mono ?_
 rintro e W ⟨rfl,rfl⟩
 go_wp2_with fail
 refine(Bu A n c _ f _ ((HK1.out.sl 0 rfl)) HR.out.whole).mono ?_
 rintro e w2 ⟨rfl,hb2⟩
 clear c_f_0_2 c_f_1_3 c_f_2_4 c_f_3_5
 clear b1 b2 b3
 have HK6:Hid (ai w [] X w2 [.box (w.heap.size) 85 #[.string (sB f.name),.string (sB f.help),.int .i64 (f.type:Int),.slice A n c]] [Sl.fact ak A n c f.smps]):=(HK1.out.on hb2)
 clear HK1
 clear hb2
 obtain⟨gf,hgf⟩:∃ gf,gf=w.heap.size:=⟨_,rfl⟩
 have hK1:=HK6.out
 rw[←hgf]at hK1 ⊢
 clear hgf HK6
 have HKf:=Lib.hid hK1
 clear hK1
 have c_f_0_7:w2.cell? ⟨gf,0,none⟩=some (.string (sB f.name)):=HKf.out.cell 0 rfl 0
 have c_f_1_8:w2.cell? ⟨gf,1,none⟩=some (.string (sB f.help)):=HKf.out.cell 0 rfl 1
 have c_f_2_9:w2.cell? ⟨gf,2,none⟩=some (.int .i64 (f.type:Int)):=HKf.out.cell 0 rfl 2
 have c_f_3_10:w2.cell? ⟨gf,3,none⟩=some (.slice A n c):=HKf.out.cell 0 rfl 3
 have HK11:Hid (ai w [] X (w2.alloc (.cells #[.string (sB f.name),.string (sB f.help),.int .i64 (f.type:Int),.slice none 0 0] 85)) [.box (w2.heap.size) 85 #[.string (sB f.name),.string (sB f.help),.int .i64 (f.type:Int),.slice none 0 0],.row 73 3 (.slice none 0 0) (0) ([]),.box (gf) 85 #[.string (sB f.name),.string (sB f.help),.int .i64 (f.type:Int),.slice A n c]] [Ra.fact ak [] [],Sl.fact ak A n c f.smps]):=((HKf.out.ra_nil ak).nil_row 73 3).alloc_at 85 #[.string (sB f.name),.string (sB f.help),.int .i64 (f.type:Int),.slice none 0 0] w2.heap.size rfl
 clear HKf
 go_wp2
 clear c_f_0_7 c_f_1_8 c_f_2_9 c_f_3_10
 generalize w2.alloc (.cells #[.string (sB f.name),.string (sB f.help),.int .i64 (f.type:Int),.slice none 0 0] 85)=w3 at HK11 ⊢
 generalize w2.heap.size=gg at HK11 ⊢
 go_loopw [4] (fun i wr => ∃ (k:Nat) (v:Value) (scs:List Value),k≤n∧i = .int .i64 k∧Hid (ai w [] X wr [.box gg 85 #[.string (sB f.name),.string (sB f.help),.int .i64 (f.type:Int),v],.row 73 3 (v) (k) (scs),.box gf 85 #[.string (sB f.name),.string (sB f.help),.int .i64 (f.type:Int),.slice A n c]] [Ra.fact ak (scs) (f.smps.take k),Sl.fact ak A n c f.smps])) (fun i _=>n-(intOf i).toNat)
 case atStart=>exact⟨0,_,_,Nat.zero_le _,rfl,HK11⟩
 case round=>
  clear HK11
  obtain⟨k,v,scs,hk,rfl,HK⟩:=hrel
  by_cases hlt:k<n
  ·skip
   obtain⟨Ag,cg,hv,-⟩:=HK.out.done_row (s:=ak) 1 rfl (HK.out.ra 0 rfl) (by decide) (by simp)
   subst hv
   obtain⟨ad,x,Al,nl,cl,hA,hx,-,d0,d1,d2,hSl,hi6,hnz⟩:=cL HL.out hlt
   subst hA
   have HX:=Lib.hid hx
   have HI6:=Lib.hid hi6
   have i1:(0:Int)≤(k:Int):=by omega
   have i2:(k:Int)<(n:Int):=by omega
   have hkl:k≤f.smps.length:=by rw[←HN.out];omega
   have HF:=Lib.hid (HR.out.fits k x hx)
   have HA:=Lib.hid (zI HR.out hkl)
   have hbl:(ad.add (k*3)).block<w.heap.size:=World.block_lt_of_cell? w _ d0
   have HD0:=Lib.hid d0
   have HD1:=Lib.hid d1
   have HD2:=Lib.hid d2
   clear hx d0 d1 d2 hi6 hkl
   have HK12:Hid (ai w [] X wr [.box (gg) 85 #[.string (sB f.name),.string (sB f.help),.int .i64 (f.type:Int),.slice Ag k cg],.row 73 3 (.slice Ag k cg) (k) (scs),.box (gf) 85 #[.string (sB f.name),.string (sB f.help),.int .i64 (f.type:Int),.slice (some ad) n c]] [Sl.fact aj Al nl cl x.labs,Ra.fact ak scs (f.smps.take k),Sl.fact ak (some ad) n c f.smps]):=HK.out.know0 (Sl.fact aj Al nl cl x.labs) hSl
   clear HK
   clear hSl
   have c_f_0_13:wr.cell? ⟨gf,0,none⟩=some (.string (sB f.name)):=HK12.out.cell 2 rfl 0
   have c_f_1_14:wr.cell? ⟨gf,1,none⟩=some (.string (sB f.help)):=HK12.out.cell 2 rfl 1
   have c_f_2_15:wr.cell? ⟨gf,2,none⟩=some (.int .i64 (f.type:Int)):=HK12.out.cell 2 rfl 2
   have c_f_3_16:wr.cell? ⟨gf,3,none⟩=some (.slice (some ad) n c):=HK12.out.cell 2 rfl 3
   go_wp2_with fail
   clear c_f_0_13 c_f_1_14 c_f_2_15 c_f_3_16
   refine wp_region_noPanic ?_
   refine wp_region_held_drew (S:=fun W'=>ai w [] X W' [.box (gg) 85 #[.string (sB f.name),.string (sB f.help),.int .i64 (f.type:Int),.slice Ag k cg],.row 73 3 (.slice Ag k cg) (k) (scs),.box (gf) 85 #[.string (sB f.name),.string (sB f.help),.int .i64 (f.type:Int),.slice (some ad) n c]] [Sl.fact aj Al nl cl x.labs,Ra.fact ak scs (f.smps.take k),Sl.fact ak (some ad) n c f.smps]) (by kernel_rfl) HK12.out.drew (fun hHeld=>?_)
   refine tS 0 hHeld ?_ (hy:=by(intro W hSW;(try dsimp only at hSW);have q0:W.cell? ⟨gg,0,none⟩=some (.string (sB f.name)):=hSW.cell 0 rfl 0;have q1:W.cell? ⟨gg,1,none⟩=some (.string (sB f.help)):=hSW.cell 0 rfl 1;have q2:W.cell? ⟨gg,2,none⟩=some (.int .i64 (f.type:Int)):=hSW.cell 0 rfl 2;have q3:W.cell? ⟨gg,3,none⟩=some (.slice Ag k cg):=hSW.cell 0 rfl 3;go_simp;try with_reducible rfl))
   refine tS 1 hHeld ?_
   refine tS 2 hHeld ?_ (hy:=by(intro W hSW;(try dsimp only at hSW);have q3:W.cell? ⟨gf,3,none⟩=some (.slice (some ad) n c):=hSW.cell 2 rfl 3;go_simp;try with_reducible rfl))
   refine tS 3 hHeld ?_
   refine tS 4 hHeld ?_
   refine tS 5 hHeld ?_ (hy:=by(intro W hSW;(try dsimp only at hSW);have q0:=(hSW.below.cell (p:=ad.add (k*3)) hbl).trans HD0.out;have q1:=(hSW.below.cell (p:=⟨(ad.add (k*3)).block,(ad.add (k*3)).off+1,none⟩) hbl).trans HD1.out;have q2:=(hSW.below.cell (p:=⟨(ad.add (k*3)).block,(ad.add (k*3)).off+2,none⟩) hbl).trans HD2.out;go_simp;try with_reducible rfl))
   refine wpAnyH_ready (rs:=[6]) (by kernel_rfl) (by simp) ?_
   refine AllReadyH.cons rfl (fun K hK=>?_) AllReadyH.nil
   go_simp
   obtain⟨A2,c2,hv2,hD⟩:=hHeld.done_row (s:=ak) 1 rfl (hHeld.ra 1 rfl) (by decide) (by simp)
   injection hv2 with hv1 hv2 hv3
   subst hv1 hv3
   have hs1:Sl ak _ X Ag k cg (f.smps.take k):=(hD.sl 0 rfl).more (fun b _ hb=>List.mem_append_right _ hb)
   have hl1:Sl aj _ X Al nl cl x.labs:=(hHeld.sl 0 rfl).more (fun b _ hb=>List.mem_append_right _ hb)
   refine(KD Ag Al k cg nl cl X f.name f.help f.type (f.smps.take k) x _ hs1 hl1 (fun b hb=>hHeld.xok' b (List.mem_append_right _ hb)) hnm HF.out HA.out).mono ?_
   rintro e W ⟨rfl,hbW⟩
   refine hK.out _ _ (hHeld.on hbW) (fun hHeld=>?_)
   clear hK K
   try simp only[Act.put,sI,sZ,sS]
   refine tS 7 hHeld ?_
   refine wpAnyH_done (by kernel_rfl) ?_ _
   refine NoPanic.normal ?_
   have HKd:=Lib.hid hHeld
   clear hHeld HK12
   go_wp2_with fail
   refine wp_region_noPanic ?_
   refine wp_region_held_drew (S:=fun W' => ∃ u v' m' xs',ai w [] X W' [.box gg 85 #[.string (sB f.name),.string (sB f.help),.int .i64 (f.type:Int),u],.row 73 3 v' m' xs',.box gf 85 #[.string (sB f.name),.string (sB f.help),.int .i64 (f.type:Int),.slice (some ad) n c]] [Sl.fact aj Al nl cl x.labs,Ra.fact ak scs (f.smps.take k),Sl.fact ak (some ad) n c f.smps]) (by kernel_rfl) ⟨_,_,_,_,HKd.out.drew⟩ (fun hHeld=>?_)
   have HK17:Hid (ai w [] X W.drew [.box (gg) 85 #[.string (sB f.name),.string (sB f.help),.int .i64 (f.type:Int),.slice Ag k cg],.row 73 3 (.slice Ag k cg) (k) (scs),.box (gf) 85 #[.string (sB f.name),.string (sB f.help),.int .i64 (f.type:Int),.slice (some ad) n c]] [Sl.fact aj Al nl cl x.labs,Ra.fact ak scs (f.smps.take k),Sl.fact ak (some ad) n c f.smps]):=HKd.out.drew
   clear HKd
   generalize W.drew=wd at hHeld HK17 ⊢
   refine tS 0 hHeld ?_
   refine tS 2 hHeld ?_
   refine tS 3 hHeld ?_ (hy:=by(intro W hSW;(try dsimp only at hSW);obtain⟨u',v',m',xs',hs⟩:=hSW;have q3:W.cell? ⟨gf,3,none⟩=some (.slice (some ad) n c):=hs.cell 2 rfl 3;go_simp;try with_reducible rfl))
   refine tS 4 hHeld ?_
   refine tS 5 hHeld ?_
   refine tS 6 hHeld ?_ (hy:=by(intro W hSW;(try dsimp only at hSW);obtain⟨u',v',m',xs',hs⟩:=hSW;have q0:=(hs.below.cell (p:=ad.add (k*3)) hbl).trans HD0.out;have q1:=(hs.below.cell (p:=⟨(ad.add (k*3)).block,(ad.add (k*3)).off+1,none⟩) hbl).trans HD1.out;have q2:=(hs.below.cell (p:=⟨(ad.add (k*3)).block,(ad.add (k*3)).off+2,none⟩) hbl).trans HD2.out;go_simp;try with_reducible rfl))
   have r7:wd.cell? ⟨gg,3,none⟩=some (.slice Ag k cg):=HK17.out.cell 0 rfl 3
   have r8:(wd.alloc (.cells #[.string (sB x.name),.slice Al nl cl,.int .i64 x.val] 73)).cell? ⟨gg,3,none⟩=some (.slice Ag k cg):=(HK17.out.alloc_off (.cells #[.string (sB x.name),.slice Al nl cl,.int .i64 x.val] 73)).cell 0 rfl 3
   refine mL (G:=?G) ?main ?key
   case main=>
    intro hkey
    refine wpAnyH_ready (rs:=[1,7]) (by kernel_rfl) (by simp) ?_
    refine AllReadyH.cons rfl (fun K hK=>?_) (AllReadyH.cons rfl (fun K hK=>?_) AllReadyH.nil)
    ·go_simp
     refine hK.out _ _ hHeld (fun hHeld=>?_)
     clear hK K
     try simp only[Act.put,sI,sZ,sS]
     refine wpAnyH_ready (rs:=[7]) (by kernel_rfl) (by simp) ?_
     refine AllReadyH.cons rfl (fun K hK=>?_) AllReadyH.nil
     go_simp
     refine hK.out _ _ ⟨_,_,_,_,HK17.out.alloc_off (.cells #[.string (sB x.name),.slice Al nl cl,.int .i64 x.val] 73)⟩ (fun hHeld=>?_)
     clear hK K
     try simp only[Act.put,sI,sZ,sS]
     clear hHeld
     exact hkey.out
    ·go_simp
     refine hK.out _ _ ⟨_,_,_,_,HK17.out.alloc_off (.cells #[.string (sB x.name),.slice Al nl cl,.int .i64 x.val] 73)⟩ (fun hHeld=>?_)
     clear hK K
     try simp only[Act.put,sI,sZ,sS]
     refine wpAnyH_ready (rs:=[1]) (by kernel_rfl) (by simp) ?_
     refine AllReadyH.cons rfl (fun K hK=>?_) AllReadyH.nil
     go_simp
     refine hK.out _ _ hHeld (fun hHeld=>?_)
     clear hK K
     try simp only[Act.put,sI,sZ,sS]
     clear hHeld
     exact hkey.out
   case key=>
    clear r7 r8
    clear hHeld
    have hHeld:(fun W' => ∃ u v' m' xs',ai w [] X W' [.box gg 85 #[.string (sB f.name),.string (sB f.help),.int .i64 (f.type:Int),u],.row 73 3 v' m' xs',.box gf 85 #[.string (sB f.name),.string (sB f.help),.int .i64 (f.type:Int),.slice (some ad) n c]] [Sl.fact aj Al nl cl x.labs,Ra.fact ak scs (f.smps.take k),Sl.fact ak (some ad) n c f.smps]) (wd.alloc (.cells #[.string (sB x.name),.slice Al nl cl,.int .i64 x.val] 73)):=⟨_,_,_,_,HK17.out.alloc_off (.cells #[.string (sB x.name),.slice Al nl cl,.int .i64 x.val] 73)⟩
    refine wpAnyH_ready (rs:=[8]) (by kernel_rfl) (by simp) ?_
    refine AllReadyH.cons rfl (fun K hK=>?_) AllReadyH.nil
    refine dI HK17.out 1 rfl (.tmp 53) (.tmp 59) 83 rfl Eh rfl rfl rfl (cs:=#[.string (sB x.name),.slice Al nl cl,.int .i64 x.val]) rfl (by simp[Value.oneCell']) (by unfold maxLen;omega) (by omega) ?_
    intro v2 w4 hk4
    have HK18:Hid (ai w [] X w4 [.box (gg) 85 #[.string (sB f.name),.string (sB f.help),.int .i64 (f.type:Int),.slice Ag k cg],.row 73 3 (v2) (k+1) (scs++#[.string (sB x.name),.slice Al nl cl,.int .i64 x.val].toList),.box (gf) 85 #[.string (sB f.name),.string (sB f.help),.int .i64 (f.type:Int),.slice (some ad) n c]] [Sl.fact aj Al nl cl x.labs,Ra.fact ak scs (f.smps.take k),Sl.fact ak (some ad) n c f.smps]):=hk4
    clear HK17
    clear hk4
    refine hK.out _ _ ⟨_,_,_,_,HK18.out⟩ (fun hHeld=>?_)
    clear hK K
    try simp only[Act.put,sI,sZ,sS]
    refine tS 9 hHeld ?_
    obtain⟨gs2,cap2,rfl⟩:=pG HK18.out (i:=1) rfl (by omega)
    have r7:w4.cell? ⟨gg,3,none⟩=some (.slice Ag k cg):=HK18.out.cell 0 rfl 3
    have r8:w4.frozen? ⟨gg,3,none⟩=false:=HK18.out.frozen 0 rfl 3
    refine wpAnyH_ready (rs:=[10]) (by kernel_rfl) (by simp) ?_
    refine AllReadyH.cons rfl (fun K hK=>?_) AllReadyH.nil
    go_simp
    refine hK.out _ _ ⟨_,_,_,_,HK18.out.set_ 0 rfl 3 (.slice (some ⟨gs2,0,none⟩) (k+1) cap2)⟩ (fun hHeld=>?_)
    clear hK K
    try simp only[Act.put,sI,sZ,sS]
    refine wpAnyH_done (by kernel_rfl) ?_ _
    refine NoPanic.normal ?_
    clear hHeld r7 r8
    have HK19:Hid (ai w [] X (w4.setCell ⟨gg,3,none⟩ (.slice (some ⟨gs2,0,none⟩) (k+1) cap2)) [.box (gg) 85 #[.string (sB f.name),.string (sB f.help),.int .i64 (f.type:Int),.slice (some ⟨gs2,0,none⟩) (k+1) cap2],.row 73 3 (.slice (some ⟨gs2,0,none⟩) (k+1) cap2) (k+1) (scs++#[.string (sB x.name),.slice Al nl cl,.int .i64 x.val].toList),.box (gf) 85 #[.string (sB f.name),.string (sB f.help),.int .i64 (f.type:Int),.slice (some ad) n c]] [Sl.fact aj Al nl cl x.labs,Ra.fact ak scs (f.smps.take k),Sl.fact ak (some ad) n c f.smps]):=HK18.out.set_ 0 rfl 3 (.slice (some ⟨gs2,0,none⟩) (k+1) cap2)
    clear HK18
    generalize w4.setCell ⟨gg,3,none⟩ (.slice (some ⟨gs2,0,none⟩) (k+1) cap2)=w5 at HK19 ⊢
    have HT:=Lib.hid (show f.smps.take k ++ [x]=f.smps.take (k+1) from by rw[List.take_add_one,HX.out];rfl)
    have HK20:=Lib.hid (show ai w [] X w5 [.box (gg) 85 #[.string (sB f.name),.string (sB f.help),.int .i64 (f.type:Int),.slice (some ⟨gs2,0,none⟩) (k+1) cap2],.row 73 3 (.slice (some ⟨gs2,0,none⟩) (k+1) cap2) (k+1) (scs++#[.string (sB x.name),.slice Al nl cl,.int .i64 x.val].toList),.box (gf) 85 #[.string (sB f.name),.string (sB f.help),.int .i64 (f.type:Int),.slice (some ad) n c]] [Ra.fact ak (scs++#[.string (sB x.name),.slice Al nl cl,.int .i64 x.val].toList) (f.smps.take (k+1)),Sl.fact aj Al nl cl x.labs,Ra.fact ak scs (f.smps.take k),Sl.fact ak (some ad) n c f.smps] from HK19.out.know (Ra.fact ak (scs++#[.string (sB x.name),.slice Al nl cl,.int .i64 x.val].toList) (f.smps.take (k+1))) (HT.out ▸ (HK19.out.ra 1 rfl).snoc ⟨Al,nl,cl,rfl,HK19.out.sl 0 rfl,HI6.out,hnz⟩))
    clear HK19
    have HK21:Hid (ai w [] X w5 [.box (gg) 85 #[.string (sB f.name),.string (sB f.help),.int .i64 (f.type:Int),.slice (some ⟨gs2,0,none⟩) (k+1) cap2],.row 73 3 (.slice (some ⟨gs2,0,none⟩) (k+1) cap2) (k+1) (scs++#[.string (sB x.name),.slice Al nl cl,.int .i64 x.val].toList),.box (gf) 85 #[.string (sB f.name),.string (sB f.help),.int .i64 (f.type:Int),.slice (some ad) n c]] [Ra.fact ak (scs++#[.string (sB x.name),.slice Al nl cl,.int .i64 x.val].toList) (f.smps.take (k+1)),Sl.fact ak (some ad) n c f.smps]):=HK20.out.forget (List.Sublist.cons_cons _ (List.Sublist.cons _ (List.Sublist.cons _ (List.Sublist.refl _))))
    clear HK20
    go_wp2
    exact⟨⟨k+1,_,_,by omega,by simp,HK21⟩,by simp[intOf];omega⟩
  ·obtain rfl:n=k:=by omega
   have c_f_0_12:wr.cell? ⟨gf,0,none⟩=some (.string (sB f.name)):=HK.out.cell 2 rfl 0
   have c_f_1_13:wr.cell? ⟨gf,1,none⟩=some (.string (sB f.help)):=HK.out.cell 2 rfl 1
   have c_f_2_14:wr.cell? ⟨gf,2,none⟩=some (.int .i64 (f.type:Int)):=HK.out.cell 2 rfl 2
   have c_f_3_15:wr.cell? ⟨gf,3,none⟩=some (.slice A n c):=HK.out.cell 2 rfl 3
   go_wp2
   go_ret
   exact⟨rfl,HK.out.below⟩
end
section
open Go.RowKit
set_option maxHeartbeats 8000000 in
theorem Im (A:Option Addr) (n c:Nat) (X:List Nat) (l:List ax) (w:World) (hl:Sl az w X A n c l) (hA:Jz l) (hX:XOk X w):
 Calls Tryz.prog 7 #[.slice A n c] w fun e w'=>e = .returned (.bool true)∧Below w.heap.size w w':=by
 have hn:=hl.len
 have hn4:n≤40:=by rw[hn];exact hA.many
 have hcn:n≤c:=hl.le
 have hcc:c≤9223372036854775807:=by have h3:=hl.max;simp only[maxLen]at h3;omega
 have HA:=Lib.hid hA
 have HL:=Lib.hid hl
 have HK0:=Lib.hid ((ai.start w hX).know0 (Sl.fact az A n c l) hl)
 clear hl hA hX hn
 go_enter Tryz.func7,Tryz.ntmps7
 go_wp2
 go_loopw [3] (fun i wr => ∃ k:Nat,k≤n∧i = .int .i64 k∧Hid (ai w [] X wr [] [Sl.fact az A n c l])) (fun i _=>n-(intOf i).toNat)
 case atStart=>exact⟨0,Nat.zero_le _,rfl,HK0⟩
 case round=>
  clear HK0
  obtain⟨k,hk,rfl,HK⟩:=hrel
  by_cases hlt:k<n
  ·obtain⟨ad,f,As,ns,cs,hA,hf,-,d0,d1,d2,d3,hS,-,-,-⟩:=kZ HL.out hlt
   subst hA
   have HF:=Lib.hid hf
   have i1:(0:Int)≤(k:Int):=by omega
   have i2:(k:Int)<(n:Int):=by omega
   have hbl:(ad.add (k*4)).block<w.heap.size:=World.block_lt_of_cell? w _ d0
   have HD0:=Lib.hid d0
   have HD1:=Lib.hid d1
   have HD2:=Lib.hid d2
   have HD3:=Lib.hid d3
   have HK1:=Lib.hid (HK.out.know0 (Sl.fact ak As ns cs f.smps) hS)
   clear hf d0 d1 d2 d3 hS HK
   go_wp2_with fail
   by_cases h0:k=0
   ·have HZ:=Lib.hid h0
    clear h0
    refine wp_region_noPanic ?_
    refine wp_region_held_drew (S:=fun W'=>ai w [] X W' [] [Sl.fact ak As ns cs f.smps,Sl.fact az (some ad) n c l]) (by kernel_rfl) HK1.out.drew (fun hHeld=>?_)
    refine tS 0 hHeld ?_
    refine tS 1 hHeld ?_
    refine tS 2 hHeld ?_
    refine tS 3 hHeld ?_ (hy:=by(intro W hSW;(try dsimp only at hSW);have q0:=(hSW.below.cell (p:=ad.add (k*4)) hbl).trans HD0.out;have q1:=(hSW.below.cell (p:=⟨(ad.add (k*4)).block,(ad.add (k*4)).off+1,none⟩) hbl).trans HD1.out;have q2:=(hSW.below.cell (p:=⟨(ad.add (k*4)).block,(ad.add (k*4)).off+2,none⟩) hbl).trans HD2.out;have q3:=(hSW.below.cell (p:=⟨(ad.add (k*4)).block,(ad.add (k*4)).off+3,none⟩) hbl).trans HD3.out;go_simp;try with_reducible rfl))
    refine wpAnyH_ready (rs:=[4]) (by kernel_rfl) (by simp) ?_
    refine AllReadyH.cons rfl (fun K hK=>?_) AllReadyH.nil
    go_simp
    refine(tf As ns cs _ f _ (hHeld.sl 0 rfl) (HA.out.right k f HF.out) hHeld.xok').mono ?_
    rintro e W ⟨rfl,hbW⟩
    refine hK.out _ _ (hHeld.on hbW) (fun hHeld=>?_)
    clear hK K
    try simp only[Act.put,sI,sZ,sS]
    refine tS 5 hHeld ?_
    refine tS 6 hHeld ?_
    refine tS 7 hHeld ?_
    refine aa 8 (v:=(.bool false)) rfl (by kernel_rfl) (by kernel_rfl) (by kernel_rfl) rfl (fun _ _ _ h=>h) (Or.inl ⟨by rfl,?y8u8⟩) hHeld ?r8u8
    case y8u8=>(intro W hSW;(try dsimp only at hSW);go_simp;exact HZ.out)
    simp only[Act.put,sI,sZ,sS]
    refine tS 9 hHeld ?_
    refine tU 10 hHeld ?_
    refine tU 11 hHeld ?_
    refine tU 12 hHeld ?_
    refine tU 13 hHeld ?_
    refine tU 14 hHeld ?_
    refine tU 15 hHeld ?_
    refine tU 16 hHeld ?_
    refine tU 17 hHeld ?_
    refine tU 18 hHeld ?_
    refine tU 19 hHeld ?_
    refine tU 20 hHeld ?_
    refine tU 21 hHeld ?_
    refine tS 22 hHeld ?_
    refine tS 23 hHeld ?_
    refine wpAnyH_done (by kernel_rfl) ?_ _
    refine NoPanic.normal ?_
    have HKd:=Lib.hid (hHeld.forget (F':=[Sl.fact az (some ad) n c l]) (List.Sublist.cons _ (List.Sublist.refl _)))
    clear hHeld HK1
    go_wp2
    exact⟨⟨k+1,by omega,by first | (simp;done) | (simp;omega),HKd⟩,by first | (simp[intOf];done) | (simp[intOf];omega)⟩
   ·have e0:decide ((0:Int)<(k:Int))=true:=by simp;omega
    have e1:0<k:=by omega
    have e2:decide (0<k)=true:=decide_eq_true e1
    obtain⟨p,hp⟩:∃ p,k=p+1:=⟨k-1,by omega⟩
    have hwm:IntKind.i64.wrap ((k:Int)-1)=(p:Int):=by rw[IntWalk.i64_in _ (by omega)];omega
    have i3:(0:Int)≤(p:Int):=by omega
    have i4:(p:Int)<(n:Int):=by omega
    obtain⟨adz,fp,Ag,ng,cg,hAz,hfp,-,g0,-,-,-,-,-,-,-⟩:=kZ HL.out (show p<n by omega)
    injection hAz with hAz
    subst hAz
    have b0:Op.bytesLess fp.name f.name=true:=HA.out.asc p fp f hfp (by rw[←hp];exact HF.out)
    have b1:Op.bytesLess f.name fp.name=false:=tH _ _ b0
    have b2:(f.name == fp.name)=false:=by rw[ou,decide_eq_false];intro he;rw[he]at b0;exact absurd ((qP _).symm.trans b0) (by decide)
    have hblp:(ad.add (p*4)).block<w.heap.size:=World.block_lt_of_cell? w _ g0
    have HDp:=Lib.hid g0
    clear hfp hp h0 g0
    refine wp_region_noPanic ?_
    refine wp_region_held_drew (S:=fun W'=>ai w [] X W' [] [Sl.fact ak As ns cs f.smps,Sl.fact az (some ad) n c l]) (by kernel_rfl) HK1.out.drew (fun hHeld=>?_)
    refine tS 0 hHeld ?_
    refine tS 1 hHeld ?_
    refine tS 2 hHeld ?_
    refine tS 3 hHeld ?_ (hy:=by(intro W hSW;(try dsimp only at hSW);have q0:=(hSW.below.cell (p:=ad.add (k*4)) hbl).trans HD0.out;have q1:=(hSW.below.cell (p:=⟨(ad.add (k*4)).block,(ad.add (k*4)).off+1,none⟩) hbl).trans HD1.out;have q2:=(hSW.below.cell (p:=⟨(ad.add (k*4)).block,(ad.add (k*4)).off+2,none⟩) hbl).trans HD2.out;have q3:=(hSW.below.cell (p:=⟨(ad.add (k*4)).block,(ad.add (k*4)).off+3,none⟩) hbl).trans HD3.out;go_simp;try with_reducible rfl))
    refine wpAnyH_ready (rs:=[4]) (by kernel_rfl) (by simp) ?_
    refine AllReadyH.cons rfl (fun K hK=>?_) AllReadyH.nil
    go_simp
    refine(tf As ns cs _ f _ (hHeld.sl 0 rfl) (HA.out.right k f HF.out) hHeld.xok').mono ?_
    rintro e W ⟨rfl,hbW⟩
    refine hK.out _ _ (hHeld.on hbW) (fun hHeld=>?_)
    clear hK K
    try simp only[Act.put,sI,sZ,sS]
    refine tS 5 hHeld ?_
    refine tS 6 hHeld ?_
    refine tS 7 hHeld ?_
    refine tS 8 hHeld ?_
    refine tS 9 hHeld ?_
    refine tS 10 hHeld ?_
    refine tS 11 hHeld ?_
    refine tS 12 hHeld ?_
    refine tS 13 hHeld ?_
    refine tS 14 hHeld ?_ (hy:=by(intro W hSW;(try dsimp only at hSW);have q0:=(hSW.below.cell (p:=ad.add (k*4)) hbl).trans HD0.out;go_simp;try with_reducible rfl))
    refine tS 15 hHeld ?_
    refine tS 16 hHeld ?_
    refine tS 17 hHeld ?_
    refine tS 18 hHeld ?_
    refine tS 19 hHeld ?_
    refine tS 20 hHeld ?_ (hy:=by(intro W hSW;(try dsimp only at hSW);have q0:=(hSW.below.cell (p:=ad.add (p*4)) hblp).trans HDp.out;go_simp;try with_reducible rfl))
    refine tS 21 hHeld ?_
    refine tS 22 hHeld ?_
    refine tS 23 hHeld ?_
    refine wpAnyH_done (by kernel_rfl) ?_ _
    refine NoPanic.normal ?_
    have HKd:=Lib.hid (hHeld.forget (F':=[Sl.fact az (some ad) n c l]) (List.Sublist.cons _ (List.Sublist.refl _)))
    clear hHeld HK1
    go_wp2
    exact⟨⟨k+1,by omega,by first | (simp;done) | (simp;omega),HKd⟩,by first | (simp[intOf];done) | (simp[intOf];omega)⟩
  ·obtain rfl:n=k:=by omega
   have b1:decide ((n:Int)≤40)=true:=by simp;omega
   go_wp2
   go_ret
   exact⟨rfl,HK.out.below⟩
end
section
open Go.RowKit
theorem zA {s:List UInt8} {k:Nat} {x:UInt8} (h:s[k]?=some x) (lines fr lg:Nat):
 dm (s.drop k) lines fr k lg=if x=10 then dm (s.drop (k+1)) (lines+1) (k+1) (k+1) lg else dm (s.drop (k+1)) lines fr (k+1) (max lg (k+1-fr)):=by
 have hk:=(List.getElem?_eq_some_iff.1 h).1
 have hx:=(List.getElem?_eq_some_iff.1 h).2
 rw[List.drop_eq_getElem_cons hk,hx]
 unfold dm
 split
 ·rw[Nat.sub_self,Nat.max_zero]
  cases s.drop (k+1)<;>rfl
 ·cases s.drop (k+1)<;>rfl
set_option maxHeartbeats 8000000 in
theorem FL (s:ByteArray) (w:World) (hs:s.size≤20000) (hW:Calls Tryz.prog 4 #[] w fun e w'=>e = .returned (.bool true)∧Below w.heap.size w w') (hP:jT w) (hM:kD w) (hT:jc w) (l:List ax) (hR:jS s.data.toList = .ok l):
 Calls Tryz.prog 3 #[.string s] w fun e w'=>e = .returned (.bool true)∧Below w.heap.size w w':=by
 have hg:=pI s.data.toList
 rw[hR]at hg
 have HS:=Lib.hid (show sB (cx l)=s from by rw[hg.1,List.nil_append])
 have HA:=Lib.hid (AW hg.2.1)
 have HB:=Lib.hid (Em hg.2.2)
 have b1:decide ((20000:Int)<(s.size:Int))=false:=by simp;omega
 have HR:=Lib.hid hR
 have HP:=Lib.hid hP
 have HM:=Lib.hid hM
 have HT:=Lib.hid hT
 have hX:XOk [] w:=fun b hb=>by cases hb
 have HK0:=Lib.hid (ai.start w hX)
 clear hg hR hP hM hT hX
 go_enter Tryz.func3,Tryz.ntmps3
 go_wp2_with fail
 refine hW.mono ?_
 rintro e w1 ⟨rfl,hb1⟩
 have HK1:=Lib.hid (HK0.out.on hb1)
 clear hb1 HK0 hW
 go_wp2_with fail
 refine(vq s [] w1 hs (fun b hb=>by cases hb) (HP.out.on HK1.out.below)).mono ?_
 rw[HR.out]
 rintro e w2 ⟨A,n,c,rfl,hl,hb2⟩
 have HK2:=Lib.hid ((HK1.out.on hb2).know (Sl.fact az A n c l) hl)
 clear hb2 hl HK1 b1
 have HK3:=Lib.hid (HK2.out.alloc_off (.cells #[.int .i64 0,.int .i64 0] 25))
 clear HK2
 go_wp2_with fail
 refine(zT A n c [] l _ (HK3.out.sl 0 rfl) HA.out (fun b hb=>by cases hb) (HM.out.on HK3.out.below) (HT.out.on HK3.out.below)).mono ?_
 rw[HS.out]
 rintro e w4 ⟨rfl,hb4⟩
 have HK4:=Lib.hid (HK3.out.on hb4)
 clear hb4 HK3
 go_wp2_with fail
 refine(Im A n c [] l _ (HK4.out.sl 0 rfl) HB.out (fun b hb=>by cases hb)).mono ?_
 rintro e w5 ⟨rfl,hb5⟩
 have HB5:=Lib.hid (HK4.out.on hb5).below
 clear hb5 HK4
 go_wp2
 go_ret
 exact⟨rfl,HB5.out⟩
set_option maxHeartbeats 8000000 in
theorem Ec (s:ByteArray) (w:World) (hs:s.size≤20000) (hW:Calls Tryz.prog 4 #[] w fun e w'=>e = .returned (.bool true)∧Below w.heap.size w w') (hP:jT w) (fa fb:Nat) (hR:jS s.data.toList = .bad fa fb):
 Calls Tryz.prog 3 #[.string s] w fun e w'=>e = .returned (.bool true)∧Below w.heap.size w w':=by
 have hg:=pI s.data.toList
 rw[hR]at hg
 have HG:=Lib.hid hg
 have HSz:=Lib.hid (show s.data.toList.length=s.size from by simp)
 have b1:decide ((20000:Int)<(s.size:Int))=false:=by simp;omega
 have HR:=Lib.hid hR
 have HP:=Lib.hid hP
 have hX:XOk [] w:=fun b hb=>by cases hb
 have HK0:=Lib.hid (ai.start w hX)
 clear hg hR hP hX
 go_enter Tryz.func3,Tryz.ntmps3
 go_wp2_with fail
 refine hW.mono ?_
 rintro e w1 ⟨rfl,hb1⟩
 have HK1:=Lib.hid (HK0.out.on hb1)
 clear hb1 HK0 hW
 go_wp2_with fail
 refine(vq s [] w1 hs (fun b hb=>by cases hb) (HP.out.on HK1.out.below)).mono ?_
 rw[HR.out]
 rintro e w2 ⟨rfl,hb2⟩
 have HK2:=Lib.hid (HK1.out.on hb2)
 clear hb2 HK1 b1
 have HK3:=Lib.hid (HK2.out.alloc_at 25 #[.int .i64 (fa:Int),.int .i64 (fb:Int)] w2.heap.size rfl)
 clear HK2
 go_wp2
 generalize w2.alloc (.cells #[.int .i64 (fa:Int),.int .i64 (fb:Int)] 25)=w3 at HK3 ⊢
 generalize w2.heap.size=ge at HK3 ⊢
 go_loopw [8,9,10,11] (fun vl vf vg vi wr => ∃ k lines fr lg:Nat,k≤s.size∧fr≤k∧lines≤k+1∧lg≤k∧vl = .int .i64 lines∧vf = .int .i64 fr∧vg = .int .i64 lg∧vi = .int .i64 k∧Hid (dm (s.data.toList.drop k) lines fr k lg=dm s.data.toList 1 0 0 0)∧Hid (ai w [] [] wr [.box ge 25 #[.int .i64 (fa:Int),.int .i64 (fb:Int)]] [])) (fun _ _ _ vi _=>s.size-(intOf vi).toNat)
 case atStart=>exact⟨0,1,0,0,Nat.zero_le _,Nat.le_refl _,Nat.le_refl _,Nat.le_refl _,rfl,rfl,rfl,rfl,Lib.hid rfl,HK3⟩
 case round=>
  clear HK3
  obtain⟨k,lines,fr,lg,hk,hf,hln,hlg,rfl,rfl,rfl,rfl,HI,HK⟩:=hrel
  by_cases hlt:k<s.size
  ·have hlt':k<s.data.toList.length:=by simpa using hlt
   have he:s[k]=s.data.toList[k]:=by simp[ByteArray.getElem_eq_getElem_data]
   have hx:=List.getElem?_eq_getElem hlt'
   generalize s.data.toList[k]=x at he hx
   have hst:=zA hx lines fr lg
   rw[HI.out]at hst
   have HX:=Lib.hid hst
   clear hx hst
   by_cases hc:x=10
   ·have HI2:=Lib.hid (HX.out.trans (if_pos hc)).symm
    subst hc
    clear HX HI
    go_wp2
    exact⟨⟨k+1,lines+1,k+1,lg,by omega,by omega,by omega,by omega,by simp,by simp,rfl,by simp,HI2,HK⟩,by simp[intOf];omega⟩
   ·have HI2:=Lib.hid (HX.out.trans (if_neg hc)).symm
    have hxn:¬ x.toNat=10:=fun e=>hc (UInt8.toNat_inj.1 e)
    have b2:((x.toNat:Int) == 10)=false:=by rw[beq_eq_false_iff_ne];omega
    clear hc HX HI
    go_wp2
    exact⟨⟨k+1,lines,fr,max lg (k+1-fr),by omega,by omega,by omega,by omega,rfl,rfl,by congr 1;omega,by simp,HI2,HK⟩,by simp[intOf];omega⟩
  ·obtain rfl:s.size=k:=by omega
   have HF:=Lib.hid (show(dm s.data.toList 1 0 0 0)=(lines,lg) from by rw[←HI.out,show s.data.toList.drop s.size = [] from List.drop_eq_nil_of_le (by have:=HSz.out;omega)];rfl)
   obtain⟨g1,g2,g3⟩:=HG.out
   rw[HF.out]at g2 g3
   have g2:fa≤lines:=g2
   have g3:fb≤lg+1:=g3
   have b1:decide ((1:Int)≤(fa:Int))=true:=by simp;omega
   have b2:decide ((fa:Int)≤(lines:Int))=true:=by simp;omega
   have b3:decide ((0:Int)≤(fb:Int))=true:=by simp
   have b4:decide ((fb:Int)≤(lg:Int)+1)=true:=by simp;omega
   have c0:wr.cell? ⟨ge,0,none⟩=some (.int .i64 (fa:Int)):=HK.out.cell 0 rfl 0
   have c1:wr.cell? ⟨ge,1,none⟩=some (.int .i64 (fb:Int)):=HK.out.cell 0 rfl 1
   have HB:=Lib.hid HK.out.below
   clear hlt hk
   go_wp2
   go_ret
   exact⟨rfl,HB.out⟩
theorem JI (s:ByteArray) (w:World) (hW:Calls Tryz.prog 4 #[] w fun e w'=>e = .returned (.bool true)∧Below w.heap.size w w') (hP:jT w) (hM:kD w) (hT:jc w):
 Calls Tryz.prog 3 #[.string s] w fun e w'=>e = .returned (.bool true)∧Below w.heap.size w w':=by
 by_cases hs:s.size≤20000
 ·cases hR:jS s.data.toList with
  | ok l=>exact FL s w hs hW hP hM hT l hR
  | bad a b=>exact Ec s w hs hW hP a b hR
 ·have b1:decide ((20000:Int)<(s.size:Int))=true:=by simp;omega
  have HW:=Lib.hid hW
  clear hP hM hT hW
  go_enter Tryz.func3,Tryz.ntmps3
  go_wp2_with fail
  refine HW.out.mono ?_
  rintro e w1 ⟨rfl,hb1⟩
  have HB:=Lib.hid hb1
  clear hb1
  go_wp2
  go_ret
  exact⟨rfl,HB.out⟩
end
section
open Go.ChangeShapes Go.WideShapes Go.ChangeAt Go.RowKit Go.Lib
theorem rP {H:Type} {enc:TypeId×Value→H} {P:Program} {w:World} {base:Nat} {sp:Nat→Bool} {held:Bool} {fuel:Nat} {t e:TypeId} {n:Nat} {cs:List Value} {zs:List (List UInt8)} {p:List MemPlace}
 (ht:P.underlying t=some (.array n e)) (he:P.underlying e=some .string) (hce:P.cellsOf e=1) (hct:P.cellsOf t=n)
 (h:DataW.trod enc P w base sp held fuel t cs=some (.agg (zs.map fun z=>.lit (.string z)),p)):cs=zs.map fun z=>Value.string (sB z):=by
 cases fuel with
 | zero=>simp[DataW.trod]at h
 | succ fuel=>
   simp only[DataW.trod,ht,hce,hct,Nat.mul_one]at h
   split at h
   ·rename_i hl
    obtain⟨xs,hm,hx⟩:=Option.map_eq_some_iff.1 h
    have hxs:xs.map (·.1)=zs.map fun z=>(DataW.lit (.string z):DataW H):=by
     have:=congrArg Prod.fst hx
     simpa using this
    have hxl:xs.length=n:=by simpa using mapM_length hm
    have hzl:zs.length=n:=by
     have:=congrArg List.length hxs
     simp at this
     omega
    apply List.ext_getElem?
    intro i
    by_cases hi:i<n
    ·obtain⟨b,hb,hf⟩:=mapM_at hm i i (by simp[hi])
     obtain⟨z,hc,rfl,_⟩:=DataW.trod_string he hf
     have h1:cs[i]?=some (.string z):=by
      have:=congrArg (·[0]?) hc
      simpa [List.getElem?_take,List.getElem?_drop] using this
     have h2:(xs.map (·.1))[i]?=some (DataW.lit (.string z.data.toList):DataW H):=by simp[hb]
     rw[hxs]at h2
     simp only[List.getElem?_map,Option.map_eq_some_iff,DataW.lit.injEq,Lit.string.injEq]at h2
     obtain⟨z',hz',rfl⟩:=h2
     have hzz:sB z.data.toList=z:=by obtain⟨⟨q⟩⟩:=z;rfl
     simp[h1,hz',hzz]
    ·rw[List.getElem?_eq_none (by omega),List.getElem?_eq_none (by simp;omega)]
   ·cases h
theorem mj {P:Program} {W:World} {name:String} {zs:List (List UInt8)} {rest:List (String×DataW Unit)} {g:Nat} {t e:TypeId} {n:Nat}
 (hg:P.globalNamed name=some g) (hty:(P.globals[g]?).map (·.type)=some t) (ht:P.underlying t=some (.array n e)) (he:P.underlying e=some .string) (hce:P.cellsOf e=1) (hct:P.cellsOf t=n)
 (h:laidMet P ((name,.agg (zs.map fun z=>.lit (.string z)))::rest) W) (i:Nat) (z:List UInt8) (hi:zs[i]?=some z):W.cell? ⟨g,i,none⟩=some (.string (sB z)):=by
 obtain⟨ps,⟨g',t',cs,fuel,p,q,hg',ht',hvar,hd,_,_⟩,_⟩:=h
 obtain rfl:=Option.some.inj (hg.symm.trans hg')
 obtain rfl:=Option.some.inj (hty.symm.trans ht')
 have h1:=rP ht he hce hct hd
 have h2:=World.var?_cell hg hvar i
 rw[h2]
 have h3:cs.toList[i]?=some (.string (sB z)):=by rw[h1,List.getElem?_map,hi];rfl
 simpa using h3
def Dl:List (List UInt8):=[[49],[50],[52],[56],[49,54],[51,50],[54,52],[49,50,56],[43,73,110,102]]
theorem mD {i:Nat} (h:i<9):Dl[i]?=some (bnd i):=by
 match i,h with
 | 0,_=>rfl
 | 1,_=>rfl
 | 2,_=>rfl
 | 3,_=>rfl
 | 4,_=>rfl
 | 5,_=>rfl
 | 6,_=>rfl
 | 7,_=>rfl
 | 8,_=>rfl
theorem pU {W:World} (h:laidMetH Tryz.prog Rows.topParseRow.laid W):jc W:=by
 have h1:=h.filter (fun x=>x.1 == "internal/strconv.uint64pow10")
 rw[show(Rows.topParseRow.laid.filter fun x=>x.1 == "internal/strconv.uint64pow10") = [("internal/strconv.uint64pow10",tabData .u64 pow10Tab)] from by rfl]at h1
 rw[MakeChecks.laidMetH_plain _ _ _ (by rfl)]at h1
 exact tabIs_of_head (g:=3) (by kernel_rfl) (show(Tryz.prog.globals[3]?).map (·.type)=some 384 by kernel_rfl) Tryz.underlying384 Tryz.underlying119 (by kernel_rfl) (by kernel_rfl) h1
theorem sr {W:World} (h:laidMetH Tryz.prog Rows.topParseRow.laid W):kD W:=by
 have h1:=h.filter (fun x=>x.1 == "fusebox/metric.bounds")
 rw[show(Rows.topParseRow.laid.filter fun x=>x.1 == "fusebox/metric.bounds") = [("fusebox/metric.bounds",.agg (Dl.map fun z=>.lit (.string z)))] from by rfl]at h1
 rw[MakeChecks.laidMetH_plain _ _ _ (by rfl)]at h1
 exact fun i hi=>mj (g:=mbB) (by kernel_rfl) (show(Tryz.prog.globals[mbB]?).map (·.type)=some 158 by kernel_rfl) Tryz.underlying158 Tryz.underlying9 (by kernel_rfl) (by kernel_rfl) h1 i _ (mD hi)
theorem tG {W:World} (h:laidMetH Tryz.prog Rows.topParseRow.laid W):jT W:=by
 have h1:=h.filter (fun x=>x.1 == "fusebox/parse.bounds")
 rw[show(Rows.topParseRow.laid.filter fun x=>x.1 == "fusebox/parse.bounds") = [("fusebox/parse.bounds",.agg (Dl.map fun z=>.lit (.string z)))] from by rfl]at h1
 rw[MakeChecks.laidMetH_plain _ _ _ (by rfl)]at h1
 exact fun i hi=>mj (g:=pbB) (by kernel_rfl) (show(Tryz.prog.globals[pbB]?).map (·.type)=some 158 by kernel_rfl) Tryz.underlying158 Tryz.underlying9 (by kernel_rfl) (by kernel_rfl) h1 i _ (mD hi)
end
section
open RowKit
def rowsOf (H:af) (sz:Nat):ah→Option (List ah)
 | .nils=>some []
 | .emp _ _ _=>some []
 | .slc id ver off len cap z ex=>if z=sz then fH H id ver off (len*sz) else none
 | _=>none
theorem kn {ρ:Rho} {H:af} {w:World} (h:HR ρ H w) {sz:Nat} {x:ah} {v:Value} (hv:VR ρ x v) {xs:List ah} (hx:rowsOf H sz x=some xs):∃ A n c vs,v = .slice A n c∧VRs ρ xs vs∧Reads w w.heap.size sz A n vs∧n≤c∧c≤maxLen∧(A=none→c=0):=by
 cases hv with
 | nils=>
   simp only[rowsOf]at hx
   injection hx with hx
   subst hx
   exact⟨none,0,0,[],rfl,.nil,Reads.none_,Nat.le_refl _,Nat.zero_le _,fun _=>rfl⟩
 | emp _ _ _ L o c h0 h3 h4=>
   simp only[rowsOf]at hx
   injection hx with hx
   subst hx
   exact⟨_,0,c,[],rfl,.nil,Reads.none_,Nat.zero_le _,by simp only[maxLen];omega,fun e=>by cases e⟩
 | slc id ver off len cap sz' ex L c h0 h1 h2 h3 h4 h5=>
   simp only[rowsOf]at hx
   split at hx
   ·rename_i e
    subst e
    have hm:len*sz'≤cap*sz':=Nat.mul_le_mul_right _ h1
    obtain⟨vs,k1,k2,k3,k4,k5⟩:=dj (P:=default) h h0 (by omega) hx
    refine⟨_,len,c,vs,rfl,k1,⟨k2,fun hn=>⟨_,rfl,(h.dom _ _ _ h0).1,fun k u hu=>?_⟩⟩,by omega,by simp only[maxLen];omega,fun e=>by cases e⟩
    rw[bC]
    exact k4 k u hu
   ·cases hx
 | _=>simp[rowsOf]at hx
def wJ:List ah→Option (List aE)
 | []=>some []
 | .str a :: .str b::l=>if a.length≤1000000∧b.length≤1000000 then(match wJ l with
   | some r=>some (⟨a,b⟩::r)
   | none=>none) else none
 | _=>none
theorem yj {ρ:Rho} {w:World} {X:List Nat}:∀ {xs:List ah} {vs:List Value} {l:List aE},VRs ρ xs vs→wJ xs=some l→aB aj w X vs l
 | [],_,l,.nil,h=>by simp only[wJ]at h;injection h with h;subst h;exact rfl
 | x::xs,_,l,.cons _ v _ vs hx hs,h=>by
   unfold wJ at h
   split at h
   ·rename_i e;cases e
   ·rename_i a b xs' e
    injection e with e1 e2
    subst e1 e2
    split at h
    ·rename_i hc
     split at h
     ·rename_i r hr
      injection h with h
      subst h
      cases hs with
      | cons _ v2 _ vs2 hx2 hs2=>
      cases hx
      cases hx2
      have h1:a.length≤maxLen:=Nat.le_trans hc.1 (by decide)
      have h2:b.length≤maxLen:=Nat.le_trans hc.2 (by decide)
      exact⟨[.string (sB a),.string (sB b)],vs2,rfl,⟨rfl,h1,h2⟩,yj hs2 hr⟩
     ·cases h
    ·cases h
   ·cases h
theorem Ei {α:Type} {s:Sh α} {w:World} {A:Option Addr} {n c:Nat} {vs:List Value} {l:List α} (hs:0<s.size) (h1:Reads w w.heap.size s.size A n vs) (h2:n≤c) (h3:c≤maxLen) (h4:A=none→c=0) (h5:aB s w [] vs l):Sl s w [] A n c l:=by
 have e1:=h1.1
 have e2:=h5.length
 have e3:n=l.length:=Nat.eq_of_mul_eq_mul_right hs (e1.symm.trans e2)
 exact⟨e3,h2,h3,h4,vs,h1,fun _ _ _ hb=>(by cases hb),h5⟩
def xw (H:af):List ah→Option (List aF)
 | []=>some []
 | .str nm::s :: .int .i64 v::l=>if nm.length≤1000000 ∧ -9223372036854775808≤v∧v≤9223372036854775807 then(match rowsOf H 2 s with
   | some cs=>(match wJ cs with
     | some ls=>(match xw H l with
       | some r=>some (⟨nm,ls,v⟩::r)
       | none=>none)
     | none=>none)
   | none=>none) else none
 | _=>none
theorem ya {ρ:Rho} {H:af} {w:World} (hr:HR ρ H w):∀ {xs:List ah} {vs:List Value} {l:List aF},VRs ρ xs vs→xw H xs=some l→aB ak w [] vs l
 | [],_,l,.nil,h=>by simp only[xw]at h;injection h with h;subst h;exact rfl
 | x::xs,_,l,.cons _ v _ vs hx hs,h=>by
   unfold xw at h
   split at h
   ·rename_i e;cases e
   ·rename_i nm s n xs' e
    injection e with e1 e2
    subst e1 e2
    split at h
    ·rename_i hc
     split at h
     ·rename_i cs h1
      split at h
      ·rename_i ls h2
       split at h
       ·rename_i r h3
        injection h with h
        subst h
        cases hs with
        | cons _ v2 _ vs2 hx2 hs2=>
        cases hs2 with
        | cons _ v3 _ vs3 hx3 hs3=>
        cases hx
        cases hx3
        obtain⟨A,m,c,us,rfl,k1,k2,k3,k4,k5⟩:=kn hr hx2 h1
        have hn:nm.length≤maxLen:=Nat.le_trans hc.1 (by decide)
        exact⟨[.string (sB nm),.slice A m c,.int .i64 n],vs3,rfl,⟨A,m,c,rfl,Ei (s:=aj) (by decide) k2 k3 k4 k5 (yj k1 h2),⟨hc.2.1,hc.2.2⟩,hn⟩,ya hr hs3 h3⟩
       ·cases h
      ·cases h
     ·cases h
    ·cases h
   ·cases h
def vW (H:af):List ah→Option (List ax)
 | []=>some []
 | .str nm :: .str hp :: .int .i64 t::s::l=>if nm.length≤1000000∧hp.length≤1000000∧0≤t∧t≤3 then(match rowsOf H 3 s with
   | some cs=>(match xw H cs with
     | some ss=>(match vW H l with
       | some r=>some (⟨nm,hp,t.toNat,ss⟩::r)
       | none=>none)
     | none=>none)
   | none=>none) else none
 | _=>none
theorem xQ {ρ:Rho} {H:af} {w:World} (hr:HR ρ H w):∀ {xs:List ah} {vs:List Value} {l:List ax},VRs ρ xs vs→vW H xs=some l→aB az w [] vs l
 | [],_,l,.nil,h=>by simp only[vW]at h;injection h with h;subst h;exact rfl
 | x::xs,_,l,.cons _ v _ vs hx hs,h=>by
   unfold vW at h
   split at h
   ·rename_i e;cases e
   ·rename_i nm hp t s xs' e
    injection e with e1 e2
    subst e1 e2
    split at h
    ·rename_i hc
     obtain⟨c1,c2,c3,c4⟩:=hc
     split at h
     ·rename_i cs h1
      split at h
      ·rename_i ls h2
       split at h
       ·rename_i r h3
        injection h with h
        subst h
        cases hs with
        | cons _ v2 _ vs2 hx2 hs2=>
        cases hs2 with
        | cons _ v3 _ vs3 hx3 hs3=>
        cases hs3 with
        | cons _ v4 _ vs4 hx4 hs4=>
        cases hx
        cases hx2
        cases hx3
        obtain⟨A,m,c,us,rfl,k1,k2,k3,k4,k5⟩:=kn hr hx4 h1
        have hn:nm.length≤maxLen:=Nat.le_trans c1 (by decide)
        have hh:hp.length≤maxLen:=Nat.le_trans c2 (by decide)
        have ht:t=((t.toNat:Nat):Int):=by omega
        have ht3:t.toNat≤3:=by omega
        refine⟨[.string (sB nm),.string (sB hp),.int .i64 t,.slice A m c],vs4,rfl,⟨A,m,c,?_,Ei (s:=ak) (by decide) k2 k3 k4 k5 (ya hr k1 h2),ht3,hn,hh⟩,xQ hr hs4 h3⟩
        show _=([.string (sB nm),.string (sB hp),.int .i64 ((t.toNat:Nat):Int),.slice A m c]:List Value)
        rw[←ht]
       ·cases h
      ·cases h
     ·cases h
    ·cases h
   ·cases h
theorem WB.mb {w:World} (h:WB w):kD w:=fun i hi=>h.cell i (bnd i) (mD hi)
theorem WB.pb {w:World} (h:WB w):jT w:=fun i hi=>h.par i (bnd i) (mD hi)
theorem WB.pw {w:World} (h:WB w):jc w:=h.pow
theorem WB.of {w:World} (h1:jT w) (h2:kD w) (h3:jc w):WB w:=by
 have key:∀ (j:Nat) (s:List UInt8),tv[j]?=some s→j<9∧s=bnd j:=by
  intro j s hj
  have hlt:j<9:=(List.getElem?_eq_some_iff.1 hj).1
  have h4:tv[j]?=some (bnd j):=mD hlt
  rw[h4]at hj
  injection hj with hj
  exact⟨hlt,hj.symm⟩
 refine⟨h2.lt,fun j s hj=>?_,h3,fun j s hj=>?_⟩
 ·obtain⟨k1,rfl⟩:=key j s hj
  exact h2 j k1
 ·obtain⟨k1,rfl⟩:=key j s hj
  exact h1 j k1
def zi (args:List ah) (H:af):Option ah:=match args with
 | [x]=>match rowsOf H 4 x with
   | some cs=>match vW H cs with
     | some l=>(match allM l with
       | true=>some (.tup [.str (cx l),.int .i64 0])
       | false=>none)
     | none=>none
   | none=>none
 | _=>none
theorem ym:Told Tryz.prog 6 zi:=by
 refine⟨⟨_,Tryz.func6,by kernel_rfl,by kernel_rfl⟩,fun args H r h ρ w vs hr hv=>?_⟩
 unfold zi at h
 split at h
 ·rename_i x
  split at h
  ·rename_i cs h1
   split at h
   ·rename_i l h2
    split at h
    ·rename_i h3
     injection h with h
     subst h
     cases hv with
     | cons _ v1 _ vs1 hv1 hvs1=>
     cases hvs1
     obtain⟨A,n,c,us,rfl,k1,k2,k3,k4,k5⟩:=kn hr hv1 h1
     refine(zT A n c [] l w (Ei (s:=az) (by decide) k2 k3 k4 k5 (xQ hr k1 h2)) (AW h3) (fun b hb=>by cases hb) hr.gl.now.mb hr.gl.now.pw).mono ?_
     rintro e w' ⟨rfl,hb⟩
     exact⟨_,rfl,.tup _ [_,_] (.cons _ _ _ _ (.str _) (.cons _ _ _ _ (.int _ _) .nil)),hb⟩
    ·cases h
   ·cases h
  ·cases h
 ·cases h
def za (args:List ah) (H:af):Option ah:=match args with
 | [.str s]=>if s.length≤20000 then(match jS s with
   | .ok l=>some (.tup [.opq l.length,.agg [.int .i64 0,.int .i64 0],.int .i64 0])
   | _=>none) else none
 | _=>none
theorem xj:Told Tryz.prog 5 za:=by
 refine⟨⟨_,Tryz.func5,by kernel_rfl,by kernel_rfl⟩,fun args H r h ρ w vs hr hv=>?_⟩
 unfold za at h
 split at h
 ·rename_i s
  split at h
  ·rename_i hl
   split at h
   ·rename_i l hp
    injection h with h
    subst h
    cases hv with
    | cons _ v1 _ vs1 hv1 hvs1=>
    cases hvs1
    cases hv1
    refine(vq ⟨⟨s⟩⟩ [] w hl (fun b hb=>by cases hb) hr.gl.now.pb).mono ?_
    rw[show(⟨⟨s⟩⟩:ByteArray).data.toList=s from rfl,hp]
    rintro e w' ⟨A,n,c,rfl,k1,k2⟩
    have hn:=k1.len
    subst hn
    exact⟨_,rfl,.tup _ [_,_,_] (.cons _ _ _ _ (.opq _ _ _) (.cons _ _ _ _ (.agg _ [_,_] (.cons _ _ _ _ (.int _ _) (.cons _ _ _ _ (.int _ _) .nil))) (.cons _ _ _ _ (.int _ _) .nil))),k2⟩
   ·cases h
  ·cases h
 ·cases h
end
section
open Go.RowKit
abbrev Ent:Type:=Nat×TypeId×Array Value
def Kept (w0 W:World) (L:List Ent):Prop:=
 Below w0.heap.size w0 W∧(∀ x ∈ L,Blk W x.1 x.2.1 x.2.2∧w0.heap.size≤x.1)∧L.Pairwise (fun x y=>y.1<x.1)
section
variable {w0 W W':World} {L:List Ent} {g:Nat} {t:TypeId} {cs:Array Value}
theorem Kept.start (w:World):Kept w w []:=⟨Below.refl _ _,by simp,List.Pairwise.nil⟩
theorem Kept.bel (h:Kept w0 W L):Below w0.heap.size w0 W:=h.1
theorem Kept.size (h:Kept w0 W L):w0.heap.size≤W.heap.size:=h.1.size
theorem Kept.next (h:Kept w0 W L) (hb:Below W.heap.size W W'):Kept w0 W' L:=
 ⟨h.1.trans (hb.mono h.1.size),fun x hx=>⟨(h.2.1 x hx).1.below hb (h.2.1 x hx).1.lt,(h.2.1 x hx).2⟩,h.2.2⟩
theorem Kept.alloc (h:Kept w0 W L) (t:TypeId) (cs:Array Value):Kept w0 (W.alloc (.cells cs t)) ((W.heap.size,t,cs)::L):=by
 refine⟨h.1.alloc h.1.size _,fun x hx=>?_,List.Pairwise.cons (fun y hy=>(h.2.1 y hy).1.lt) h.2.2⟩
 rcases List.mem_cons.1 hx with rfl | hx
 ·exact⟨Blk.new W t cs,h.1.size⟩
 ·exact⟨(h.2.1 x hx).1.alloc _,(h.2.1 x hx).2⟩
theorem Kept.alloc_at (h:Kept w0 W L) (t:TypeId) (cs:Array Value) (g:Nat) (hg:W.heap.size=g):Kept w0 (W.alloc (.cells cs t)) ((g,t,cs)::L):=hg ▸ h.alloc t cs
theorem Kept.alloc_off (h:Kept w0 W L) (o:Obj):Kept w0 (W.alloc o) L:=
 ⟨h.1.alloc h.1.size _,fun x hx=>⟨(h.2.1 x hx).1.alloc _,(h.2.1 x hx).2⟩,h.2.2⟩
theorem Kept.drew (h:Kept w0 W L):Kept w0 W.drew L:=⟨h.1.drew,h.2.1,h.2.2⟩
theorem Kept.blk (h:Kept w0 W L) (i:Nat) (hi:L[i]?=some (g,t,cs)):Blk W g t cs:=(h.2.1 _ (List.mem_of_getElem? hi)).1
theorem Kept.cell (h:Kept w0 W L) (i:Nat) (hi:L[i]?=some (g,t,cs)) (j:Nat):W.cell? ⟨g,j,none⟩=cs[j]?:=(h.blk i hi).cell j
theorem Kept.frozen (h:Kept w0 W L) (i:Nat) (hi:L[i]?=some (g,t,cs)) (j:Nat):W.frozen? ⟨g,j,none⟩=false:=(h.blk i hi).frozen j
theorem Kept.lt (h:Kept w0 W L) (i:Nat) (hi:L[i]?=some (g,t,cs)):g<W.heap.size:=(h.blk i hi).lt
theorem Kept.ge (h:Kept w0 W L) (i:Nat) (hi:L[i]?=some (g,t,cs)):w0.heap.size≤g:=(h.2.1 _ (List.mem_of_getElem? hi)).2
theorem Kept.ord (h:Kept w0 W L) (i j:Nat) (hij:i<j) {x y:Ent} (hi:L[i]?=some x) (hj:L[j]?=some y):y.1<x.1:=by
 obtain⟨hi',rfl⟩:=List.getElem?_eq_some_iff.1 hi
 obtain⟨hj',rfl⟩:=List.getElem?_eq_some_iff.1 hj
 exact List.pairwise_iff_getElem.1 h.2.2 i j hi' hj' hij
theorem Kept.sub (h:Kept w0 W L) {L':List Ent} (hs:L'.Sublist L):Kept w0 W L':=⟨h.1,fun y hy=>h.2.1 y (hs.subset hy),h.2.2.sublist hs⟩
theorem Kept.turn (h:Kept w0 W L) (i:Nat) (hi:L[i]?=some (g,t,cs)) (cs':Array Value) (hB:Below w0.heap.size w0 W') (hg:Blk W' g t cs') (hf:∀ x ∈ L,x.1≠g→Blk W x.1 x.2.1 x.2.2→Blk W' x.1 x.2.1 x.2.2):Kept w0 W' (L.set i (g,t,cs')):=by
 refine⟨hB,fun x hx=>?_,?_⟩
 ·obtain⟨j,hj⟩:=List.mem_iff_getElem?.1 hx
  rw[List.getElem?_set]at hj
  by_cases hij:i=j
  ·subst hij
   have hil:i<L.length:=(List.getElem?_eq_some_iff.1 hi).1
   simp[hil]at hj
   subst hj
   exact⟨hg,h.ge i hi⟩
  ·rw[if_neg hij]at hj
   have hx':=h.2.1 x (List.mem_of_getElem? hj)
   refine⟨hf x (List.mem_of_getElem? hj) ?_ hx'.1,hx'.2⟩
   rcases Nat.lt_or_ge i j with hlt | hge
   ·have:=h.ord i j hlt hi hj;simp only at this;omega
   ·have:=h.ord j i (by omega) hj hi;simp only at this;omega
 ·have hl:(L.set i (g,t,cs')).map (fun x:Ent=>x.1)=L.map (fun x:Ent=>x.1):=by
   apply List.ext_getElem?
   intro j
   simp only[List.getElem?_map,List.getElem?_set]
   by_cases hij:i=j
   ·subst hij
    have hil:i<L.length:=(List.getElem?_eq_some_iff.1 hi).1
    simp[hil]
    obtain⟨_,he⟩:=List.getElem?_eq_some_iff.1 hi
    rw[he]
   ·rw[if_neg hij]
  have hp:(L.map (fun x:Ent=>x.1)).Pairwise (fun a b=>b<a):=List.pairwise_map.2 h.2.2
  rw[←hl]at hp
  exact List.pairwise_map.1 hp
theorem Kept.own {row:Option Nat} (h:Kept w0 W L) (hg:W.grownBy W' row) (hr:∀ g,row=some g→w0.heap.size≤g ∧ ∀ x ∈ L,x.1≠g):Kept w0 W' L:=
 ⟨h.1.grown hg h.1.size (fun g e=>(hr g e).1),fun x hx=>⟨(h.2.1 x hx).1.grown hg (fun e=>(hr x.1 e.symm).2 x hx rfl),(h.2.1 x hx).2⟩,h.2.2⟩
theorem Kb {base:Nat} {e:TypeId} {size n:Nat} {v:Value} {xs:List Value} (h:W.ownsRow base e size v n xs):∀ g,v.ownBlock=some g→base≤g∧g<W.heap.size:=by
 intro g hg
 rcases h.2 with⟨rfl,_⟩ | ⟨g',cap,cur,rfl,hb,hh,_⟩
 ·simp[Value.ownBlock]at hg
 ·have e:g'=g:=by simpa [Value.ownBlock] using hg
  subst e
  exact⟨hb,Blk.lt hh⟩
theorem BN {B base:Nat} {e:TypeId} {size n:Nat} {v:Value} {xs:List Value} (h:W.ownsRow base e size v n xs) (hb:Below B W W') (hB:W.heap.size≤B):W'.ownsRow base e size v n xs:=by
 rcases h with⟨h1,h2 | ⟨g,cap,cur,h2,h3,h4,h5⟩⟩
 ·exact⟨h1,.inl h2⟩
 ·refine⟨h1,.inr ⟨g,cap,cur,h2,h3,(hb.block g ?_).trans h4,h5⟩⟩
  have:=Blk.lt (t:=e) h4
  omega
end
end
section
open Go.ChangeShapes Go.WideShapes Go.ChangeAt Go.RowKit Go.Deep
theorem add_pos (a:Addr) (j:Nat) (h:j≠0):a.add j=⟨a.block,a.off+j,none⟩:=by unfold Addr.add;rw[if_neg h]
abbrev gL (e:Int×Int):Array Value:=#[.int .i64 e.1,.int .i64 e.2]
def bJ (cs:List (Int×Int)):List Value:=cs.flatMap (fun e=>(gL e).toList)
theorem gk (e:Int×Int) (l:List (Int×Int)):bJ (e::l)=(gL e).toList++bJ l:=by simp[bJ]
theorem iu (cs:List (Int×Int)):(bJ cs).length=cs.length*2:=by
 induction cs with
 | nil=>rfl
 | cons e l ih=>rw[gk,List.length_append,ih,List.length_cons];simp;omega
theorem xW:∀ (cs:List (Int×Int)) (i:Nat) (e:Int×Int),cs[i]?=some e → ∀ j u,(gL e)[j]?=some u→(bJ cs)[i*2+j]?=some u
 | [],i,e,h,_,_,_=>by simp at h
 | x::l,0,e,h,j,u,hu=>by
   simp at h;subst h
   rw[gk,Nat.zero_mul,Nat.zero_add]
   have hj:j<2:=by
    rcases Nat.lt_or_ge j 2 with h | h
    ·exact h
    ·rw[Array.getElem?_eq_none (by simpa using h)]at hu;cases hu
   rw[List.getElem?_append_left (by simpa using hj)]
   simpa using hu
 | x::l,i+1,e,h,j,u,hu=>by
   rw[gk,List.getElem?_append_right (by simp;omega)]
   rw[show(i+1)*2+j-(gL x).toList.length=i*2+j from by simp;omega]
   exact xW l i e (by simpa using h) j u hu
theorem Av {w:World} {B n i:Nat} {A:Option Addr} {cs:List (Int×Int)} (h:Reads w B 2 A n (bJ cs)) (hi:i<n):
 ∃ (ad:Addr) (e:Int×Int),A=some ad∧ad.block<B∧cs[i]?=some e∧w.cell? (ad.add (i*2))=some (.int .i64 e.1)∧w.cell? ⟨(ad.add (i*2)).block,(ad.add (i*2)).off+1,none⟩=some (.int .i64 e.2):=by
 have hl:cs.length=n:=by have:=h.1;rw[iu]at this;omega
 obtain⟨ad,rfl,hb,hc⟩:=h.2 (by omega)
 obtain⟨e,he⟩:∃ e,cs[i]?=some e:=⟨_,List.getElem?_eq_getElem (by omega)⟩
 have q:∀ j u,(gL e)[j]?=some u→w.cell? ((ad.add (i*2)).add j)=some u:=fun j u hu=>by rw[cQ];exact hc _ u (xW cs i e he j u hu)
 have q1:=q 1 _ rfl
 rw[add_pos _ 1 (by omega)]at q1
 exact⟨ad,e,rfl,hb,he,q 0 _ rfl,q1⟩
theorem Reads.cell_len {w:World} {B n:Nat} {A:Option Addr} {cs:List (Int×Int)} (h:Reads w B 2 A n (bJ cs)):cs.length=n:=by have:=h.1;rw[iu]at this;omega
section
variable {H:Type} {enc:TypeId×Value→H}
end
section
variable {H:Type} {enc:TypeId×Value→H}
end
section
variable {H:Type} {enc:TypeId×Value→H}
end
end
section
theorem dsw:Ieee.double.signWeight=9223372036854775808:=by decide
theorem LS:Ieee.double.binade=4503599627370496:=by decide
theorem LK:Ieee.double.infRung=9218868437227405312:=by decide
theorem dlp:Ieee.double.leastPlace = -1074:=by decide
def rung (m:Nat):Nat:=if m=0 then 0 else(1022+m.log2)*4503599627370496+m*2^(52-m.log2)
def FW (s:Bool) (m:Nat):Nat:=Ieee.double.word s (rung m)
def sgn (s:Bool) (m:Nat):Int:=if s then -(m:Int) else(m:Int)
def Fl (b:Nat) (z:Int):Prop := ∃ s m,b=FW s m∧m≤4503599627370496∧z=sgn s m
theorem lO (m u:Nat) (h:m≠0):(m*2^u).log2=m.log2+u:=by
 have hp:0<2^u:=Nat.two_pow_pos u
 have hne:m*2^u≠0:=Nat.mul_ne_zero h (by omega)
 rw[Nat.log2_eq_iff hne,Nat.pow_add,show m.log2+u+1=(m.log2+1)+u from by omega,Nat.pow_add]
 exact⟨Nat.mul_le_mul_right _ (Nat.log2_self_le h),Nat.mul_lt_mul_of_pos_right Nat.lt_log2_self hp⟩
theorem kR (m:Nat) (h0:m≠0) (hm:m≤4503599627370496):∃ k c,k≤52∧m.log2=k∧c=m*2^(52-k)∧4503599627370496≤c∧c<9007199254740992∧rung m=(1022+k)*4503599627370496+c:=by
 have hk:m.log2≤52:=by
  have h1:=Nat.log2_self_le h0
  rcases Nat.lt_or_ge 52 m.log2 with h | h
  ·have h2:2^53≤2^m.log2:=Nat.pow_le_pow_right (by omega) h
   have h3:(2:Nat)^53=9007199254740992:=by decide
   omega
  ·exact h
 have e1:2^m.log2*2^(52-m.log2)=4503599627370496:=by rw[←Nat.pow_add,show m.log2+(52-m.log2)=52 from by omega]
 have e2:2^(m.log2+1)*2^(52-m.log2)=9007199254740992:=by rw[←Nat.pow_add,show m.log2+1+(52-m.log2)=53 from by omega]
 refine⟨m.log2,m*2^(52-m.log2),hk,rfl,rfl,?_,?_,?_⟩
 ·rw[←e1];exact Nat.mul_le_mul_right _ (Nat.log2_self_le h0)
 ·rw[←e2];exact Nat.mul_lt_mul_of_pos_right Nat.lt_log2_self (Nat.two_pow_pos _)
 ·unfold rung;rw[if_neg h0]
theorem FR (m:Nat) (hm:m≤4503599627370496):rung m<9218868437227405312:=by
 by_cases h0:m=0
 ·subst h0;decide
 ·obtain⟨k,c,h1,h2,h3,h4,h5,h6⟩:=kR m h0 hm
  rw[h6];omega
theorem DL (s:Bool) (m:Nat):FW s m=if s then 9223372036854775808+rung m else rung m:=by unfold FW Ieee.Format.word;rw[dsw]
theorem gO (s:Bool) (m:Nat) (hm:m≤4503599627370496):∃ u:Nat,u≤1074∧Ieee.double.read (FW s m) = .number s (m*2^u) (-(u:Int)):=by
 have hr:=FR m hm
 have hmod:FW s m%9223372036854775808=rung m:=by rw[DL];cases s<;>simp<;>omega
 have hneg:(FW s m/9223372036854775808%2 == 1)=s:=by rw[DL];cases s<;>simp<;>omega
 unfold Ieee.Format.read
 simp only[dsw,LS,LK,dlp,hmod,hneg]
 by_cases h0:m=0
 ·subst h0
  obtain⟨u,hu⟩:∃ u:Nat,u=1074:=⟨_,rfl⟩
  refine⟨u,by omega,?_⟩
  rw[Nat.zero_mul,if_pos (by decide),show -(u:Int) = -1074 from by omega]
  rfl
 ·obtain⟨k,c,h1,h2,h3,h4,h5,h6⟩:=kR m h0 hm
  rw[if_neg (by rw[h6];omega),if_pos hr]
  refine⟨52-k,by omega,?_⟩
  rw[←h3,h6]
  congr 1
  ·omega
  ·omega
theorem yb (s:Bool) (c d:Nat):Ieee.Toward.even.cut s (c*2^d) d=c:=by
 have hp:0<2^d:=Nat.two_pow_pos d
 unfold Ieee.Toward.cut
 by_cases h:c=0
 ·subst h
  simp
 ·have hl:min d ((c*2^d).log2+2)=d:=by rw[lO c d h];omega
  simp only[hl,Nat.shiftLeft_eq,Nat.one_mul,Nat.mul_mod_left,Nat.mul_div_cancel _ hp]
  simp
theorem vO (s:Bool) (c d:Nat):Ieee.Toward.zero.cut s (c*2^d) d=c:=by
 have hp:0<2^d:=Nat.two_pow_pos d
 unfold Ieee.Toward.cut
 by_cases h:c=0
 ·subst h
  simp
 ·have hl:min d ((c*2^d).log2+2)=d:=by rw[lO c d h];omega
  simp only[hl,Nat.shiftLeft_eq,Nat.one_mul,Nat.mul_div_cancel _ hp]
  simp
theorem vw (s:Bool) (m u:Nat) (hm:m≤4503599627370496):Ieee.double.nearest s (m*2^u) (-(u:Int))=FW s m:=by
 have hp:0<2^u:=Nat.two_pow_pos u
 unfold Ieee.Format.nearest
 by_cases h0:m=0
 ·subst h0
  rw[if_pos (by simp)]
  simp[FW,rung]
 ·obtain⟨k,c,h1,h2,h3,h4,h5,h6⟩:=kR m h0 hm
  rw[if_neg (Nat.mul_ne_zero h0 (by omega)),lO m u h0,h2]
  simp only[dlp,LS,LK,show(Ieee.double.fractionBits:Int)=52 from rfl]
  have hlast:max (-(u:Int)+((k+u:Nat):Int)-52) (-1074)=(k:Int)-52:=by omega
  rw[hlast]
  have hkept:Ieee.Toward.even.cut s ((m*2^u) <<< (-(u:Int)-((k:Int)-52)).toNat) (((k:Int)-52) - -(u:Int)).toNat=c:=by
   by_cases hu:u+k≤52
   ·rw[show(((k:Int)-52) - -(u:Int)).toNat=0 from by omega,show(-(u:Int)-((k:Int)-52)).toNat=52-k-u from by omega,Nat.shiftLeft_eq,Nat.mul_assoc,←Nat.pow_add,show u+(52-k-u)=52-k from by omega,←h3]
    have h:=yb s c 0
    simpa using h
   ·obtain⟨d,hd⟩:∃ d,u=(52-k)+d:=⟨u-(52-k),by omega⟩
    rw[show(((k:Int)-52) - -(u:Int)).toNat=d from by omega,show(-(u:Int)-((k:Int)-52)).toNat=0 from by omega,Nat.shiftLeft_zero,hd,Nat.pow_add,←Nat.mul_assoc,←h3]
    exact yb s c d
  rw[hkept,show((k:Int)-52 - -1074).toNat=1022+k from by omega,Nat.min_eq_left (by omega),←h6]
  rfl
theorem Fl.bound {b:Nat} {z:Int} (h:Fl b z) : -4503599627370496≤z∧z≤4503599627370496:=by
 obtain⟨s,m,_,hm,rfl⟩:=h
 unfold sgn;split<;>omega
theorem Fl.zero:Fl 0 0:=⟨false,0,by decide,by omega,by decide⟩
theorem Fl.ofInt (z:Int) (h1 : -4503599627370496≤z) (h2:z≤4503599627370496):Fl (floatOfInt .f64 z) z:=by
 refine⟨decide (z<0),z.natAbs,?_,by omega,?_⟩
 ·have h:=vw (decide (z<0)) z.natAbs 0 (by omega)
  rw[←h]
  unfold floatOfInt FloatKind.nearest FloatKind.encode FloatKind.format Ieee.Format.write
  simp
 ·unfold sgn
  by_cases h:z<0
  ·rw[if_pos (by simpa using h)];omega
  ·rw[if_neg (by simpa using h)];omega
theorem fQ (s:Bool) (m u q:Nat) (hq:u≤q):Ieee.signed s (m*2^u) (-(u:Int) - -(q:Int)).toNat=sgn s m*2^q:=by
 have e:(m*2^u) <<< (-(u:Int) - -(q:Int)).toNat=m*2^q:=by
  rw[show(-(u:Int) - -(q:Int)).toNat=q-u from by omega,Nat.shiftLeft_eq,Nat.mul_assoc,←Nat.pow_add,show u+(q-u)=q from by omega]
 unfold Ieee.signed sgn
 rw[e]
 split
 ·rw[Int.neg_mul,Int.natCast_mul,Int.natCast_pow];rfl
 ·rw[Int.natCast_mul,Int.natCast_pow];rfl
theorem gN (q:Nat):(0:Int)<2^q:=by
 have:((2^q:Nat):Int)=(2:Int)^q:=by rw[Int.natCast_pow];rfl
 rw[←this]
 exact Int.natCast_pos.2 (Nat.two_pow_pos q)
theorem Fl.add {a b:Nat} {x y:Int} (ha:Fl a x) (hb:Fl b y) (h1 : -4503599627370496≤x+y) (h2:x+y≤4503599627370496):∃ r,floatBits .add .f64 a b=some r∧Fl r (x+y):=by
 obtain⟨s,m,rfl,hm,rfl⟩:=ha
 obtain⟨t,n,rfl,hn,rfl⟩:=hb
 obtain⟨u,hu,eu⟩:=gO s m hm
 obtain⟨v,hv,ev⟩:=gO t n hn
 unfold floatBits
 simp only[FloatKind.format,Ieee.Format.add,eu,ev,Ieee.Datum.sum,Option.map_some,Ieee.Format.write]
 obtain⟨q,hq⟩:∃ q,max u v=q:=⟨_,rfl⟩
 rw[show min (-(u:Int)) (-(v:Int)) = -(q:Int) from by omega,fQ s m u q (by omega),fQ t n v q (by omega),←Int.add_mul]
 obtain⟨z,hz⟩:∃ z,sgn s m+sgn t n=z:=⟨_,rfl⟩
 rw[hz]at h1 h2 ⊢
 have habs:(z*2^q).natAbs=z.natAbs*2^q:=by rw[Int.natAbs_mul,Int.natAbs_pow];rfl
 have hp:=gN q
 rw[habs,vw _ _ _ (by omega)]
 refine⟨_,rfl,_,_,rfl,by omega,?_⟩
 by_cases h0:z=0
 ·subst h0
  simp[sgn]
 ·rw[if_neg (by rw[Int.mul_eq_zero];omega)]
  unfold sgn
  by_cases hneg:z<0
  ·have:z*2^q<0:=Int.mul_neg_of_neg_of_pos hneg hp
   rw[if_pos (by simpa using this)];omega
  ·have:¬ z*2^q<0:=by have:=Int.mul_nonneg (show 0≤z by omega) (Int.le_of_lt hp);omega
   rw[if_neg (by simpa using this)];omega
theorem js (x y p:Int) (hp:0<p):compare (x*p) (y*p)=compare x y:=by
 rcases Int.lt_trichotomy x y with h | h | h
 ·rw[Int.compare_eq_lt.2 h,Int.compare_eq_lt.2 (Int.mul_lt_mul_of_pos_right h hp)]
 ·subst h
  rw[Int.compare_eq_eq.2 rfl,Int.compare_eq_eq.2 rfl]
 ·rw[Int.compare_eq_gt.2 h,Int.compare_eq_gt.2 (Int.mul_lt_mul_of_pos_right h hp)]
theorem Fl.order {a b:Nat} {x y:Int} (ha:Fl a x) (hb:Fl b y):FloatKind.f64.format.order a b=some (compare x y):=by
 obtain⟨s,m,rfl,hm,rfl⟩:=ha
 obtain⟨t,n,rfl,hn,rfl⟩:=hb
 obtain⟨u,hu,eu⟩:=gO s m hm
 obtain⟨v,hv,ev⟩:=gO t n hn
 simp only[FloatKind.format,Ieee.Format.order,eu,ev,Ieee.Datum.order]
 obtain⟨q,hq⟩:∃ q,max u v=q:=⟨_,rfl⟩
 rw[show min (-(u:Int)) (-(v:Int)) = -(q:Int) from by omega,fQ s m u q (by omega),fQ t n v q (by omega),js _ _ _ (gN q)]
theorem Fl.toInt {b:Nat} {z:Int} (h:Fl b z):floatToIntVal .f64 b .i64=some z:=by
 have hz:=h.bound
 obtain⟨s,m,rfl,hm,rfl⟩:=h
 obtain⟨u,hu,eu⟩:=gO s m hm
 unfold floatToIntVal FloatKind.decode
 have e:(Ieee.Datum.number s (m*2^u) (-(u:Int))).toInt .zero=some (sgn s m):=by
  unfold Ieee.Datum.toInt Ieee.Datum.integral
  simp only
  rw[show(-(u:Int)).toNat=0 from by omega,Nat.shiftLeft_zero,Int.neg_neg,Int.toNat_natCast,vO]
  unfold Ieee.signed sgn
  simp
 simp only[FloatKind.format,eu,e]
 rw[if_pos]
 simp[IntKind.min,IntKind.max,IntKind.signed,IntKind.bits]
 omega
end
section
open Go.RowKit
def hold (n:Int):Int:=if n<0 then 0 else if 1099511627776<n then 1099511627776 else n
theorem zY (n:Int):0≤hold n:=by unfold hold;split<;>(try split)<;>omega
theorem AK (n:Int):hold n≤1099511627776:=by unfold hold;split<;>(try split)<;>omega
theorem AV (n:Int) (h0:0≤n) (h1:n≤1099511627776):hold n=n:=by unfold hold;rw[if_neg (by omega),if_neg (by omega)]
theorem uI {k:IntKind} {a b:Int} (h:a=b):Ending.returned (.int k a) = .returned (.int k b):=by rw[h]
theorem aS {a b:Bool} (h:a=b):Ending.returned (.bool a) = .returned (.bool b):=by rw[h]
theorem EH (n:Int) (w:World):Calls Tryz.prog 124 #[.int .i64 n] w fun e w'=>e = .returned (.int .i64 (hold n))∧w=w':=by
 go_enter Tryz.func124,Tryz.ntmps124
 go_wp2
 all_goals
  go_ret
  refine⟨uI ?_,rfl⟩
  unfold hold
  repeat' split
  all_goals omega
end
section
open Go.RowKit
theorem EW {b:Nat} {z:Int} (h:Fl b z) (w:World):(callFunc 333 #[.float .f64 b]).run Tryz.prog w = .ok (.value (.float .f64 b)) w:=by
 obtain⟨s,m,rfl,hm,rfl⟩:=h
 obtain⟨u,hu,eu⟩:=gO s m hm
 rw[run_callFunc_extern (e:=Extern.MathFloor.toIntegral "math.archTrunc" .zero) Tryz.func333 (by kernel_rfl) (by kernel_rfl) (by kernel_rfl) (by kernel_rfl)]
 have hi:(Ieee.Datum.number s (m*2^u) (-(u:Int))).integral .zero = .number s m 0:=by
  unfold Ieee.Datum.integral
  simp only
  rw[show(-(u:Int)).toNat=0 from by omega,Nat.shiftLeft_zero,Int.neg_neg,Int.toNat_natCast,vO]
 have hn:FloatKind.f64.encode (.number s m 0)=FW s m:=by
  have h:=vw s m 0 hm
  rw[←h]
  unfold FloatKind.encode FloatKind.format Ieee.Format.write
  simp
 have hd:FloatKind.f64.decode (FW s m) = .number s (m*2^u) (-(u:Int)):=eu
 have he:(Extern.MathFloor.toIntegral "math.archTrunc" .zero #[.float .f64 (FW s m)]).run Tryz.prog w = .ok (.float .f64 (FW s m)) w:=by
  change Sem.run Tryz.prog (match FloatKind.f64.decode (FW s m) with | .nan a b=>(_:Sem Value) | d=>(pure (Value.float .f64 (FloatKind.f64.encode (d.integral .zero))):Sem Value)) w=_
  rw[hd]
  show Sem.run Tryz.prog (pure (Value.float .f64 (FloatKind.f64.encode ((Ieee.Datum.number s (m*2^u) (-(u:Int))).integral .zero)))) w=_
  rw[hi,hn]
  rfl
 rw[he]
 rfl
theorem Ia {b:Nat} {z:Int} (h:Fl b z) (w:World):Calls Tryz.prog 278 #[.float .f64 b] w fun e w'=>e = .returned (.float .f64 b)∧w=w':=by
 have h1:=fun W=>EW h W
 go_enter Tryz.func278,Tryz.ntmps278
 go_wp2
 go_ret
 exact⟨rfl,rfl⟩
end
section
open Go.RowKit
theorem IB:Ieee.double.read 14069245235905429504 = .number true 4503599627370496 1:=by decide
theorem GI:Ieee.double.read 4845873199050653696 = .number false 4503599627370496 1:=by decide
theorem qM (s:Bool) (u:Nat):Ieee.signed s 4503599627370496 (1 - -(u:Int)).toNat=sgn s 9007199254740992*2^u:=by
 have e:4503599627370496 <<< (1 - -(u:Int)).toNat=9007199254740992*2^u:=by
  rw[show(1 - -(u:Int)).toNat=1+u from by omega,Nat.shiftLeft_eq,Nat.pow_add,←Nat.mul_assoc]
 unfold Ieee.signed sgn
 rw[e]
 split
 ·rw[Int.neg_mul,Int.natCast_mul,Int.natCast_pow];rfl
 ·rw[Int.natCast_mul,Int.natCast_pow];rfl
theorem EY {b:Nat} {z:Int} (h:Fl b z):FloatKind.f64.format.order b 14069245235905429504=some .gt:=by
 have hz:=h.bound
 obtain⟨s,m,rfl,hm,rfl⟩:=h
 obtain⟨u,hu,eu⟩:=gO s m hm
 simp only[FloatKind.format,Ieee.Format.order,eu,IB,Ieee.Datum.order]
 rw[show min (-(u:Int)) 1 = -(u:Int) from by omega,fQ s m u u (Nat.le_refl _),qM,js _ _ _ (gN u),Int.compare_eq_gt.2]
 unfold sgn at hz ⊢
 simp only[if_true]
 omega
theorem DX {b:Nat} {z:Int} (h:Fl b z):FloatKind.f64.format.order b 4845873199050653696=some .lt:=by
 have hz:=h.bound
 obtain⟨s,m,rfl,hm,rfl⟩:=h
 obtain⟨u,hu,eu⟩:=gO s m hm
 simp only[FloatKind.format,Ieee.Format.order,eu,GI,Ieee.Datum.order]
 rw[show min (-(u:Int)) 1 = -(u:Int) from by omega,fQ s m u u (Nat.le_refl _),qM,js _ _ _ (gN u),Int.compare_eq_lt.2]
 unfold sgn at hz ⊢
 simp only[Bool.false_eq_true,if_false]
 omega
theorem tP {b:Nat} {z:Int} (h:Fl b z) (w:World):Calls Tryz.prog 202 #[.float .f64 b] w fun e w'=>e = .returned (.int .i64 z)∧w=w':=by
 have h1:=EY h
 have h2:=DX h
 have h3:FloatKind.f64.format.order b b=some .eq:=by rw[h.order h,Int.compare_eq_eq.2 rfl]
 have h4:=fun W=>run_convert_float_int (P:=Tryz.prog) W 319 2 .f64 .i64 b z (by kernel_rfl) Tryz.underlying2 h.toInt
 have H:=Lib.hid h
 clear h
 go_enter Tryz.func202,Tryz.ntmps202
 go_wp2_with (go_at_call 278;refine(Ia H.out _).mono ?_;rintro e w' ⟨rfl,rfl⟩)
 go_ret
 exact⟨rfl,rfl⟩
theorem BB {a b:Nat} {x y:Int} (ha:Fl a x) (hb:Fl b y) (w:World):Calls Tryz.prog 130 #[.complex .f64 a b] w fun e w'=>e = .returned (.tuple #[.int .i64 x,.int .i64 y])∧w=w':=by
 have HA:=Lib.hid ha
 have HB:=Lib.hid hb
 clear ha hb
 go_enter Tryz.func130,Tryz.ntmps130
 go_wp2_with fail
 refine(tP HA.out _).mono ?_
 rintro e w' ⟨rfl,rfl⟩
 go_wp2_with fail
 refine(tP HB.out _).mono ?_
 rintro e w' ⟨rfl,rfl⟩
 go_wp2
 go_ret2
 exact⟨rfl,rfl⟩
def CV (v:Value) (x y:Int):Prop := ∃ a b,v = .complex .f64 a b∧Fl a x∧Fl b y
theorem KT (x y:Int) (w:World):Calls Tryz.prog 129 #[.int .i64 x,.int .i64 y] w fun e w' => ∃ v,e = .returned v∧CV v (hold x) (hold y)∧w=w':=by
 have HC:=Lib.hid (show CV (.complex .f64 (floatOfInt .f64 (hold x)) (floatOfInt .f64 (hold y))) (hold x) (hold y) from by
  have:=zY x;have:=AK x;have:=zY y;have:=AK y
  exact⟨_,_,rfl,Fl.ofInt _ (by omega) (by omega),Fl.ofInt _ (by omega) (by omega)⟩)
 go_enter Tryz.func129,Tryz.ntmps129
 go_wp2_with (go_at_call 124;refine(EH _ _).mono ?_;rintro e w' ⟨rfl,rfl⟩)
 go_ret
 exact⟨_,rfl,HC.out,rfl⟩
end
section
open Go.RowKit
def dM (l:List (Int×Int)):Int×Int:=l.foldl (fun s z=>(s.1+z.1,s.2+z.2)) (0,0)
theorem tY (l:List (Int×Int)) (z:Int×Int):dM (l ++ [z])=((dM l).1+z.1,(dM l).2+z.2):=by simp[dM]
def gj (M:Int) (z:Int×Int):Prop := -M≤z.1∧z.1≤M ∧ -M≤z.2∧z.2≤M
theorem vR (l:List (Int×Int)) (s:Int×Int):l.foldl (fun s z=>(s.1+z.1,s.2+z.2)) s=(s.1+(dM l).1,s.2+(dM l).2):=by
 induction l generalizing s with
 | nil=>simp[dM]
 | cons x l ih=>
   have h:=ih (0+x.1,0+x.2)
   unfold dM
   rw[List.foldl_cons,List.foldl_cons,ih,h]
   simp only[Prod.mk.injEq]
   omega
theorem tX (z:Int×Int) (l:List (Int×Int)):dM (z::l)=(z.1+(dM l).1,z.2+(dM l).2):=by
 have h:=vR l (0+z.1,0+z.2)
 unfold dM at h ⊢
 rw[List.foldl_cons,h]
 simp
theorem zw (M:Int) (h0:0≤M) (l:List (Int×Int)) (h:∀ z ∈ l,gj M z):gj ((l.length:Int)*M) (dM l):=by
 induction l with
 | nil=>simp[dM,gj]
 | cons z l ih=>
   obtain⟨a1,a2,a3,a4⟩:=h z (List.mem_cons_self ..)
   obtain⟨b1,b2,b3,b4⟩:=ih (fun x hx=>h x (List.mem_cons_of_mem _ hx))
   rw[tX]
   have e:((l.length+1:Nat):Int)*M=(l.length:Int)*M+M:=by rw[Int.natCast_add,Int.add_mul];simp
   rw[List.length_cons,e]
   unfold gj
   simp only
   omega
theorem Bj (n:Nat) (N M:Int) (z:Int×Int) (hM:0≤M) (hn:(n:Int)≤N) (h:gj ((n:Int)*M) z):gj (N*M) z:=by
 have:=Int.mul_le_mul_of_nonneg_right hn hM
 unfold gj at *
 omega
def cxv (p:Nat×Nat):Value := .complex .f64 p.1 p.2
def FlL (ps:List (Nat×Nat)) (zs:List (Int×Int)):Prop:=ps.length=zs.length ∧ ∀ (i:Nat) p z,ps[i]?=some p→zs[i]?=some z→Fl p.1 z.1∧Fl p.2 z.2
theorem FlL.nil:FlL [] []:=⟨rfl,fun i p z h=>by simp at h⟩
theorem FlL.snoc {ps:List (Nat×Nat)} {zs:List (Int×Int)} (h:FlL ps zs) {v:Value} {x y:Int} (hv:CV v x y):∃ p:Nat×Nat,v = .complex .f64 p.1 p.2∧FlL (ps ++ [p]) (zs ++ [(x,y)]):=by
 obtain⟨a,b,rfl,ha,hb⟩:=hv
 refine⟨(a,b),rfl,by simp[h.1],fun i p z hp hz=>?_⟩
 have hl:=h.1
 by_cases hi:i<ps.length
 ·rw[List.getElem?_append_left hi]at hp
  rw[List.getElem?_append_left (by omega)]at hz
  exact h.2 i p z hp hz
 ·rw[List.getElem?_append_right (by omega)]at hp
  rw[List.getElem?_append_right (by omega)]at hz
  have h0:i-ps.length=0:=by
   rcases Nat.eq_zero_or_pos (i-ps.length) with h | h
   ·exact h
   ·rw[List.getElem?_eq_none (by simp;omega)]at hp;cases hp
  rw[h0]at hp
  rw[show i-zs.length=0 from by omega]at hz
  simp at hp hz
  subst hp hz
  exact⟨ha,hb⟩
theorem FI (A:Option Addr) (n c B:Nat) (ps:List (Nat×Nat)) (zs:List (Int×Int)) (w:World) (hr:Reads w B 1 A n (ps.map cxv)) (hf:FlL ps zs) (hs:∀ z ∈ zs,gj 1099511627776 z) (hn:n≤4096):
 Calls Tryz.prog 131 #[.slice A n c] w fun e w' => ∃ a b,e = .returned (.complex .f64 a b)∧Fl a (dM zs).1∧Fl b (dM zs).2∧w=w':=by
 have hl:ps.length=n:=by simpa using hr.1
 have HL:=Lib.hid hl
 have HF:=Lib.hid hf
 have HS:=Lib.hid hs
 have HR:=Lib.hid hr
 clear hl hf hs hr
 go_enter Tryz.func131,Tryz.ntmps131
 go_wp2
 go_loop [3,8] (fun s i => ∃ k a b:Nat,k≤n∧i = .int .i64 k∧s = .complex .f64 a b∧Hid (Fl a (dM (zs.take k)).1∧Fl b (dM (zs.take k)).2)) (fun _ i=>n-(intOf i).toNat)
 case atStart=>exact⟨0,0,0,Nat.zero_le _,rfl,rfl,Lib.hid ⟨Fl.zero,Fl.zero⟩⟩
 case round=>
  obtain⟨k,a,b,hk,rfl,rfl,HA⟩:=hrel
  by_cases hlt:k<n
  ·obtain⟨ad,u,rfl,hb,hx,hc⟩:=HR.out.at_ hlt
   obtain⟨p,hp,rfl⟩:∃ p,ps[k]?=some p∧cxv p=u:=by simpa using hx
   obtain⟨z,hz⟩:∃ z,zs[k]?=some z:=⟨_,List.getElem?_eq_getElem (by rw[←HF.out.1,HL.out];exact hlt)⟩
   obtain⟨hp1,hp2⟩:=HF.out.2 k p z hp hz
   have ht:zs.take (k+1)=zs.take k ++ [z]:=by rw[List.take_add_one,hz];rfl
   have hsm:gj (4096*1099511627776) (dM (zs.take (k+1))):=by
    refine Bj (zs.take (k+1)).length 4096 _ _ (by omega) (by rw[List.length_take];omega) (zw _ (by omega) _ (fun x hx=>HS.out x (List.mem_of_mem_take hx)))
   rw[ht,tY]at hsm
   unfold gj at hsm
   simp only at hsm
   obtain⟨r1,hr1,hf1⟩:=HA.out.1.add hp1 (by omega) (by omega)
   obtain⟨r2,hr2,hf2⟩:=HA.out.2.add hp2 (by omega) (by omega)
   have HN:=Lib.hid (show Fl r1 (dM (zs.take (k+1))).1∧Fl r2 (dM (zs.take (k+1))).2 from by rw[ht,tY];exact⟨hf1,hf2⟩)
   have hadd:=fun W=>run_complex_sum (P:=Tryz.prog) W .add (Or.inl rfl) 236 .f64 a b p.1 p.2 r1 r2 (by unfold cSumBits;rw[hr1,hr2];rfl)
   have hc':w.cell? (ad.add k)=some (.complex .f64 p.1 p.2):=hc
   have i1:(0:Int)≤(k:Int):=by omega
   have i2:(k:Int)<(n:Int):=by omega
   clear hx hp hz hp1 hp2 ht hsm hr1 hf1 hr2 hf2 hc
   go_wp2
   go_round
   case rel=>exact⟨k+1,r1,r2,by omega,by go_num,rfl,HN⟩
   case measure=>simp[intOf];omega
  ·obtain rfl:n=k:=by omega
   have hA:=HA.out
   rw[List.take_of_length_le (by rw[←HF.out.1,HL.out];exact Nat.le_refl _)]at hA
   have HA':=Lib.hid hA
   clear hA
   go_wp2
   go_ret
   exact⟨_,_,rfl,HA'.out.1,HA'.out.2,rfl⟩
theorem Tryz.infoC128:(Tryz.prog.info? 236).map (fun i=>(i.zero,i.size,i.bytes))=some (some (.complex .f64 0 0),1,16):=by kernel_rfl
end
section
open Go.RowKit Go.ChangeShapes
def oD (n:Int):Bool:=decide (0≤n∧n≤1099511627776)
theorem CK (n:Int) (w:World):Calls Tryz.prog 198 #[.int .i64 n] w fun e w'=>e = .returned (.bool (oD n))∧w=w':=by
 go_enter Tryz.func198,Tryz.ntmps198
 go_wp2
 all_goals
  go_ret
  refine⟨aS ?_,rfl⟩
  unfold oD
  first | (symm;rw[decide_eq_false_iff_not];omega) | (rw[Bool.eq_iff_iff,decide_eq_true_eq,decide_eq_true_eq];omega)
def ox (n:Int):Bool:=oD n
theorem Du (n:Int):(n == hold n)=ox n:=by
 unfold ox oD hold
 rw[Bool.eq_iff_iff,beq_iff_eq,decide_eq_true_eq]
 split
 ·omega
 ·split<;>omega
def bQ (c:Int×Int):Bool := !(ox c.1) || !(ox c.2)
theorem Ds (n:Int) (w:World):Calls Tryz.prog 199 #[.int .i64 n] w fun e w'=>e = .returned (.bool (ox n))∧w=w':=by
 go_enter Tryz.func199,Tryz.ntmps199
 go_wp2_with (go_at_call 124;refine(EH _ _).mono ?_;rintro e w' ⟨rfl,rfl⟩)
 go_ret
 exact⟨aS (Du n),rfl⟩
theorem Ib (c:Int×Int) (g:Nat) (W:World) (hg:Blk W g 316 #[.func (.func 199) #[] #[]]):Calls Tryz.prog 200 #[.agg (gL c),.pointer (some ⟨g,0,none⟩)] W fun e w'=>e = .returned (.bool (bQ c))∧Below W.heap.size W w':=by
 have HG:=Lib.hid (hg.alloc (.cells (gL c) 160))
 have HW:=Lib.hid ((Below.refl W.heap.size W).alloc (Nat.le_refl _) (.cells (gL c) 160))
 clear hg
 have c0:(W.alloc (.cells (gL c) 160)).cell? ⟨g,0,none⟩=some (.func (.func 199) #[] #[]):=HG.out.cell 0
 go_enter Tryz.func200,Tryz.ntmps200
 go_wp2_with fail
 refine(Ds _ _).mono ?_
 rintro e w1 ⟨rfl,rfl⟩
 cases h1:ox c.1
 ·have HE:=Lib.hid (show bQ c=true from by unfold bQ;rw[h1];rfl)
  clear h1
  go_wp2
  go_ret
  exact⟨aS HE.out.symm,HW.out⟩
 ·go_wp2_with fail
  refine(Ds _ _).mono ?_
  rintro e w1 ⟨rfl,rfl⟩
  have HE:=Lib.hid (show bQ c = !(ox c.2) from by unfold bQ;rw[h1];rfl)
  clear h1
  go_wp2
  go_ret
  exact⟨aS HE.out.symm,HW.out⟩
theorem any_false {cs:List (Int×Int)} {n:Nat} (hl:cs.length=n) (h:∀ (j:Nat) e,j<n→cs[j]?=some e→bQ e=false):cs.any bQ=false:=by
 rw[List.any_eq_false]
 intro e he
 obtain⟨j,hj⟩:=List.mem_iff_getElem?.1 he
 rw[h j e (by have:=(List.getElem?_eq_some_iff.1 hj).1;omega) hj]
 simp
theorem any_true {cs:List (Int×Int)} {k:Nat} {e:Int×Int} (h:cs[k]?=some e) (hw:bQ e=true):cs.any bQ=true:=by
 rw[List.any_eq_true]
 exact⟨e,List.mem_of_getElem? h,hw⟩
theorem GP (A:Option Addr) (n c B:Nat) (cs:List (Int×Int)) (g:Nat) (W:World) (hr:Reads W B 2 A n (bJ cs)) (hB:B≤W.heap.size) (hn:n≤1000000) (hg:Blk W g 316 #[.func (.func 199) #[] #[]]):Calls Tryz.prog 277 #[.slice A n c,(.func (.func 200) #[] #[.pointer (some ⟨g,0,none⟩)])] W fun e w' => ∃ r:Int,e = .returned (.int .i64 r)∧decide (0≤r)=cs.any bQ∧Below W.heap.size W w':=by
 have HR:=Lib.hid (hr.more hB)
 have HL:=Lib.hid hr.cell_len
 have HG:=Lib.hid hg
 clear hr hg
 go_enter Tryz.func277,Tryz.ntmps277
 go_wp2
 go_loopw [8] (fun i wr => ∃ (k:Nat),k≤n∧i = .int .i64 k∧Hid (∀ (j:Nat) e,j<k→cs[j]?=some e→bQ e=false)∧Hid (Below W.heap.size W wr)) (fun i _=>n-(intOf i).toNat)
 case atStart=>exact⟨0,Nat.zero_le _,rfl,Lib.hid (fun j e hj=>absurd hj (by omega)),Lib.hid (Below.refl _ _)⟩
 case round=>
  obtain⟨k,hk,rfl,HS,HB⟩:=hrel
  by_cases hlt:k<n
  ·obtain⟨ad,e,rfl,hb,he,d0,d1⟩:=Av (HR.out.below HB.out) hlt
   have HE:=Lib.hid he
   have i1:(0:Int)≤(k:Int):=by omega
   have i2:(k:Int)<(n:Int):=by omega
   clear he
   go_wp2_with fail
   refine(Ib e g wr (HG.out.below HB.out HG.out.lt)).mono ?_
   rintro e' w1 ⟨rfl,hb1⟩
   have HB1:=Lib.hid (HB.out.trans (hb1.mono HB.out.size))
   clear hb1 HB d0 d1
   cases hw:bQ e
   ·have HS2:=Lib.hid (show ∀ (j:Nat) e,j<k+1→cs[j]?=some e→bQ e=false from fun j e' hj he'=>by
     by_cases hjk:j<k
     ·exact HS.out j e' hjk he'
     ·obtain rfl:j=k:=by omega
      rw[HE.out]at he';injection he' with he';subst he';exact hw)
    clear hw
    go_wp2
    exact⟨⟨k+1,by omega,rfl,HS2,HB1⟩,by simp[intOf];omega⟩
   ·have HA:=Lib.hid (any_true HE.out hw)
    clear hw
    go_wp2
    go_ret
    exact⟨_,rfl,by rw[HA.out,decide_eq_true_eq];omega,HB1.out⟩
  ·obtain rfl:n=k:=by omega
   have HA:=Lib.hid (any_false HL.out HS.out)
   go_wp2
   go_ret
   exact⟨_,rfl,by rw[HA.out];rfl,HB.out⟩
theorem zl (A:Option Addr) (n c B:Nat) (cs:List (Int×Int)) (g:Nat) (W:World) (hr:Reads W B 2 A n (bJ cs)) (hB:B≤W.heap.size) (hn:n≤1000000) (hg:Blk W g 316 #[.func (.func 199) #[] #[]]):Calls Tryz.prog 201 #[.slice A n c,(.func (.func 200) #[] #[.pointer (some ⟨g,0,none⟩)])] W fun e w'=>e = .returned (.bool (cs.any bQ))∧Below W.heap.size W w':=by
 have HR:=Lib.hid hr
 have HG:=Lib.hid hg
 clear hr hg
 go_enter Tryz.func201,Tryz.ntmps201
 go_wp2_with fail
 refine(GP A n c B cs g _ HR.out hB hn HG.out).mono ?_
 rintro e w1 ⟨r,rfl,hr,hb⟩
 have H1:=Lib.hid hr
 clear hr
 go_wp2
 go_ret
 exact⟨aS H1.out,hb⟩
def jP (wd sl:Int) (cs:List (Int×Int)):Bool:=decide (1≤wd∧wd≤2147483647∧0≤sl∧sl≤1099511627776∧1≤cs.length∧cs.length≤16) && !(cs.any bQ)
abbrev Ll (wd sl:Int) (A:Option Addr) (n c:Nat):Array Value:=#[.int .i64 wd,.int .i64 sl,.slice A n c]
set_option maxHeartbeats 1000000 in
theorem DD (wd sl:Int) (A:Option Addr) (n c B:Nat) (cs:List (Int×Int)) (W:World) (hr:Reads W B 2 A n (bJ cs)) (hB:B≤W.heap.size) (hn:n≤9223372036854775807):Calls Tryz.prog 125 #[.agg (Ll wd sl A n c)] W fun e w'=>e = .returned (.bool (jP wd sl cs))∧Below W.heap.size W w':=by
 have HR:=Lib.hid hr
 have HD:=Lib.hid (show jP wd sl cs=(decide (1≤wd∧wd≤2147483647∧0≤sl∧sl≤1099511627776∧1≤n∧n≤16) && !(cs.any bQ)) from by unfold jP;rw[hr.cell_len])
 generalize jP wd sl cs=res at HD ⊢
 clear hr
 have HK1:Hid (Kept W (W.alloc (.cells #[.int .i64 wd,.int .i64 sl,.slice A n c] 103)) [(W.heap.size,103,#[.int .i64 wd,.int .i64 sl,.slice A n c])]):=((Kept.start W).alloc_at 103 #[.int .i64 wd,.int .i64 sl,.slice A n c] (W.heap.size) (by simp))
 by_cases g:wd<1
 ·have x0:decide (wd<1)=true:=by simpa using g
  have HE:=Lib.hid (show res=false from by rw[HD.out,decide_eq_false (by omega),Bool.false_and])
  clear HD
  go_enter Tryz.func125,Tryz.ntmps125
  go_wp2
  go_ret
  exact⟨aS HE.out.symm,HK1.out.bel⟩
 have x0:decide (wd<1)=false:=by simpa using g
 by_cases g:2147483647<wd
 ·have x1:decide (2147483647<wd)=true:=by simpa using g
  have HE:=Lib.hid (show res=false from by rw[HD.out,decide_eq_false (by omega),Bool.false_and])
  clear HD
  go_enter Tryz.func125,Tryz.ntmps125
  go_wp2
  go_ret
  exact⟨aS HE.out.symm,HK1.out.bel⟩
 have x1:decide (2147483647<wd)=false:=by simpa using g
 go_enter Tryz.func125,Tryz.ntmps125
 go_wp2_with fail
 refine(CK sl _).mono ?_
 rintro e w1 ⟨rfl,rfl⟩
 cases ht:oD sl
 ·have HE:=Lib.hid (show res=false from by unfold oD at ht;rw[decide_eq_false_iff_not]at ht;rw[HD.out,decide_eq_false (by omega),Bool.false_and])
  clear HD ht
  go_wp2
  go_ret
  exact⟨aS HE.out.symm,HK1.out.bel⟩
 unfold oD at ht
 rw[decide_eq_true_eq]at ht
 by_cases g:n<1
 ·have x2:decide ((n:Int)<1)=true:=by simp;omega
  have HE:=Lib.hid (show res=false from by rw[HD.out,decide_eq_false (by omega),Bool.false_and])
  clear HD
  go_wp2
  go_ret
  exact⟨aS HE.out.symm,HK1.out.bel⟩
 have x2:decide ((n:Int)<1)=false:=by simp;omega
 by_cases g:16<n
 ·have x3:decide ((16:Int)<(n:Int))=true:=by simp;omega
  have HE:=Lib.hid (show res=false from by rw[HD.out,decide_eq_false (by omega),Bool.false_and])
  clear HD
  go_wp2
  go_ret
  exact⟨aS HE.out.symm,HK1.out.bel⟩
 have x3:decide ((16:Int)<(n:Int))=false:=by simp;omega
 have HE:=Lib.hid (show res = !(cs.any bQ) from by rw[HD.out,decide_eq_true (by omega),Bool.true_and])
 clear HD
 have HK2:Hid (Kept W ((W.alloc (.cells #[.int .i64 wd,.int .i64 sl,.slice A n c] 103)).alloc (.cells #[.func (.func 199) #[] #[]] 316)) [(W.heap.size+1,316,#[.func (.func 199) #[] #[]]),(W.heap.size,103,#[.int .i64 wd,.int .i64 sl,.slice A n c])]):=HK1.out.alloc_at 316 #[.func (.func 199) #[] #[]] (W.heap.size+1) (by simp)
 clear HK1
 go_wp2_with fail
 refine(zl A n c W.heap.size cs (W.heap.size+1) _ ((HR.out.more hB).below HK2.out.bel) HK2.out.size (by omega) (HK2.out.blk 0 rfl)).mono ?_
 rintro e w2 ⟨rfl,hb2⟩
 have HK3:Hid (Kept W w2 [(W.heap.size+1,316,#[.func (.func 199) #[] #[]]),(W.heap.size,103,#[.int .i64 wd,.int .i64 sl,.slice A n c])]):=HK2.out.next hb2
 clear HK2
 clear hb2
 go_wp2
 go_ret
 exact⟨aS HE.out.symm,HK3.out.bel⟩
end
section
open Go.RowKit Go.ChangeShapes
def su (W:World) (r:Int×Int) (e:Ending) (w':World):Prop:=e = .returned (.agg (gL r))∧Below W.heap.size W w'
theorem su.of {W:World} {r r':Int×Int} {e:Ending} {w':World} (h:r=r') (hk:su W r' e w'):su W r e w':=h ▸ hk
theorem Md {w:World} {g:Nat} {a b a' b':Value} {t:TypeId} (h:Blk w g t #[a,b]):Blk ((w.setCell ⟨g,0,none⟩ a').setCell ⟨g,1,none⟩ b') g t #[a',b']:=(h.set_ 0 a').set_ 1 b'
end
section
open Go.RowKit Go.ChangeShapes
theorem qR {wd sl:Int} {cs:List (Int×Int)}:jP wd sl cs=true ↔ (1≤wd∧wd≤2147483647∧0≤sl∧sl≤1099511627776∧1≤cs.length∧cs.length≤16) ∧ ∀ e ∈ cs,bQ e=false:=by
 unfold jP
 rw[Bool.and_eq_true,decide_eq_true_eq]
 simp
end
section
open Go.RowKit Go.ChangeShapes
def nV (wd sl:Int) (cs:List (Int×Int)):Int×Int:=if jP wd sl cs=true then dM cs else(0,0)
theorem lf {e:Int×Int}:bQ e=false ↔ 0≤e.1∧e.1≤1099511627776∧0≤e.2∧e.2≤1099511627776:=by
 unfold bQ ox oD
 rw[Bool.or_eq_false_iff,Bool.not_eq_false',Bool.not_eq_false',decide_eq_true_eq,decide_eq_true_eq]
 omega
theorem wS:∀ (l:List (Int×Int)),(∀ e ∈ l,bQ e=false)→0≤(dM l).1∧(dM l).1≤l.length*1099511627776∧0≤(dM l).2∧(dM l).2≤l.length*1099511627776
 | [],_=>by decide
 | e::l,h=>by
   obtain⟨a,b,c,d⟩:=wS l (fun x hx=>h x (List.mem_cons_of_mem _ hx))
   have:=lf.1 (h e (List.mem_cons_self ..))
   rw[tX]
   simp only[List.length_cons]
   omega
theorem Cf {l:List (Int×Int)} (h:∀ e ∈ l,bQ e=false) (hl:l.length≤16):0≤(dM l).1∧(dM l).1≤17592186044416∧0≤(dM l).2∧(dM l).2≤17592186044416:=by
 have:=wS l h
 omega
theorem Bo (wd sl:Int) (cs:List (Int×Int)):0≤(nV wd sl cs).1∧(nV wd sl cs).1≤17592186044416∧0≤(nV wd sl cs).2∧(nV wd sl cs).2≤17592186044416:=by
 unfold nV
 split
 ·rename_i h
  obtain⟨h1,h2⟩:=qR.1 h
  exact Cf h2 h1.2.2.2.2.2
 ·decide
theorem qp {cs:List (Int×Int)} {k:Nat} {e:Int×Int} (h:cs[k]?=some e):cs.take (k+1)=cs.take k ++ [e]:=by rw[List.take_add_one,h];rfl
theorem xu {W:World} {g:Nat} {x0 x1:Value} (h:Blk W g 160 #[x0,x1]) (tmps:Array Value) (ht:tmps[2]?.getD undef = .pointer (some ⟨g,0,none⟩)):(results Tryz.f69 tmps).run Tryz.prog W = .ok (.agg #[x0,x1]) W:=by
 have c0:W.cell? ⟨g,0,none⟩=some x0:=h.cell 0
 have c1:W.cell? ⟨g,1,none⟩=some x1:=h.cell 1
 simp[results,Tryz.results69,go_sem,ht,c0,c1]
set_option maxHeartbeats 4000000 in
theorem KR (wd sl:Int) (A:Option Addr) (n c B:Nat) (cs:List (Int×Int)) (W:World) (hr:Reads W B 2 A n (bJ cs)) (hB:B≤W.heap.size) (hn:n≤9223372036854775807):Calls Tryz.prog 69 #[.agg (Ll wd sl A n c)] W (su W (nV wd sl cs)):=by
 have HR:=Lib.hid (hr.more hB)
 have HL:=Lib.hid hr.cell_len
 clear hr
 have HK1:Hid (Kept W ((W.alloc (.cells #[.int .i64 wd,.int .i64 sl,.slice A n c] 103)).alloc (.cells #[.int .i64 0,.int .i64 0] 160)) [(W.heap.size+1,160,#[.int .i64 0,.int .i64 0]),(W.heap.size,103,#[.int .i64 wd,.int .i64 sl,.slice A n c])]):=(((Kept.start W).alloc_at 103 #[.int .i64 wd,.int .i64 sl,.slice A n c] (W.heap.size) (by simp)).alloc_at 160 #[.int .i64 0,.int .i64 0] (W.heap.size+1) (by simp))
 obtain⟨i0,hi0,hz0,hz1,hz2⟩:=info_parts Tryz.infoC128
 go_enter Tryz.func69,Tryz.ntmps69
 go_wp2_with fail
 with_reducible refine(DD wd sl A n c W.heap.size cs _ (HR.out.below HK1.out.bel) HK1.out.size hn).mono ?_
 rintro e w1 ⟨rfl,hb1⟩
 have HK2:Hid (Kept W w1 [(W.heap.size+1,160,#[.int .i64 0,.int .i64 0]),(W.heap.size,103,#[.int .i64 wd,.int .i64 sl,.slice A n c])]):=HK1.out.next hb1
 clear HK1
 clear hb1
 cases hrt:jP wd sl cs
 ·have HE:=Lib.hid (show nV wd sl cs=(0,0) from by unfold nV;rw[hrt];rfl)
  clear hrt
  have c_r_0:w1.cell? ⟨W.heap.size+1,0,none⟩=some (.int .i64 0):=HK2.out.cell 0 rfl 0
  have z_r_0:w1.frozen? ⟨W.heap.size+1,0,none⟩=false:=HK2.out.frozen 0 rfl 0
  have c_r_1:w1.cell? ⟨W.heap.size+1,1,none⟩=some (.int .i64 0):=HK2.out.cell 0 rfl 1
  have z_r_1:w1.frozen? ⟨W.heap.size+1,1,none⟩=false:=HK2.out.frozen 0 rfl 1
  go_wp2
  exact bodyPost_ret (xu (Md (HK2.out.blk 0 rfl)) _ rfl) rfl (su.of HE.out ⟨rfl,(HK2.out.bel.setCell (by simp) _).setCell (by simp) _⟩)
 ·have HE:=Lib.hid (show nV wd sl cs=dM cs from by unfold nV;rw[hrt];rfl)
  obtain⟨⟨r1,r2,r3,r4,r5,r6⟩,hw⟩:=qR.1 hrt
  have HW:=Lib.hid hw
  rw[HL.out]at r5 r6
  clear hrt hw r1 r2 r3 r4
  have c_f_0:w1.cell? ⟨W.heap.size,0,none⟩=some (.int .i64 wd):=HK2.out.cell 1 rfl 0
  have c_f_1:w1.cell? ⟨W.heap.size,1,none⟩=some (.int .i64 sl):=HK2.out.cell 1 rfl 1
  have c_f_2:w1.cell? ⟨W.heap.size,2,none⟩=some (.slice A n c):=HK2.out.cell 1 rfl 2
  go_wp2_with (at_make;go_must (refine wpList_make_own _ rfl _ _ 235 rfl w1.heap.size 236 i0 _ 1 Tryz.underlying235 hi0 hz0 hz1 _ _ _ n rfl rfl (by omega) (by rw[hz2];omega) (by unfold maxLen;omega) (Nat.le_refl _) ?_);intro w2 hown2 hg2;have HKm:=Lib.hid (HK2.out.own hg2 (fun g h=>by cases h));clear c_f_0 c_f_1 c_f_2;have c_f_2:=HKm.out.cell 1 rfl 2;simp only[List.getElem?_toArray,List.getElem?_cons_zero,List.getElem?_cons_succ]at c_f_2)
  have HO:Hid (∃ ps,w2.ownsRow (W.heap.size+2) 236 1 (.slice (some ⟨w1.heap.size,0,none⟩) 0 n) 0 (ps.map cxv)∧FlL ps (cs.take 0)):=⟨[],bX hown2 (HK2.out.lt 0 rfl),FlL.nil⟩
  clear hown2 hg2 c_f_2
  clear HK2
  go_loopw [3,19] (fun v i wr => ∃ k:Nat,k≤n∧i = .int .i64 k∧Hid (∃ ps,wr.ownsRow (W.heap.size+2) 236 1 v k (ps.map cxv)∧FlL ps (cs.take k))∧Hid (Kept W wr [(W.heap.size+1,160,#[.int .i64 0,.int .i64 0]),(W.heap.size,103,#[.int .i64 wd,.int .i64 sl,.slice A n c])])) (fun _ i _=>n-(intOf i).toNat)
  case atStart=>exact⟨0,Nat.zero_le _,rfl,HO,HKm⟩
  case round=>
   obtain⟨k,hk,rfl,HP,HK⟩:=hrel
   clear HO HKm
   obtain⟨ps,hown,hf⟩:=HP.out
   have HF:=Lib.hid hf
   have HO:=Lib.hid hown
   clear HP hf hown
   by_cases hlt:k<n
   ·obtain⟨ad,e,rfl,hb,he,d0,d1⟩:=Av (HR.out.below HK.out.bel) hlt
    have i1:(0:Int)≤(k:Int):=by omega
    have i2:(k:Int)<(n:Int):=by omega
    have hbd:=lf.1 (HW.out e (List.mem_of_getElem? he))
    have HT:=Lib.hid (qp he)
    clear he
    have HKa:=Lib.hid (HK.out.alloc_off (.cells (gL e) 160))
    have HOa:=Lib.hid (BN HO.out ((Below.refl _ _).alloc (Nat.le_refl _) (.cells (gL e) 160)) (Nat.le_refl _))
    have hsz:=HKa.out.lt 0 rfl
    go_wp2_with fail
    refine(KT _ _ _).mono ?_
    rintro e' w' ⟨v1,rfl,hv1,rfl⟩
    rw[AV _ hbd.1 hbd.2.1,AV _ hbd.2.2.1 hbd.2.2.2]at hv1
    obtain⟨p,rfl,hfp⟩:=FlL.snoc HF.out hv1
    rw[show cs.take k ++ [(e.1,e.2)]=cs.take (k+1) from HT.out.symm]at hfp
    have HFP:=Lib.hid hfp
    clear hfp hv1
    generalize wr.alloc (.cells (gL e) 160)=wq at HKa HOa hsz ⊢
    clear HO HK
    go_wp2_with (at_builtin;go_must (refine eD wq rfl _ _ 235 rfl (W.heap.size+2) 236 i0 _ 16 Tryz.underlying235 hi0 hz0 hz1 hz2 rfl _ _ _ HOa.out rfl (.complex .f64 p.1 p.2) rfl rfl (by unfold maxLen;omega) (by omega) hsz ?_);intro v' w3 hown3 hg3)
    have HKn:=Lib.hid (HKa.out.own hg3 (fun g h=>by have:=Kb HOa.out g h;exact⟨by omega,fun x hx=>by simp at hx;rcases hx with rfl | rfl<;>simp<;>omega⟩))
    have HN:Hid (∃ ps,w3.ownsRow (W.heap.size+2) 236 1 v' (k+1) (ps.map cxv)∧FlL ps (cs.take (k+1))):=⟨ps ++ [p],by rw[List.map_append];exact hown3,HFP.out⟩
    clear hown3 hg3
    go_roundw
    case rel=>exact⟨k+1,by omega,by go_num,HN,HKn⟩
    case measure=>simp[intOf];omega
   ·obtain rfl:n=k:=by omega
    rw[List.take_of_length_le (by rw[HL.out];exact Nat.le_refl _)]at HF
    obtain⟨A2,c2,rfl,_,_,_,hr2⟩:=cS HO.out
    have HR2:=Lib.hid hr2
    clear hr2
    go_wp2_with fail
    refine(FI A2 n c2 _ ps _ _ HR2.out HF.out (fun z hz=>by have:=lf.1 (HW.out z hz);unfold gj;omega) (by omega)).mono ?_
    rintro e w' ⟨a,b,rfl,ha,hb,rfl⟩
    have HA:=Lib.hid ha
    have HB2:=Lib.hid hb
    clear ha hb
    go_wp2_with fail
    refine(BB HA.out HB2.out _).mono ?_
    rintro e w' ⟨rfl,rfl⟩
    have c_r_0:wr.cell? ⟨W.heap.size+1,0,none⟩=some (.int .i64 0):=HK.out.cell 0 rfl 0
    have z_r_0:wr.frozen? ⟨W.heap.size+1,0,none⟩=false:=HK.out.frozen 0 rfl 0
    have c_r_1:wr.cell? ⟨W.heap.size+1,1,none⟩=some (.int .i64 0):=HK.out.cell 0 rfl 1
    have z_r_1:wr.frozen? ⟨W.heap.size+1,1,none⟩=false:=HK.out.frozen 0 rfl 1
    go_wp2
    exact bodyPost_ret (xu (Md (HK.out.blk 0 rfl)) _ rfl) rfl (su.of HE.out ⟨rfl,(HK.out.bel.setCell (by simp) _).setCell (by simp) _⟩)
end
section
open Go.RowKit Go.ChangeShapes
def tL (c:Int×Int):Int:=if c.1+c.2=0 then 0 else 1000*c.2/(c.1+c.2)
set_option maxHeartbeats 4000000 in
theorem Iw (wd sl:Int) (A:Option Addr) (n c B:Nat) (cs:List (Int×Int)) (W:World) (hr:Reads W B 2 A n (bJ cs)) (hB:B≤W.heap.size) (hn:n≤9223372036854775807):Calls Tryz.prog 34 #[.agg (Ll wd sl A n c)] W (fun e w'=>e = .returned (.int .i64 (tL (nV wd sl cs)))∧Below W.heap.size W w'):=by
 have HR:=Lib.hid (hr.more hB)
 have HL:=Lib.hid hr.cell_len
 clear hr
 obtain⟨s1,s2,s3,s4⟩:=Bo wd sl cs
 obtain⟨s,hs⟩:∃ s,s=nV wd sl cs:=⟨_,rfl⟩
 rw[←hs]at s1 s2 s3 s4 ⊢
 have HSS:=Lib.hid hs
 clear hs
 obtain⟨x,y⟩:=s
 dsimp only at s1 s2 s3 s4
 have HK1:Hid (Kept W (W.alloc (.cells #[.int .i64 wd,.int .i64 sl,.slice A n c] 103)) [(W.heap.size,103,#[.int .i64 wd,.int .i64 sl,.slice A n c])]):=((Kept.start W).alloc_at 103 #[.int .i64 wd,.int .i64 sl,.slice A n c] (W.heap.size) (by simp))
 go_enter Tryz.func34,Tryz.ntmps34
 go_wp2_with fail
 with_reducible refine(KR wd sl A n c W.heap.size cs _ (HR.out.below HK1.out.bel) HK1.out.size hn).mono ?_
 rw[←HSS.out]
 rintro e w1 ⟨rfl,hb1⟩
 have HK2:Hid (Kept W w1 [(W.heap.size,103,#[.int .i64 wd,.int .i64 sl,.slice A n c])]):=HK1.out.next hb1
 clear HK1
 clear hb1
 have HKa:=Lib.hid (HK2.out.alloc_off (.cells (gL (x,y)) 160))
 by_cases hz:x+y=0
 ·have HE:=Lib.hid (show tL (x,y)=0 from by unfold tL;rw[if_pos hz])
  go_wp2
  go_ret
  exact⟨uI HE.out.symm,HKa.out.bel⟩
 have HE:=Lib.hid (show tL (x,y)=1000*y/(x+y) from by unfold tL;rw[if_neg hz])
 have b1:(x+y == 0)=false:=by rw[beq_eq_false_iff_ne];exact hz
 have hqq:IntKind.i64.wrap ((1000*y).tdiv (x+y))=1000*y/(x+y):=by
  rw[Int.tdiv_eq_ediv_of_nonneg (by omega)]
  have h1:=Int.ediv_le_self (x+y) (show 0≤1000*y by omega)
  have h2:=Int.ediv_nonneg (show 0≤1000*y by omega) (show 0≤x+y by omega)
  exact IntWalk.i64_in _ (by omega)
 go_wp2
 go_ret
 exact⟨uI HE.out.symm,HKa.out.bel⟩
end
section
open RowKit
def pZ:List ah→Option (List (Int×Int))
 | []=>some []
 | .int .i64 a :: .int .i64 b::l=>match pZ l with
   | some r=>some ((a,b)::r)
   | none=>none
 | _=>none
theorem sD {ρ:Rho}:∀ {xs:List ah} {vs:List Value} {l:List (Int×Int)},VRs ρ xs vs→pZ xs=some l→vs=bJ l
 | [],_,l,.nil,h=>by simp only[pZ]at h;injection h with h;subst h;rfl
 | x::xs,_,l,.cons _ v _ vs hx hs,h=>by
   unfold pZ at h
   split at h
   ·rename_i e;cases e
   ·rename_i a b xs' e
    injection e with e1 e2
    subst e1 e2
    split at h
    ·rename_i r hr
     injection h with h
     subst h
     cases hs with
     | cons _ v2 _ vs2 hx2 hs2=>
     cases hx
     cases hx2
     rw[sD hs2 hr]
     rfl
    ·cases h
   ·cases h
def DE (args:List ah) (H:af):Option ah:=match args with
 | [.agg [.int .i64 wd,.int .i64 sl,s]]=>match rowsOf H 2 s with
   | some xs=>match pZ xs with
     | some cs=>some (.int .i64 (tL (nV wd sl cs)))
     | none=>none
   | none=>none
 | _=>none
theorem zO:Told Tryz.prog 34 DE:=by
 refine⟨⟨_,Tryz.func34,by kernel_rfl,by kernel_rfl⟩,fun args H r h ρ w vs hr hv=>?_⟩
 unfold DE at h
 split at h
 ·rename_i wd sl s
  split at h
  ·rename_i xs h1
   split at h
   ·rename_i cs h2
    injection h with h
    subst h
    cases hv with
    | cons _ v1 _ vs1 hv1 hvs1=>
    cases hvs1
    cases hv1 with
    | agg _ us hus=>
    cases hus with
    | cons _ u1 _ us1 hu1 hus1=>
    cases hus1 with
    | cons _ u2 _ us2 hu2 hus2=>
    cases hus2 with
    | cons _ u3 _ us3 hu3 hus3=>
    cases hus3
    cases hu1
    cases hu2
    obtain⟨A,n,c,ws,rfl,k1,k2,k3,k4,k5⟩:=kn hr hu3 h1
    have e:=sD k1 h2
    subst e
    refine(Iw wd sl A n c w.heap.size cs w k2 (Nat.le_refl _) (Nat.le_trans k3 k4)).mono ?_
    rintro e w' ⟨rfl,hb⟩
    exact⟨_,rfl,.int _ _,hb⟩
   ·cases h
  ·cases h
 ·cases h
end
section
open Go.RowKit
def oU (s:Nat):List UInt8:=(le4 s).map UInt8.ofNat
theorem wG (s:Nat):(oU s).length=4:=by simp[oU,le4]
theorem BD (s k:Nat) (hk:k<4):(oU s).take (k+1)=(oU s).take k ++ [UInt8.ofNat (s/256^k%256)]:=by
 rcases(by omega:k=0∨k=1∨k=2∨k=3) with rfl | rfl | rfl | rfl<;>simp[oU,le4]
theorem zP (m:Nat) (h:m<256):((UInt8.ofNat m).toNat:Int)=(m:Int):=by simp;omega
theorem Cg (bs:List UInt8):jU (bW bs)<4294967296:=eA (GK _ (vj bs) _ (by decide)) (by decide)
end
section
def oW (n:Nat):Nat:=if n<10 then 48+n else 87+n
def qN (x:UInt8):List UInt8:=[UInt8.ofNat (oW (x.toNat/16)),UInt8.ofNat (oW (x.toNat%16))]
def gQ (l:List UInt8):List UInt8:=l.flatMap qN
theorem BX (x:UInt8) (l:List UInt8):gQ (x::l)=UInt8.ofNat (oW (x.toNat/16))::UInt8.ofNat (oW (x.toNat%16))::gQ l:=by simp[gQ,qN]
theorem oK (a b:List UInt8):gQ (a++b)=gQ a++gQ b:=by simp[gQ]
theorem oA (l:List UInt8):(gQ l).length=2*l.length:=by
 induction l with
 | nil=>rfl
 | cons x l ih=>rw[BX,List.length_cons,List.length_cons,List.length_cons,ih];omega
theorem Ht (n:Nat) (h:n<16):oW n<256:=by unfold oW;split<;>omega
theorem qO (n:Nat) (h:n<16):(UInt8.ofNat (oW n)).toNat=oW n:=by
 have:=Ht n h
 simp
 omega
theorem uD (x:UInt8):x.toNat/16<16∧x.toNat%16<16:=by have:=x.toNat_lt;omega
def Mz (E:List UInt8) (n:Nat):List UInt8:=ay n++oU (jU (bW (E++ay n)))
def FB (E:List UInt8) (n:Nat):List UInt8:=gQ (Mz E n)
theorem zJ (n:Nat) (h:n≤4294967296):(ay n).length≤5:=by
 rw[mT];exact vU 4 n (by omega)
end
section
open Go.Shelf Go.RowKit
abbrev yF:ByteArray:=⟨#[48,49,50,51,52,53,54,55,56,57,97,98,99,100,101,102]⟩
theorem pM (i:Nat) (h:i<yF.size):(yF[i]'h).toNat=oW i:=by
 have h16:i<16:=h
 have e:∀ j:Fin 16,(yF.data[j.val]'j.isLt).toNat=oW j.val:=by decide
 exact e ⟨i,h16⟩
theorem vT (x:UInt8):byteCells (qN x) = [.int .u8 ((oW (x.toNat/16):Nat):Int),.int .u8 ((oW (x.toNat%16):Nat):Int)]:=by
 simp only[byteCells,qN,List.map_cons,List.map_nil]
 rw[qO _ (uD x).1,qO _ (uD x).2]
theorem El (B b:Nat) (bs:List Value) (x:UInt8) (w:World) (h:IsB B b bs w) (hlen:bs.length+2≤140737488355328) (hBw:B≤w.heap.size):
 Calls Tryz.prog 40 #[.pointer (some ⟨b,0,none⟩),.int .u8 (x.toNat:Int)] w fun e w'=>e = .returned (.tuple #[])∧(AU B b (bs++byteCells (qN x)) w'∧Below B w w'):=by
 have hx:=uD x
 go_enter Tryz.func40,Tryz.ntmps40
 go_wp2_with fail
 refine(dU B b bs _ w h (by omega) hBw).mono ?_
 rintro e w1 ⟨rfl,h1,hb1⟩
 rw[pM]at h1
 have H1:=Lib.hid h1
 have hs1:=hb1.size
 clear h1
 go_wp2_with fail
 refine(dU B b _ _ w1 (.inr H1.out) (by simp;omega) (by omega)).mono ?_
 rintro e w2 ⟨rfl,h2,hb2⟩
 rw[pM]at h2
 have H2:=Lib.hid h2
 clear h2
 go_wp2
 go_end0
 refine⟨rfl,?_,hb1.trans hb2⟩
 rw[vT]
 have e:=H2.out
 rw[List.append_assoc]at e
 exact e
end
section
open Go.ChangeShapes Go.WideShapes Go.ChangeAt Go.RowKit Go.Deep
inductive FT:Type
 | mk (op a b:Int) (name:ByteArray) (kids:List FT):FT
inductive FTr (w:World) (B:Nat):List Value→FT→Prop
 | mk (op a b:Int) (name:ByteArray) (A:Option Addr) (n c:Nat) (vs:List (List Value)) (ks:List FT)
  (hop:(Lit.int .i64 op).wf=true) (ha:(Lit.int .i64 a).wf=true) (hb:(Lit.int .i64 b).wf=true) (hnm:name.size≤maxLen)
  (hn:ks.length=n) (hv:vs.length=n) (hnc:n≤c) (hcm:c≤maxLen)
  (hr:0<n → ∃ ad,A=some ad∧ad.block<B ∧ ∀ i v,vs[i]?=some v → ∀ j u,v[j]?=some u→w.cell? ((ad.add (i*5)).add j)=some u)
  (hk:∀ (i:Nat) v t,vs[i]?=some v→ks[i]?=some t→FTr w B v t):
  FTr w B [.int .i64 op,.int .i64 a,.int .i64 b,.string name,.slice A n c] (.mk op a b name ks)
section
variable {H:Type} {enc:TypeId×Value→H}
end
end
section
open Go.RowKit Go.ChangeShapes
theorem uo {α:Type} (l:List α) (k:Nat) (t:α) (h:l[k]?=some t):l.take (k+1)=l.take k ++ [t]:=by rw[List.take_add_one,h];rfl
theorem Dz {w wr:World} {B n:Nat} {A:Option Addr} {vs:List (List Value)} {ks:List FT} {i:Nat} (hn:ks.length=n) (hv:vs.length=n)
 (hr:0<n → ∃ ad,A=some ad∧ad.block<B ∧ ∀ i v,vs[i]?=some v → ∀ j u,v[j]?=some u→w.cell? ((ad.add (i*5)).add j)=some u)
 (hk:∀ (i:Nat) v t,vs[i]?=some v→ks[i]?=some t→FTr w B v t) (hw:Below B w wr) (hi:i<n):
 ∃ (ad:Addr) (op a b:Int) (name:ByteArray) (A':Option Addr) (n' c':Nat) (t:FT) (v:List Value),A=some ad∧ks[i]?=some t∧vs[i]?=some v∧v = [.int .i64 op,.int .i64 a,.int .i64 b,.string name,.slice A' n' c'] ∧
   FTr w B v t∧wr.cell? (ad.add (i*5))=some (.int .i64 op)∧wr.cell? ⟨(ad.add (i*5)).block,(ad.add (i*5)).off+1,none⟩=some (.int .i64 a)∧wr.cell? ⟨(ad.add (i*5)).block,(ad.add (i*5)).off+2,none⟩=some (.int .i64 b) ∧
   wr.cell? ⟨(ad.add (i*5)).block,(ad.add (i*5)).off+3,none⟩=some (.string name)∧wr.cell? ⟨(ad.add (i*5)).block,(ad.add (i*5)).off+4,none⟩=some (.slice A' n' c'):=by
 obtain⟨ad,rfl,hb,hc⟩:=hr (by omega)
 obtain⟨t,ht⟩:∃ t,ks[i]?=some t:=⟨_,List.getElem?_eq_getElem (by omega)⟩
 obtain⟨v,hv'⟩:∃ v,vs[i]?=some v:=⟨_,List.getElem?_eq_getElem (by omega)⟩
 have h:=hk i v t hv' ht
 have h':=h
 have q:∀ j u,v[j]?=some u→wr.cell? ((ad.add (i*5)).add j)=some u:=fun j u hu=>(hw.cell (by rw[bU,bU];exact hb)).trans (hc i v hv' j u hu)
 cases h with
 | mk op a b name A n c vs' ks' hop ha hb' hnm hn hv hnc hcm hr hk=>
   have q1:=q 1 _ rfl
   have q2:=q 2 _ rfl
   have q3:=q 3 _ rfl
   have q4:=q 4 _ rfl
   rw[add_pos _ 1 (by omega)]at q1
   rw[add_pos _ 2 (by omega)]at q2
   rw[add_pos _ 3 (by omega)]at q3
   rw[add_pos _ 4 (by omega)]at q4
   exact⟨ad,op,a,b,name,A,n,c,_,_,rfl,ht,hv',rfl,h',q 0 _ rfl,q1,q2,q3,q4⟩
end
section
open Go.RowKit Go.ChangeShapes
theorem uk {α:Type} (l:List α) (k:Nat) (t:α) (h:l[k]?=some t):l.drop k=t::l.drop (k+1):=by
 obtain⟨hk,rfl⟩:=List.getElem?_eq_some_iff.1 h
 exact List.drop_eq_getElem_cons hk
end
section
open Go.RowKit Go.ChangeShapes
theorem Ij (s:ByteArray) (n i:Nat) (r:List UInt8) (h:s.size-i=n):(ByteArray.toList.loop s i r).length=r.length+n:=by
 induction n generalizing i r with
 | zero=>rw[ByteArray.toList.loop,if_neg (by omega)];simp
 | succ n ih=>rw[ByteArray.toList.loop,if_pos (by omega),ih (i+1) _ (by omega)];simp;omega
theorem yM (s:ByteArray):s.toList.length=s.size:=by unfold ByteArray.toList;rw[Ij s s.size 0 [] (by omega)];simp
theorem cN (s:ByteArray):s.toList = [] ↔ s.size=0:=by rw[←List.length_eq_zero_iff,yM]
def cW (op a b:Int) (z k:Nat):Prop:=
 (op=1∧a=0∧b=0∧z=0∧k=0)∨(op=2∧(0≤a∧a≤1099511627776)∧(0≤b∧b≤1099511627776)∧z=0∧k=0)∨(op=3∧(0≤a∧a≤4294967296)∧(0≤b∧b≤4294967296)∧z=0∧k=0) ∨
 (op=4∧(1≤z∧z≤24)∧a=0∧b=0∧k=0)∨(op=5∧1≤a∧a≤10∧b=0∧z=0∧k=0)∨((op=6∨op=7)∧a=0∧b=0∧z=0)∨(op=8∧a=0∧b=0∧z=0∧k=1)
instance (op a b:Int) (z k:Nat):Decidable (cW op a b z k):=by unfold cW;infer_instance
def ek (op a b:Int) (z k:Nat):Bool:=decide (cW op a b z k)
def IY (n m:Int):Bool:=decide (0≤n∧n≤m)
def yw (z:Nat):Bool:=decide (1≤z∧z≤24)
theorem fj (n m:Int) (w:World):Calls Tryz.prog 203 #[.int .i64 n,.int .i64 m] w fun e w'=>e = .returned (.bool (IY n m))∧w=w':=by
 go_enter Tryz.func203,Tryz.ntmps203
 go_wp2
 all_goals
  go_ret
  refine⟨aS ?_,rfl⟩
  unfold IY
  first
  | (symm;rw[decide_eq_false_iff_not];omega)
  | (rw[Bool.eq_iff_iff,decide_eq_true_eq,decide_eq_true_eq];omega)
theorem dQ (s:ByteArray) (w:World):Calls Tryz.prog 123 #[.string s] w fun e w'=>e = .returned (.bool (yw s.size))∧w=w':=by
 go_enter Tryz.func123,Tryz.ntmps123
 go_wp2
 all_goals
  go_ret
  refine⟨aS ?_,rfl⟩
  unfold yw
  first
  | (symm;rw[decide_eq_false_iff_not];omega)
  | (rw[Bool.eq_iff_iff,decide_eq_true_eq,decide_eq_true_eq];omega)
set_option maxHeartbeats 1000000 in
theorem GB (a b:Int) (name:ByteArray) (A:Option Addr) (n c:Nat) (w:World):Calls Tryz.prog 132 #[.agg #[.int .i64 1,.int .i64 a,.int .i64 b,.string name,.slice A n c]] w fun e w'=>e = .returned (.bool (ek 1 a b name.size n))∧Below w.heap.size w w':=by
 go_enter Tryz.func132,Tryz.ntmps132
 go_wp2_with (first | (go_at_call 203;refine(fj _ _ _).mono ?_;rintro e w' ⟨rfl,rfl⟩) | (go_at_call 123;refine(dQ _ _).mono ?_;rintro e w' ⟨rfl,rfl⟩))
 all_goals
  go_ret
  refine⟨aS ?_,(Below.refl _ _).alloc (Nat.le_refl _) _⟩
  (try simp only[cN]at *)
  unfold ek
  first
  | (symm;rw[decide_eq_false_iff_not];unfold cW;omega)
  | (rw[Bool.eq_iff_iff,beq_iff_eq,decide_eq_true_eq];unfold cW;omega)
  | (rw[Bool.eq_iff_iff,List.isEmpty_iff,cN,decide_eq_true_eq];unfold cW;omega)
  | (rw[Bool.eq_iff_iff,decide_eq_true_eq,decide_eq_true_eq];unfold cW;omega)
set_option maxHeartbeats 1000000 in
theorem IE (a b:Int) (name:ByteArray) (A:Option Addr) (n c:Nat) (w:World):Calls Tryz.prog 132 #[.agg #[.int .i64 2,.int .i64 a,.int .i64 b,.string name,.slice A n c]] w fun e w'=>e = .returned (.bool (ek 2 a b name.size n))∧Below w.heap.size w w':=by
 go_enter Tryz.func132,Tryz.ntmps132
 go_wp2_with (first | (go_at_call 203;refine(fj _ _ _).mono ?_;rintro e w' ⟨rfl,rfl⟩) | (go_at_call 123;refine(dQ _ _).mono ?_;rintro e w' ⟨rfl,rfl⟩))
 all_goals
  go_ret
  refine⟨aS ?_,(Below.refl _ _).alloc (Nat.le_refl _) _⟩
  (try simp only[cN,IY,decide_eq_true_eq]at *)
  unfold ek
  first
  | (symm;rw[decide_eq_false_iff_not];unfold cW;omega)
  | (rw[Bool.eq_iff_iff,beq_iff_eq,decide_eq_true_eq];unfold cW;omega)
  | (rw[Bool.eq_iff_iff,List.isEmpty_iff,cN,decide_eq_true_eq];unfold cW;omega)
  | (rw[Bool.eq_iff_iff,decide_eq_true_eq,decide_eq_true_eq];unfold cW;omega)
set_option maxHeartbeats 1000000 in
theorem GY (a b:Int) (name:ByteArray) (A:Option Addr) (n c:Nat) (w:World):Calls Tryz.prog 132 #[.agg #[.int .i64 3,.int .i64 a,.int .i64 b,.string name,.slice A n c]] w fun e w'=>e = .returned (.bool (ek 3 a b name.size n))∧Below w.heap.size w w':=by
 go_enter Tryz.func132,Tryz.ntmps132
 go_wp2_with (first | (go_at_call 203;refine(fj _ _ _).mono ?_;rintro e w' ⟨rfl,rfl⟩) | (go_at_call 123;refine(dQ _ _).mono ?_;rintro e w' ⟨rfl,rfl⟩))
 all_goals
  go_ret
  refine⟨aS ?_,(Below.refl _ _).alloc (Nat.le_refl _) _⟩
  (try simp only[cN,IY,decide_eq_true_eq]at *)
  unfold ek
  first
  | (symm;rw[decide_eq_false_iff_not];unfold cW;omega)
  | (rw[Bool.eq_iff_iff,beq_iff_eq,decide_eq_true_eq];unfold cW;omega)
  | (rw[Bool.eq_iff_iff,List.isEmpty_iff,cN,decide_eq_true_eq];unfold cW;omega)
  | (rw[Bool.eq_iff_iff,decide_eq_true_eq,decide_eq_true_eq];unfold cW;omega)
set_option maxHeartbeats 1000000 in
theorem IK (a b:Int) (name:ByteArray) (A:Option Addr) (n c:Nat) (w:World):Calls Tryz.prog 132 #[.agg #[.int .i64 4,.int .i64 a,.int .i64 b,.string name,.slice A n c]] w fun e w'=>e = .returned (.bool (ek 4 a b name.size n))∧Below w.heap.size w w':=by
 go_enter Tryz.func132,Tryz.ntmps132
 go_wp2_with (first | (go_at_call 203;refine(fj _ _ _).mono ?_;rintro e w' ⟨rfl,rfl⟩) | (go_at_call 123;refine(dQ _ _).mono ?_;rintro e w' ⟨rfl,rfl⟩))
 all_goals
  go_ret
  refine⟨aS ?_,(Below.refl _ _).alloc (Nat.le_refl _) _⟩
  (try simp only[yw,decide_eq_true_eq]at *)
  unfold ek
  first
  | (symm;rw[decide_eq_false_iff_not];unfold cW;omega)
  | (rw[Bool.eq_iff_iff,beq_iff_eq,decide_eq_true_eq];unfold cW;omega)
  | (rw[Bool.eq_iff_iff,List.isEmpty_iff,cN,decide_eq_true_eq];unfold cW;omega)
  | (rw[Bool.eq_iff_iff,decide_eq_true_eq,decide_eq_true_eq];unfold cW;omega)
set_option maxHeartbeats 1000000 in
theorem Gg (a b:Int) (name:ByteArray) (A:Option Addr) (n c:Nat) (w:World):Calls Tryz.prog 132 #[.agg #[.int .i64 5,.int .i64 a,.int .i64 b,.string name,.slice A n c]] w fun e w'=>e = .returned (.bool (ek 5 a b name.size n))∧Below w.heap.size w w':=by
 go_enter Tryz.func132,Tryz.ntmps132
 go_wp2_with (first | (go_at_call 203;refine(fj _ _ _).mono ?_;rintro e w' ⟨rfl,rfl⟩) | (go_at_call 123;refine(dQ _ _).mono ?_;rintro e w' ⟨rfl,rfl⟩))
 all_goals
  go_ret
  refine⟨aS ?_,(Below.refl _ _).alloc (Nat.le_refl _) _⟩
  (try simp only[cN]at *)
  unfold ek
  first
  | (symm;rw[decide_eq_false_iff_not];unfold cW;omega)
  | (rw[Bool.eq_iff_iff,beq_iff_eq,decide_eq_true_eq];unfold cW;omega)
  | (rw[Bool.eq_iff_iff,List.isEmpty_iff,cN,decide_eq_true_eq];unfold cW;omega)
  | (rw[Bool.eq_iff_iff,decide_eq_true_eq,decide_eq_true_eq];unfold cW;omega)
set_option maxHeartbeats 1000000 in
theorem IL (a b:Int) (name:ByteArray) (A:Option Addr) (n c:Nat) (w:World):Calls Tryz.prog 132 #[.agg #[.int .i64 6,.int .i64 a,.int .i64 b,.string name,.slice A n c]] w fun e w'=>e = .returned (.bool (ek 6 a b name.size n))∧Below w.heap.size w w':=by
 go_enter Tryz.func132,Tryz.ntmps132
 go_wp2_with (first | (go_at_call 203;refine(fj _ _ _).mono ?_;rintro e w' ⟨rfl,rfl⟩) | (go_at_call 123;refine(dQ _ _).mono ?_;rintro e w' ⟨rfl,rfl⟩))
 all_goals
  go_ret
  refine⟨aS ?_,(Below.refl _ _).alloc (Nat.le_refl _) _⟩
  (try simp only[cN]at *)
  unfold ek
  first
  | (symm;rw[decide_eq_false_iff_not];unfold cW;omega)
  | (rw[Bool.eq_iff_iff,beq_iff_eq,decide_eq_true_eq];unfold cW;omega)
  | (rw[Bool.eq_iff_iff,List.isEmpty_iff,cN,decide_eq_true_eq];unfold cW;omega)
  | (rw[Bool.eq_iff_iff,decide_eq_true_eq,decide_eq_true_eq];unfold cW;omega)
set_option maxHeartbeats 1000000 in
theorem Gl (a b:Int) (name:ByteArray) (A:Option Addr) (n c:Nat) (w:World):Calls Tryz.prog 132 #[.agg #[.int .i64 7,.int .i64 a,.int .i64 b,.string name,.slice A n c]] w fun e w'=>e = .returned (.bool (ek 7 a b name.size n))∧Below w.heap.size w w':=by
 go_enter Tryz.func132,Tryz.ntmps132
 go_wp2_with (first | (go_at_call 203;refine(fj _ _ _).mono ?_;rintro e w' ⟨rfl,rfl⟩) | (go_at_call 123;refine(dQ _ _).mono ?_;rintro e w' ⟨rfl,rfl⟩))
 all_goals
  go_ret
  refine⟨aS ?_,(Below.refl _ _).alloc (Nat.le_refl _) _⟩
  (try simp only[cN]at *)
  unfold ek
  first
  | (symm;rw[decide_eq_false_iff_not];unfold cW;omega)
  | (rw[Bool.eq_iff_iff,beq_iff_eq,decide_eq_true_eq];unfold cW;omega)
  | (rw[Bool.eq_iff_iff,List.isEmpty_iff,cN,decide_eq_true_eq];unfold cW;omega)
  | (rw[Bool.eq_iff_iff,decide_eq_true_eq,decide_eq_true_eq];unfold cW;omega)
set_option maxHeartbeats 1000000 in
theorem Fx (a b:Int) (name:ByteArray) (A:Option Addr) (n c:Nat) (w:World):Calls Tryz.prog 132 #[.agg #[.int .i64 8,.int .i64 a,.int .i64 b,.string name,.slice A n c]] w fun e w'=>e = .returned (.bool (ek 8 a b name.size n))∧Below w.heap.size w w':=by
 go_enter Tryz.func132,Tryz.ntmps132
 go_wp2_with (first | (go_at_call 203;refine(fj _ _ _).mono ?_;rintro e w' ⟨rfl,rfl⟩) | (go_at_call 123;refine(dQ _ _).mono ?_;rintro e w' ⟨rfl,rfl⟩))
 all_goals
  go_ret
  refine⟨aS ?_,(Below.refl _ _).alloc (Nat.le_refl _) _⟩
  (try simp only[cN]at *)
  unfold ek
  first
  | (symm;rw[decide_eq_false_iff_not];unfold cW;omega)
  | (rw[Bool.eq_iff_iff,beq_iff_eq,decide_eq_true_eq];unfold cW;omega)
  | (rw[Bool.eq_iff_iff,List.isEmpty_iff,cN,decide_eq_true_eq];unfold cW;omega)
  | (rw[Bool.eq_iff_iff,decide_eq_true_eq,decide_eq_true_eq];unfold cW;omega)
set_option maxHeartbeats 1000000 in
theorem DC (op:Int) (a b:Int) (name:ByteArray) (A:Option Addr) (n c:Nat) (w:World) (h1:(op == 1)=false) (h2:(op == 2)=false) (h3:(op == 3)=false) (h4:(op == 4)=false) (h5:(op == 5)=false) (h6:(op == 6)=false) (h7:(op == 7)=false) (h8:(op == 8)=false):Calls Tryz.prog 132 #[.agg #[.int .i64 op,.int .i64 a,.int .i64 b,.string name,.slice A n c]] w fun e w'=>e = .returned (.bool (ek op a b name.size n))∧Below w.heap.size w w':=by
 go_enter Tryz.func132,Tryz.ntmps132
 go_wp2
 all_goals
  go_ret
  refine⟨aS ?_,(Below.refl _ _).alloc (Nat.le_refl _) _⟩
  simp only[beq_eq_false_iff_ne]at h1 h2 h3 h4 h5 h6 h7 h8
  symm
  unfold ek
  rw[decide_eq_false_iff_not]
  unfold cW
  omega
theorem Fu (op:Int) (a b:Int) (name:ByteArray) (A:Option Addr) (n c:Nat) (w:World):Calls Tryz.prog 132 #[.agg #[.int .i64 op,.int .i64 a,.int .i64 b,.string name,.slice A n c]] w fun e w'=>e = .returned (.bool (ek op a b name.size n))∧Below w.heap.size w w':=by
 by_cases g1:op=1
 ·subst g1;exact GB a b name A n c w
 by_cases g2:op=2
 ·subst g2;exact IE a b name A n c w
 by_cases g3:op=3
 ·subst g3;exact GY a b name A n c w
 by_cases g4:op=4
 ·subst g4;exact IK a b name A n c w
 by_cases g5:op=5
 ·subst g5;exact Gg a b name A n c w
 by_cases g6:op=6
 ·subst g6;exact IL a b name A n c w
 by_cases g7:op=7
 ·subst g7;exact Gl a b name A n c w
 by_cases g8:op=8
 ·subst g8;exact Fx a b name A n c w
 exact DC op a b name A n c w (by rw[beq_eq_false_iff_ne];exact g1) (by rw[beq_eq_false_iff_ne];exact g2) (by rw[beq_eq_false_iff_ne];exact g3) (by rw[beq_eq_false_iff_ne];exact g4) (by rw[beq_eq_false_iff_ne];exact g5) (by rw[beq_eq_false_iff_ne];exact g6) (by rw[beq_eq_false_iff_ne];exact g7) (by rw[beq_eq_false_iff_ne];exact g8)
end
section
open Go.RowKit Go.ChangeShapes
mutual
def ew:FT→Bool
 | .mk op a b name ks=>ek op a b name.size ks.length&&dA ks
def dA:List FT→Bool
 | []=>true
 | t::ts=>ew t&&dA ts
end
theorem uz (l:List FT) (k:Nat) (t:FT) (h:l[k]?=some t) (hf:ew t=false):dA l=false:=by
 induction l generalizing k with
 | nil=>simp at h
 | cons x l ih=>
   cases k with
   | zero=>simp at h;subst h;simp[dA,hf]
   | succ k=>simp only[dA,ih k (by simpa using h),Bool.and_false]
end
section
open Go.RowKit Go.ChangeShapes
mutual
def aP:FT→Nat→Nat→Bool×Nat
 | .mk op a b name ks,d,l=>if 16<d∨l=0∨ek op a b name.size ks.length=false then(false,l) else bK ks (d+1) (l-1)
def bK:List FT→Nat→Nat→Bool×Nat
 | [],_,l=>(true,l)
 | t::ts,d,l=>if(aP t d l).1=false then(false,(aP t d l).2) else bK ts d (aP t d l).2
end
mutual
theorem oB:∀ (t:FT) (d l:Nat),(aP t d l).2≤l
 | .mk op a b name ks,d,l=>by
   unfold aP
   split
   ·exact Nat.le_refl _
   ·exact Nat.le_trans (oT ks (d+1) (l-1)) (by omega)
theorem oT:∀ (ts:List FT) (d l:Nat),(bK ts d l).2≤l
 | [],d,l=>by unfold bK;exact Nat.le_refl _
 | t::ts,d,l=>by
   unfold bK
   have h:=oB t d l
   split
   ·exact h
   ·exact Nat.le_trans (oT ts d _) h
end
theorem mQ {b:Bool} {x:Bool×Nat} (h:x.1=b):Ending.returned (.bool b) = .returned (.bool x.1):=by rw[h]
theorem qf {w:World} {g:Nat} {t:TypeId} {l:Nat} {x:Bool×Nat} (h:x.2=l) (hb:Blk w g t #[.int .i64 (l:Int)]):Blk w g t #[.int .i64 (x.2:Int)]:=by rw[h];exact hb
def Hl (W:World) (g:Nat) (x:Bool×Nat) (e:Ending) (w':World):Prop:=
 e = .returned (.bool x.1)∧Blk w' g 3 #[.int .i64 (x.2:Int)]∧W.grownBy w' (some g)
set_option maxHeartbeats 4000000 in
theorem Fw {w:World} {B:Nat} {cs:List Value} {t:FT} (h:FTr w B cs t):∀ W,Below B w W→B≤W.heap.size → ∀ (d l g:Nat),d≤1000→l≤1000→B≤g→Blk W g 3 #[.int .i64 (l:Int)] →
 Calls Tryz.prog 70 #[.agg cs.toArray,.int .i64 (d:Int),.pointer (some ⟨g,0,none⟩)] W (Hl W g (aP t d l)):=by
 induction h with
 | mk op a b name A n c vs ks hop ha hb hnm hn hv hnc hcm hr hk ih=>
   intro W hB hBW
   have HN:=Lib.hid hn
   have HKI:=Lib.hid (fun(wr:World) (hw:Below B w wr) (i:Nat) (hi:i<n)=>Dz hn hv hr hk hw hi)
   have IH:=Lib.hid ih
   have HB:=Lib.hid hB
   have o1:=bounds_i64 hop
   have a1:=bounds_i64 ha
   have b1:=bounds_i64 hb
   unfold maxLen at hcm hnm
   clear hr hk ih hB hn hv hop ha hb
   obtain⟨o1,o2⟩:=o1
   obtain⟨a1,a2⟩:=a1
   obtain⟨b1,b2⟩:=b1
   intro d l g hd hl hBg hblk
   have hgW:=hblk.lt
   have HG:=Lib.hid (Blk.alloc hblk (.cells #[.int .i64 op,.int .i64 a,.int .i64 b,.string name,.slice A n c] 35))
   have HR0:=Lib.hid (show aP (.mk op a b name ks) d l=if 16<d∨l=0∨ek op a b name.size n=false then(false,l) else bK ks (d+1) (l-1) from by unfold aP;rw[HN.out])
   have HC:=Lib.hid (Blk.new W 35 #[.int .i64 op,.int .i64 a,.int .i64 b,.string name,.slice A n c])
   have HW:=Lib.hid ((Below.refl W.heap.size W).alloc (Nat.le_refl _) (.cells #[.int .i64 op,.int .i64 a,.int .i64 b,.string name,.slice A n c] 35))
   have hzz:W.heap.size<(W.alloc (.cells #[.int .i64 op,.int .i64 a,.int .i64 b,.string name,.slice A n c] 35)).heap.size:=by simp
   clear hblk
   have z0:(W.alloc (.cells #[.int .i64 op,.int .i64 a,.int .i64 b,.string name,.slice A n c] 35)).cell? ⟨g,0,none⟩=some (.int .i64 (l:Int)):=HG.out.cell 0
   have z1:(W.alloc (.cells #[.int .i64 op,.int .i64 a,.int .i64 b,.string name,.slice A n c] 35)).frozen? ⟨g,0,none⟩=false:=HG.out.frozen 0
   by_cases c1:16<d
   ·have e1:decide ((16:Int)<(d:Int))=true:=by simp;omega
    have HE:=Lib.hid (show aP (.mk op a b name ks) d l=(false,l) from by rw[HR0.out,if_pos (Or.inl c1)])
    go_enter Tryz.func70,Tryz.ntmps70
    go_wp2
    go_ret
    exact⟨mQ (congrArg Prod.fst HE.out),qf (congrArg Prod.snd HE.out) HG.out,eX HW.out _⟩
   ·have e1:decide ((16:Int)<(d:Int))=false:=by simp;omega
    by_cases c2:l=0
    ·have e2:((l:Int) == 0)=true:=by rw[beq_iff_eq];omega
     have HE:=Lib.hid (show aP (.mk op a b name ks) d l=(false,l) from by rw[HR0.out,if_pos (Or.inr (Or.inl c2))])
     clear c2
     go_enter Tryz.func70,Tryz.ntmps70
     go_wp2
     go_ret
     exact⟨mQ (congrArg Prod.fst HE.out),qf (congrArg Prod.snd HE.out) HG.out,eX HW.out _⟩
    ·have e2:((l:Int) == 0)=false:=by rw[beq_eq_false_iff_ne];omega
     go_enter Tryz.func70,Tryz.ntmps70
     go_wp2_with fail
     with_reducible refine(Fu op a b name A n c _).mono ?_
     rintro e w2 ⟨rfl,hb2⟩
     have HC2:=Lib.hid (HC.out.below hb2 HC.out.lt)
     have HG2:=Lib.hid (HG.out.below hb2 HG.out.lt)
     have HW2:=Lib.hid (HW.out.trans (hb2.mono (by omega)))
     clear hb2 HC HW HG z0 z1
     cases ho:ek op a b name.size n
     ·have HE:=Lib.hid (show aP (.mk op a b name ks) d l=(false,l) from by rw[HR0.out,if_pos (Or.inr (Or.inr ho))])
      clear ho
      go_wp2
      go_ret
      exact⟨mQ (congrArg Prod.fst HE.out),qf (congrArg Prod.snd HE.out) HG2.out,eX HW2.out _⟩
     ·have HE:=Lib.hid (show aP (.mk op a b name ks) d l=bK ks (d+1) (l-1) from by rw[HR0.out,if_neg (by intro h;rcases h with h | h | h;exact c1 h;exact c2 h;rw[ho]at h;cases h)])
      clear ho HR0
      obtain⟨l0,hl0⟩:∃ l0:Nat,l=l0+1:=⟨l-1,by omega⟩
      rw[show l-1=l0 from by omega]at HE
      have hsub:(l:Int)-1=(l0:Int):=by omega
      have hl0':l0≤1000:=by omega
      have z0:w2.cell? ⟨g,0,none⟩=some (.int .i64 (l:Int)):=HG2.out.cell 0
      have z1:w2.frozen? ⟨g,0,none⟩=false:=HG2.out.frozen 0
      have r4:w2.cell? ⟨W.heap.size,4,none⟩=some (.slice A n c):=HC2.out.cell 4
      have r4s:(w2.setCell ⟨g,0,none⟩ (.int .i64 (l0:Int))).cell? ⟨W.heap.size,4,none⟩=some (.slice A n c):=(HC2.out.far (p:=⟨g,0,none⟩) (by simp;omega) (.int .i64 (l0:Int))).cell 4
      have HG3:Hid (Blk (w2.setCell ⟨g,0,none⟩ (.int .i64 (l0:Int))) g 3 #[.int .i64 (l0:Int)]):=HG2.out.set_ 0 _
      have HO3:Hid (W.grownBy (w2.setCell ⟨g,0,none⟩ (.int .i64 (l0:Int))) (some g)):=uf (eX HW2.out _) (.inl rfl) _
      clear hl0 c2
      go_wp2
      clear z0 z1 r4 r4s hsub
      generalize w2.setCell ⟨g,0,none⟩ (.int .i64 (l0:Int))=w3 at HG3 HO3 ⊢
      go_loopw [30] (fun i wr => ∃ k l1:Nat,k≤n∧l1≤1000∧i = .int .i64 k∧Hid (bK (ks.drop k) (d+1) l1=aP (.mk op a b name ks) d l)∧Hid (Blk wr g 3 #[.int .i64 (l1:Int)])∧Hid (W.grownBy wr (some g))) (fun i _=>n-(intOf i).toNat)
      case atStart=>exact⟨0,l0,Nat.zero_le _,hl0',rfl,Lib.hid (by rw[HE.out];rfl),HG3,HO3⟩
      case round=>
       clear HG3 HO3 HC2 HG2 HW2
       obtain⟨k,l1,hk,hl1,rfl,HS,HG4,HO4⟩:=hrel
       have hz:=HO4.out.size
       have HBr:Hid (Below B w wr):=HB.out.grown HO4.out hBW (fun g' h=>by cases h;exact hBg)
       by_cases hlt:k<n
       ·obtain⟨ad,op',a',b',name',A',n',c',t',v',rfl,hkt,hvt,hve,hft,d0,d1,d2,d3,d4⟩:=HKI.out wr HBr.out k hlt
        have ihk:=IH.out k v' t' hvt hkt
        subst hve
        have HIK:=Lib.hid ihk
        have HKT:=Lib.hid hkt
        have i1:(0:Int)≤(k:Int):=by omega
        have i2:(k:Int)<(n:Int):=by omega
        clear hkt hvt ihk
        have HD:=Lib.hid (uk ks k t' HKT.out)
        have HKA:=Lib.hid (HG4.out.alloc (.cells #[.int .i64 op',.int .i64 a',.int .i64 b',.string name',.slice A' n' c'] 35))
        have HBA:=Lib.hid (HBr.out.alloc (by omega) (.cells #[.int .i64 op',.int .i64 a',.int .i64 b',.string name',.slice A' n' c'] 35))
        have HOA:=Lib.hid (rJ HO4.out (.cells #[.int .i64 op',.int .i64 a',.int .i64 b',.string name',.slice A' n' c'] 35))
        have hza:wr.heap.size<(wr.alloc (.cells #[.int .i64 op',.int .i64 a',.int .i64 b',.string name',.slice A' n' c'] 35)).heap.size:=by simp
        have hd1:((d+1:Nat):Int)=(d:Int)+1:=by omega
        go_wp2_with fail
        have hcall:=HIK.out _ HBA.out (by omega) (d+1) l1 g (by omega) hl1 hBg HKA.out
        rw[hd1]at hcall
        with_reducible refine hcall.mono ?_
        rintro e w5 ⟨rfl,hblk5,hg5⟩
        have HG5:=Lib.hid hblk5
        have HO5:=Lib.hid (HOA.out.trans hg5)
        have hl5:=oB t' (d+1) l1
        clear hblk5 hg5 hcall d0 d1 d2 d3 d4 hd1
        have HST:=Lib.hid (show(if(aP t' (d+1) l1).1=false then(false,(aP t' (d+1) l1).2) else bK (ks.drop (k+1)) (d+1) (aP t' (d+1) l1).2)=aP (.mk op a b name ks) d l from by rw[←HS.out,HD.out];conv=>rhs;unfold bK)
        generalize aP t' (d+1) l1=X at HST HG5 hl5 ⊢
        cases hx:X.1
        ·rw[hx,if_pos rfl]at HST
         have HST':=Lib.hid HST.out.symm
         clear HST
         clear hx
         go_wp2
         go_ret
         exact⟨mQ (congrArg Prod.fst HST'.out),qf (congrArg Prod.snd HST'.out) HG5.out,HO5.out⟩
        ·rw[hx,if_neg (by simp)]at HST
         clear hx
         go_wp2
         go_roundw
         case rel=>exact⟨k+1,X.2,by omega,by omega,by go_num,HST,HG5,HO5⟩
         case measure=>simp[intOf];omega
       ·obtain rfl:n=k:=by omega
        have HE2:=Lib.hid (show aP (.mk op a b name ks) d l=(true,l1) from by rw[←HS.out,List.drop_of_length_le (by rw[HN.out];exact Nat.le_refl _)];unfold bK;rfl)
        go_wp2
        go_ret
        exact⟨mQ (congrArg Prod.fst HE2.out),qf (congrArg Prod.snd HE2.out) HG4.out,HO4.out⟩
def lE (t:FT):Bool:=(aP t 1 64).1
set_option maxHeartbeats 1000000 in
theorem td {w:World} {B:Nat} {cs:List Value} {t:FT} (h:FTr w B cs t) (W:World) (hB:Below B w W) (hBW:B≤W.heap.size):Calls Tryz.prog 35 #[.agg cs.toArray] W fun e w'=>e = .returned (.bool (lE t))∧Below W.heap.size W w':=by
 have HT:=Lib.hid h
 have HB:=Lib.hid hB
 clear hB
 cases h with
 | mk op a b name A n c vs ks hop ha hb hnm hn hv hnc hcm hr hk=>
   clear hop ha hb hn hv hr hk
   have HG:=Lib.hid (yH W 35 3 #[.int .i64 op,.int .i64 a,.int .i64 b,.string name,.slice A n c] #[.int .i64 64])
   have HW:=Lib.hid (((Below.refl W.heap.size W).alloc (Nat.le_refl _) (.cells #[.int .i64 op,.int .i64 a,.int .i64 b,.string name,.slice A n c] 35)).alloc (by simp) (.cells #[.int .i64 64] 3))
   have hzz:W.heap.size+1<((W.alloc (.cells #[.int .i64 op,.int .i64 a,.int .i64 b,.string name,.slice A n c] 35)).alloc (.cells #[.int .i64 64] 3)).heap.size:=by simp
   generalize FT.mk op a b name ks=t at HT ⊢
   go_enter Tryz.func35,Tryz.ntmps35
   go_wp2_with fail
   refine(Fw HT.out _ (HB.out.trans (HW.out.mono hBW)) (by omega) 1 64 (W.heap.size+1) (by omega) (by omega) (by omega) HG.out).mono ?_
   rintro e w2 ⟨rfl,_,hg⟩
   have HW2:Hid (Below W.heap.size W w2):=HW.out.grown hg (by omega) (fun g' h=>by cases h;omega)
   clear hg
   go_wp2
   go_ret
   exact⟨rfl,HW2.out⟩
end
section
mutual
def gw:FT→Nat
 | .mk _ _ _ _ ks=>1+fE ks
def fE:List FT→Nat
 | []=>0
 | t::ts=>gw t+fE ts
end
mutual
def dpF:FT→Nat
 | .mk _ _ _ _ ks=>dpL ks+1
def dpL:List FT→Nat
 | []=>0
 | t::ts=>max (dpF t) (dpL ts)
end
mutual
theorem lZ:∀ (t:FT) (d l:Nat),(ew t=true∧d+dpF t≤17∧gw t≤l→aP t d l=(true,l-gw t))∧(¬ (ew t=true∧d+dpF t≤17∧gw t≤l)→(aP t d l).1=false)
 | .mk op a b name ks,d,l=>by
   have ih:=nr ks (d+1) (l-1)
   unfold aP ew dpF gw
   by_cases h:16<d∨l=0∨ek op a b name.size ks.length=false
   ·rw[if_pos h]
    refine⟨fun hh=>?_,fun _=>rfl⟩
    obtain⟨h1,h2,h3⟩:=hh
    rcases h with h | h | h
    ·omega
    ·omega
    ·rw[h]at h1;simp at h1
   ·rw[if_neg h]
    have ho:ek op a b name.size ks.length=true:=by
     cases hx:ek op a b name.size ks.length
     ·exact absurd (Or.inr (Or.inr hx)) h
     ·rfl
    have hd:d≤16:=by rcases Nat.lt_or_ge 16 d with g | g;exact absurd (Or.inl g) h;exact g
    have hl:l≠0:=fun g=>h (Or.inr (Or.inl g))
    rw[ho,Bool.true_and]
    refine⟨fun hh=>?_,fun hh=>?_⟩
    ·rw[(ih (by omega)).1 ⟨hh.1,by omega,by omega⟩]
     congr 1;omega
    ·exact(ih (by omega)).2 (fun g=>hh ⟨g.1,by omega,by omega⟩)
theorem nr:∀ (ts:List FT) (d l:Nat),d≤17→(dA ts=true∧d+dpL ts≤17∧fE ts≤l→bK ts d l=(true,l-fE ts))∧(¬ (dA ts=true∧d+dpL ts≤17∧fE ts≤l)→(bK ts d l).1=false)
 | [],d,l,hd=>by
   unfold bK dA dpL fE
   exact⟨fun _=>rfl,fun h=>absurd ⟨rfl,by omega,by omega⟩ h⟩
 | t::ts,d,l,hd=>by
   have it:=lZ t d l
   unfold bK dA dpL fE
   by_cases h:ew t=true∧d+dpF t≤17∧gw t≤l
   ·have ih:=nr ts d (l-gw t) hd
    rw[it.1 h,if_neg (by simp)]
    simp only
    rw[h.1,Bool.true_and]
    refine⟨fun hh=>?_,fun hh=>?_⟩
    ·rw[ih.1 ⟨hh.1,by omega,by omega⟩]
     congr 1;omega
    ·exact ih.2 (fun g=>hh ⟨g.1,by omega,by omega⟩)
   ·rw[if_pos (it.2 h)]
    refine⟨fun hh=>absurd ⟨?_,by omega,by omega⟩ h,fun _=>rfl⟩
    have:=hh.1
    rw[Bool.and_eq_true]at this
    exact this.1
end
mutual
theorem Kn:∀ (t:FT),1≤dpF t∧1≤gw t
 | .mk _ _ _ _ ks=>by unfold dpF gw;omega
end
end
section
open Go.RowKit Go.ChangeShapes
theorem zk {ks:List FT} {i:Nat} {t:FT} (h:dA ks=true) (hi:ks[i]?=some t):ew t=true:=by
 cases he:ew t
 ·rw[uz ks i t hi he]at h;cases h
 ·rfl
theorem rG:∀ ks:List FT,ks.length≤fE ks
 | []=>by simp
 | t::ks=>by have h:=rG ks;have h1:=(Kn t).2;unfold fE;simp only[List.length_cons];omega
theorem xx:∀ (ks:List FT) (i:Nat) (t:FT),ks[i]?=some t→gw t≤fE ks
 | [],i,t,h=>by simp at h
 | x::ks,0,t,h=>by simp at h;subst h;unfold fE;omega
 | x::ks,i+1,t,h=>by have:=xx ks i t (by simpa using h);unfold fE;omega
end
section
open Go.RowKit Go.ChangeShapes
structure Evt where
 q:Int
 a:Int
 k:Int
 cm:ByteArray
 x:Int
 y:Int
 z:Int
section
variable {op a b:Int} {name:ByteArray} {ks:List FT} {e:Evt}
end
end
section
open Go.RowKit Go.ChangeShapes
theorem om (t:FT) (h:lE t=true):ew t=true∧dpF t≤16∧gw t≤64:=by
 by_cases g:ew t=true∧1+dpF t≤17∧gw t≤64
 ·exact⟨g.1,by omega,g.2.2⟩
 ·have:=(lZ t 1 64).2 g
  unfold lE at h
  rw[h]at this
  cases this
end
section
open Go.RowKit Go.ChangeShapes
def iU (op a b:Int) (name:ByteArray) (n:Nat):List UInt8:=ay op.toNat++ay a.toNat++ay b.toNat++jH name.data.toList++ay n
mutual
def rR:FT→List UInt8
 | .mk op a b name ks=>iU op a b name ks.length++dX ks
def dX:List FT→List UInt8
 | [] => []
 | t::ts=>rR t++dX ts
end
theorem tE:∀ (l:List FT) (t:FT),dX (l ++ [t])=dX l++rR t
 | [],t=>by simp[dX]
 | x::l,t=>by simp only[List.cons_append,dX,tE l t,List.append_assoc]
theorem sJ {op a b:Int} {m n:Nat} (h:ek op a b m n=true):1≤op∧op≤8∧0≤a∧a≤1099511627776∧0≤b∧b≤1099511627776∧m≤24:=by
 unfold ek at h;rw[decide_eq_true_eq]at h;unfold cW at h;omega
theorem sH (l:List UInt8) (h:l.length≤24):(jH l).length≤34:=by
 unfold jH;rw[List.length_append];have:=cD l.length (by omega);omega
theorem vQ (s:ByteArray):s.data.toList.length=s.size:=Array.length_toList
theorem oH {op a b:Int} {name:ByteArray} {n:Nat} (h:ek op a b name.size n=true) (hn:n≤1000):(iU op a b name n).length≤80:=by
 have h1:=sJ h
 unfold iU
 simp only[List.length_append]
 have e1:=cD op.toNat (by omega)
 have e2:=cD a.toNat (by omega)
 have e3:=cD b.toNat (by omega)
 have e4:=sH name.data.toList (by rw[vQ];omega)
 have e5:=cD n (by omega)
 omega
mutual
theorem jV:∀ (t:FT),ew t=true→gw t≤1000→(rR t).length≤80*gw t
 | .mk op a b name ks,h,hc=>by
   unfold ew at h
   rw[Bool.and_eq_true]at h
   unfold gw at hc
   have h1:=oH h.1 (by have:=rG ks;omega)
   have h2:=vY ks h.2 (by omega)
   rw[rR,gw,List.length_append]
   omega
theorem vY:∀ (ts:List FT),dA ts=true→fE ts≤1000→(dX ts).length≤80*fE ts
 | [],_,_=>by simp[dX]
 | t::ts,h,hc=>by
   unfold dA at h
   rw[Bool.and_eq_true]at h
   unfold fE at hc
   have h1:=jV t h.1 (by omega)
   have h2:=vY ts h.2 (by omega)
   rw[dX,fE,List.length_append]
   omega
end
theorem si (ks:List FT) (k:Nat) (h:dA ks=true) (hc:fE ks≤1000):(dX (ks.take k)).length≤(dX ks).length:=by
 induction ks generalizing k with
 | nil=>simp[dX]
 | cons t ts ih=>
   cases k with
   | zero=>simp[dX]
   | succ k=>
     unfold dA at h
     rw[Bool.and_eq_true]at h
     unfold fE at hc
     have:=ih k h.2 (by omega)
     rw[List.take_succ_cons,dX,dX,List.length_append,List.length_append]
     omega
theorem EM (s:ByteArray):s=⟨s.data.toList.toArray⟩:=by rw[Array.toArray_toList]
theorem sd (ks:List FT) (k:Nat) (t:FT) (h:dA ks=true) (hc:fE ks≤1000) (hk:ks[k]?=some t):(dX (ks.take k)).length+80*gw t≤80*fE ks:=by
 induction ks generalizing k with
 | nil=>simp at hk
 | cons x ts ih=>
   unfold dA at h
   rw[Bool.and_eq_true]at h
   unfold fE at hc
   cases k with
   | zero=>simp at hk;subst hk;rw[List.take_zero,dX,fE];simp;omega
   | succ k=>
     have:=ih k h.2 (by omega) (by simpa using hk)
     have h1:=jV x h.1 (by omega)
     rw[List.take_succ_cons,dX,fE,List.length_append]
     omega
def Jy (bs l:List UInt8) (n:Nat) (W:World) (e:Ending) (w':World):Prop := ∃ v,e = .returned v∧w'.ownsRow W.heap.size 5 1 v (n+l.length) (byteCells (bs++l))∧Below W.heap.size W w'
set_option maxHeartbeats 4000000 in
theorem Me {w:World} {B:Nat} {cs:List Value} {t:FT} (h:FTr w B cs t):ew t=true→gw t≤1000 → ∀ W,Below B w W→B≤W.heap.size → ∀ (A0:Option Addr) (n0 c0 B0:Nat) (bs:List UInt8),Reads W B0 1 A0 n0 (byteCells bs)→B0≤W.heap.size→n0+80*gw t≤200000→Calls Tryz.prog 73 #[.slice A0 n0 c0,.agg cs.toArray] W (Jy bs (rR t) n0 W):=by
 induction h with
 | mk op a b name A n c vs ks hop ha hb hnm hn hv hnc hcm hr hk ih=>
   intro hev hct W hB hBW A0 n0 c0 B0 bs hr0 hB0 hn0
   have HN:=Lib.hid hn
   have HKI:=Lib.hid (fun(wr:World) (hw:Below B w wr) (i:Nat) (hi:i<n)=>Dz hn hv hr hk hw hi)
   have IH:=Lib.hid ih
   have HB:=Lib.hid hB
   have HLL:=Lib.hid (jV (.mk op a b name ks) hev hct)
   unfold ew at hev
   rw[Bool.and_eq_true]at hev
   obtain⟨hone,hel⟩:=hev
   have HEL:=Lib.hid hel
   unfold gw at hct
   have hnk:n≤1000:=by have:=rG ks;omega
   have HCT:=Lib.hid (fun(i:Nat) (t:FT) (hi:ks[i]?=some t)=>show gw t≤fE ks from xx ks i t hi)
   have HHD:=Lib.hid (oH hone (by omega))
   obtain⟨o1,o2,a1,a2,b1,b2,m1⟩:=sJ hone
   have HTK:=Lib.hid (fun k=>si ks k hel (by omega))
   have HTC:=Lib.hid (fun k t hk=>sd ks k t hel (by omega) hk)
   have HEE:=Lib.hid (show rR (.mk op a b name ks)=iU op a b name n++dX ks from by rw[rR,hn])
   have hcn:gw (.mk op a b name ks)=1+fE ks:=by rw[gw]
   rw[HEE.out,hcn]at HLL
   rw[HEE.out]
   rw[hcn]at hn0
   rw[hn]at HHD
   clear hr hk ih hB hn hv hop ha hb hel hone hcn HEE
   obtain⟨opn,rfl⟩:∃ m:Nat,op=(m:Int):=⟨op.toNat,by omega⟩
   obtain⟨an,rfl⟩:∃ m:Nat,a=(m:Int):=⟨a.toNat,by omega⟩
   obtain⟨bn,rfl⟩:∃ m:Nat,b=(m:Int):=⟨b.toNat,by omega⟩
   obtain⟨nl,rfl⟩:∃ l:List UInt8,name=⟨l.toArray⟩:=⟨_,EM name⟩
   have hnl:nl.length≤24:=by have:=vQ ⟨nl.toArray⟩;simp at this;omega
   have e1:=cD opn (by omega)
   have e2:=cD an (by omega)
   have e3:=cD bn (by omega)
   have e4:=sH nl hnl
   have e5:=cD n (by omega)
   have HH:iU (opn:Int) (an:Int) (bn:Int) ⟨nl.toArray⟩ n=ay opn++ay an++ay bn++jH nl++ay n:=by unfold iU;simp
   generalize iU (opn:Int) (an:Int) (bn:Int) ⟨nl.toArray⟩ n=hd at HLL HHD HH ⊢
   unfold Jy
   have HK1:Hid (Kept W (W.alloc (.cells #[.int .i64 (opn:Int),.int .i64 (an:Int),.int .i64 (bn:Int),.string ⟨nl.toArray⟩,.slice A n c] 35)) [(W.heap.size,35,#[.int .i64 (opn:Int),.int .i64 (an:Int),.int .i64 (bn:Int),.string ⟨nl.toArray⟩,.slice A n c])]):=((Kept.start W).alloc_at 35 #[.int .i64 (opn:Int),.int .i64 (an:Int),.int .i64 (bn:Int),.string ⟨nl.toArray⟩,.slice A n c] (W.heap.size) (by simp))
   have HR0:=Lib.hid hr0
   clear hr0
   go_enter Tryz.func73,Tryz.ntmps73
   obtain⟨i0,hi0,hz0,hz1,hz2⟩:=info_parts Tryz.infoU8
   go_wp2_with fail
   with_reducible refine(fP A0 (n0) c0 B0 (bs) opn (by omega) _ (HR0.out.alloc hB0 _) (by simp;omega) (by omega)).mono ?_
   rintro e w1 ⟨v1,rfl,hown,hb1⟩
   obtain⟨A1,c1,rfl,_,_,_,hrd⟩:=cS hown
   have HR1:=Lib.hid hrd
   clear hrd hown
   clear HR0
   have HK2:Hid (Kept W w1 [(W.heap.size,35,#[.int .i64 (opn:Int),.int .i64 (an:Int),.int .i64 (bn:Int),.string ⟨nl.toArray⟩,.slice A n c])]):=HK1.out.next hb1
   clear HK1
   clear hb1
   have c_f_0:w1.cell? ⟨W.heap.size,0,none⟩=some (.int .i64 (opn:Int)):=HK2.out.cell 0 rfl 0
   have c_f_1:w1.cell? ⟨W.heap.size,1,none⟩=some (.int .i64 (an:Int)):=HK2.out.cell 0 rfl 1
   have c_f_2:w1.cell? ⟨W.heap.size,2,none⟩=some (.int .i64 (bn:Int)):=HK2.out.cell 0 rfl 2
   have c_f_3:w1.cell? ⟨W.heap.size,3,none⟩=some (.string ⟨nl.toArray⟩):=HK2.out.cell 0 rfl 3
   have c_f_4:w1.cell? ⟨W.heap.size,4,none⟩=some (.slice A n c):=HK2.out.cell 0 rfl 4
   go_wp2_with fail
   with_reducible refine(fP A1 (n0+(ay opn).length) c1 w1.heap.size (bs++ay opn) an (by omega) _ HR1.out (Nat.le_refl _) (by omega)).mono ?_
   rintro e w2 ⟨v2,rfl,hown,hb2⟩
   obtain⟨A2,c2,rfl,_,_,_,hrd⟩:=cS hown
   have HR2:=Lib.hid hrd
   clear hrd hown
   clear HR1
   clear c_f_0 c_f_1 c_f_2 c_f_3 c_f_4
   have HK3:Hid (Kept W w2 [(W.heap.size,35,#[.int .i64 (opn:Int),.int .i64 (an:Int),.int .i64 (bn:Int),.string ⟨nl.toArray⟩,.slice A n c])]):=HK2.out.next hb2
   clear HK2
   clear hb2
   have c_f_0:w2.cell? ⟨W.heap.size,0,none⟩=some (.int .i64 (opn:Int)):=HK3.out.cell 0 rfl 0
   have c_f_1:w2.cell? ⟨W.heap.size,1,none⟩=some (.int .i64 (an:Int)):=HK3.out.cell 0 rfl 1
   have c_f_2:w2.cell? ⟨W.heap.size,2,none⟩=some (.int .i64 (bn:Int)):=HK3.out.cell 0 rfl 2
   have c_f_3:w2.cell? ⟨W.heap.size,3,none⟩=some (.string ⟨nl.toArray⟩):=HK3.out.cell 0 rfl 3
   have c_f_4:w2.cell? ⟨W.heap.size,4,none⟩=some (.slice A n c):=HK3.out.cell 0 rfl 4
   go_wp2_with fail
   with_reducible refine(fP A2 (n0+(ay opn).length+(ay an).length) c2 w2.heap.size (bs++ay opn++ay an) bn (by omega) _ HR2.out (Nat.le_refl _) (by omega)).mono ?_
   rintro e w3 ⟨v3,rfl,hown,hb3⟩
   obtain⟨A3,c3,rfl,_,_,_,hrd⟩:=cS hown
   have HR3:=Lib.hid hrd
   clear hrd hown
   clear HR2
   clear c_f_0 c_f_1 c_f_2 c_f_3 c_f_4
   have HK4:Hid (Kept W w3 [(W.heap.size,35,#[.int .i64 (opn:Int),.int .i64 (an:Int),.int .i64 (bn:Int),.string ⟨nl.toArray⟩,.slice A n c])]):=HK3.out.next hb3
   clear HK3
   clear hb3
   have c_f_0:w3.cell? ⟨W.heap.size,0,none⟩=some (.int .i64 (opn:Int)):=HK4.out.cell 0 rfl 0
   have c_f_1:w3.cell? ⟨W.heap.size,1,none⟩=some (.int .i64 (an:Int)):=HK4.out.cell 0 rfl 1
   have c_f_2:w3.cell? ⟨W.heap.size,2,none⟩=some (.int .i64 (bn:Int)):=HK4.out.cell 0 rfl 2
   have c_f_3:w3.cell? ⟨W.heap.size,3,none⟩=some (.string ⟨nl.toArray⟩):=HK4.out.cell 0 rfl 3
   have c_f_4:w3.cell? ⟨W.heap.size,4,none⟩=some (.slice A n c):=HK4.out.cell 0 rfl 4
   go_wp2_with fail
   with_reducible refine(BC A3 (n0+(ay opn).length+(ay an).length+(ay bn).length) c3 w3.heap.size (bs++ay opn++ay an++ay bn) nl _ HR3.out (Nat.le_refl _) (by omega) (by omega)).mono ?_
   rintro e w4 ⟨v4,rfl,hown,hb4⟩
   obtain⟨A4,c4,rfl,_,_,_,hrd⟩:=cS hown
   have HR4:=Lib.hid hrd
   clear hrd hown
   clear HR3
   clear c_f_0 c_f_1 c_f_2 c_f_3 c_f_4
   have HK5:Hid (Kept W w4 [(W.heap.size,35,#[.int .i64 (opn:Int),.int .i64 (an:Int),.int .i64 (bn:Int),.string ⟨nl.toArray⟩,.slice A n c])]):=HK4.out.next hb4
   clear HK4
   clear hb4
   have c_f_0:w4.cell? ⟨W.heap.size,0,none⟩=some (.int .i64 (opn:Int)):=HK5.out.cell 0 rfl 0
   have c_f_1:w4.cell? ⟨W.heap.size,1,none⟩=some (.int .i64 (an:Int)):=HK5.out.cell 0 rfl 1
   have c_f_2:w4.cell? ⟨W.heap.size,2,none⟩=some (.int .i64 (bn:Int)):=HK5.out.cell 0 rfl 2
   have c_f_3:w4.cell? ⟨W.heap.size,3,none⟩=some (.string ⟨nl.toArray⟩):=HK5.out.cell 0 rfl 3
   have c_f_4:w4.cell? ⟨W.heap.size,4,none⟩=some (.slice A n c):=HK5.out.cell 0 rfl 4
   go_wp2_with fail
   with_reducible refine(fP A4 (n0+(ay opn).length+(ay an).length+(ay bn).length+(jH nl).length) c4 w4.heap.size (bs++ay opn++ay an++ay bn++jH nl) n (by omega) _ HR4.out (Nat.le_refl _) (by omega)).mono ?_
   rintro e w5 ⟨v5,rfl,hown,hb5⟩
   obtain⟨A5,c5,rfl,_,_,_,hrd⟩:=cS hown
   have HO:=Lib.hid (bX (base':=W.heap.size+1) hown (HK5.out.lt 0 rfl))
   have HR5:=Lib.hid hrd
   clear hrd hown
   clear HR4
   clear c_f_0 c_f_1 c_f_2 c_f_3 c_f_4
   have HK6:Hid (Kept W w5 [(W.heap.size,35,#[.int .i64 (opn:Int),.int .i64 (an:Int),.int .i64 (bn:Int),.string ⟨nl.toArray⟩,.slice A n c])]):=HK5.out.next hb5
   clear HK5
   clear hb5
   have hnn:n0+(ay opn).length+(ay an).length+(ay bn).length+(jH nl).length+(ay n).length=n0+hd.length:=by rw[HH];simp only[List.length_append];omega
   have hbb:bs++ay opn++ay an++ay bn++jH nl++ay n=bs++hd:=by rw[HH];simp only[List.append_assoc]
   rw[hnn]at HO ⊢
   rw[hbb]at HO
   clear hnn hbb HH HR5 e1 e2 e3 e4 e5
   have c_f_0:w5.cell? ⟨W.heap.size,0,none⟩=some (.int .i64 (opn:Int)):=HK6.out.cell 0 rfl 0
   have c_f_1:w5.cell? ⟨W.heap.size,1,none⟩=some (.int .i64 (an:Int)):=HK6.out.cell 0 rfl 1
   have c_f_2:w5.cell? ⟨W.heap.size,2,none⟩=some (.int .i64 (bn:Int)):=HK6.out.cell 0 rfl 2
   have c_f_3:w5.cell? ⟨W.heap.size,3,none⟩=some (.string ⟨nl.toArray⟩):=HK6.out.cell 0 rfl 3
   have c_f_4:w5.cell? ⟨W.heap.size,4,none⟩=some (.slice A n c):=HK6.out.cell 0 rfl 4
   go_wp2
   clear c_f_0 c_f_1 c_f_2 c_f_3 c_f_4
   go_loopw [0,35] (fun v i wr => ∃ (k:Nat),k≤n∧i = .int .i64 k∧Hid (wr.ownsRow (W.heap.size+1) 5 1 v (n0+hd.length+(dX (ks.take k)).length) (byteCells (bs++hd++dX (ks.take k))))∧Hid (Kept W wr [(W.heap.size,35,#[.int .i64 (opn:Int),.int .i64 (an:Int),.int .i64 (bn:Int),.string ⟨nl.toArray⟩,.slice A n c])])) (fun _ i _=>n-(intOf i).toNat)
   case atStart=>exact⟨0,Nat.zero_le _,rfl,Lib.hid (by rw[List.take_zero,dX,List.length_nil,List.append_nil,Nat.add_zero];exact HO.out),HK6⟩
   case round=>
    clear HK6 HO
    obtain⟨k,hk,rfl,HO,HK⟩:=hrel
    have hz:=HK.out.lt 0 rfl
    by_cases hlt:k<n
    ·obtain⟨ad,op',a',b',name',A',n',c',t',v',rfl,hkt,hvt,hve,hft,d0,d1,d2,d3,d4⟩:=HKI.out wr (HB.out.trans (HK.out.bel.mono hBW)) k hlt
     have ihk:=IH.out k v' t' hvt hkt
     subst hve
     have HIK:=Lib.hid ihk
     have HKT:=Lib.hid hkt
     have i1:(0:Int)≤(k:Int):=by omega
     have i2:(k:Int)<(n:Int):=by omega
     clear hkt hvt ihk
     have HEV:=Lib.hid (zk HEL.out HKT.out)
     have hck:=HCT.out _ _ HKT.out
     have htc:=HTC.out _ _ HKT.out
     have hhd:=HHD.out
     have hel2:=jV t' HEV.out (by omega)
     have HT2:=Lib.hid (show dX (ks.take (k+1))=dX (ks.take k)++rR t' from by rw[uo ks k t' HKT.out,tE])
     generalize dX (ks.take k)=el at HO htc HT2 ⊢
     obtain⟨A2,c2,rfl,_,_,_,hr2⟩:=cS HO.out
     have HR2:=Lib.hid hr2
     clear hr2
     have HK7:Hid (Kept W (wr.alloc (.cells #[.int .i64 op',.int .i64 a',.int .i64 b',.string name',.slice A' n' c'] 35)) [(wr.heap.size,35,#[.int .i64 op',.int .i64 a',.int .i64 b',.string name',.slice A' n' c']),(W.heap.size,35,#[.int .i64 (opn:Int),.int .i64 (an:Int),.int .i64 (bn:Int),.string ⟨nl.toArray⟩,.slice (some ad) n c])]):=HK.out.alloc 35 #[.int .i64 op',.int .i64 a',.int .i64 b',.string name',.slice A' n' c']
     clear HK
     go_wp2_with fail
     clear d0 d1 d2 d3 d4
     with_reducible refine(HIK.out HEV.out (by omega) _ (HB.out.trans (HK7.out.bel.mono hBW)) (Nat.le_trans hBW HK7.out.size) A2 (n0+hd.length+el.length) c2 wr.heap.size (bs++hd++el) (HR2.out.alloc (Nat.le_refl _) _) (by simp) (by omega)).mono ?_
     rintro e w2 ⟨v2,rfl,hown2,hb2⟩
     have HO2:=Lib.hid (show w2.ownsRow (W.heap.size+1) 5 1 v2 (n0+hd.length+(dX (ks.take (k+1))).length) (byteCells (bs++hd++dX (ks.take (k+1)))) from by rw[HT2.out,List.length_append,←Nat.add_assoc,←List.append_assoc];exact bX hown2 (by simp;omega))
     clear hown2 HO HR2 HT2
     have HK8:Hid (Kept W w2 [(W.heap.size,35,#[.int .i64 (opn:Int),.int .i64 (an:Int),.int .i64 (bn:Int),.string ⟨nl.toArray⟩,.slice (some ad) n c])]):=(HK7.out.next hb2).sub (List.Sublist.cons _ (List.Sublist.cons_cons _ List.Sublist.slnil))
     clear HK7
     clear hb2
     go_wp2
     exact⟨⟨k+1,by omega,rfl,HO2,HK8⟩,by simp[intOf];omega⟩
    ·obtain rfl:n=k:=by omega
     have c_f_0:wr.cell? ⟨W.heap.size,0,none⟩=some (.int .i64 (opn:Int)):=HK.out.cell 0 rfl 0
     have c_f_1:wr.cell? ⟨W.heap.size,1,none⟩=some (.int .i64 (an:Int)):=HK.out.cell 0 rfl 1
     have c_f_2:wr.cell? ⟨W.heap.size,2,none⟩=some (.int .i64 (bn:Int)):=HK.out.cell 0 rfl 2
     have c_f_3:wr.cell? ⟨W.heap.size,3,none⟩=some (.string ⟨nl.toArray⟩):=HK.out.cell 0 rfl 3
     have c_f_4:wr.cell? ⟨W.heap.size,4,none⟩=some (.slice A n c):=HK.out.cell 0 rfl 4
     have HO2:=Lib.hid (show wr.ownsRow W.heap.size 5 1 _ (n0+(hd++dX ks).length) (byteCells (bs++(hd++dX ks))) from by have h:=HO.out;rw[List.take_of_length_le (by rw[HN.out];exact Nat.le_refl _)]at h;rw[List.length_append,←Nat.add_assoc,←List.append_assoc];exact bX h (by omega))
     clear HO
     go_wp2
     go_ret
     exact⟨_,rfl,HO2.out,HK.out.bel⟩
end
section
open Go.RowKit Go.ChangeShapes
def cX (t:FT):List UInt8:=if lE t=true then rR t else []
def zZ (l:List UInt8) (W:World) (e:Ending) (w':World):Prop := ∃ v,e = .returned v∧w'.ownsRow W.heap.size 5 1 v l.length (byteCells l)∧Below W.heap.size W w'
theorem zK (t:FT):(cX t).length≤6000:=by
 unfold cX
 split
 ·rename_i h
  obtain⟨h1,_,h2⟩:=om t h
  have:=jV t h1 (by omega)
  omega
 ·simp
theorem Gw {w:World} {B:Nat} {cs:List Value} {t:FT} (h:FTr w B cs t) (W:World) (hB:Below B w W) (hBW:B≤W.heap.size):Calls Tryz.prog 39 #[.agg cs.toArray] W (zZ (cX t) W):=by
 have HT:=Lib.hid h
 have HB:=Lib.hid hB
 clear hB
 cases h with
 | mk op a b name A n c vs ks hop ha hb hnm hn hv hnc hcm hr hk=>
   clear hop ha hb hn hv hr hk hnm hnc hcm
   generalize FT.mk op a b name ks=t at HT ⊢
   unfold zZ
   have HK1:Hid (Kept W (W.alloc (.cells #[.int .i64 op,.int .i64 a,.int .i64 b,.string name,.slice A n c] 35)) [(W.heap.size,35,#[.int .i64 op,.int .i64 a,.int .i64 b,.string name,.slice A n c])]):=((Kept.start W).alloc_at 35 #[.int .i64 op,.int .i64 a,.int .i64 b,.string name,.slice A n c] (W.heap.size) (by simp))
   go_enter Tryz.func39,Tryz.ntmps39
   go_wp2_with fail
   with_reducible refine(td HT.out _ (HB.out.trans (HK1.out.bel.mono hBW)) (Nat.le_trans hBW HK1.out.size)).mono ?_
   rintro e w1 ⟨rfl,hb1⟩
   have HK2:Hid (Kept W w1 [(W.heap.size,35,#[.int .i64 op,.int .i64 a,.int .i64 b,.string name,.slice A n c])]):=HK1.out.next hb1
   clear HK1
   clear hb1
   cases hrt:lE t
   ·have HE:=Lib.hid (show cX t = [] from by unfold cX;rw[hrt];rfl)
    clear hrt
    go_wp2
    go_ret
    exact⟨_,rfl,by rw[HE.out];exact⟨rfl,.inl ⟨rfl,rfl⟩⟩,HK2.out.bel⟩
   have HE:=Lib.hid (show cX t=rR t from by unfold cX;rw[hrt];rfl)
   obtain⟨hev,_,hct⟩:=om t hrt
   have HEV:=Lib.hid hev
   clear hrt hev
   have c_f_0:w1.cell? ⟨W.heap.size,0,none⟩=some (.int .i64 op):=HK2.out.cell 0 rfl 0
   have c_f_1:w1.cell? ⟨W.heap.size,1,none⟩=some (.int .i64 a):=HK2.out.cell 0 rfl 1
   have c_f_2:w1.cell? ⟨W.heap.size,2,none⟩=some (.int .i64 b):=HK2.out.cell 0 rfl 2
   have c_f_3:w1.cell? ⟨W.heap.size,3,none⟩=some (.string name):=HK2.out.cell 0 rfl 3
   have c_f_4:w1.cell? ⟨W.heap.size,4,none⟩=some (.slice A n c):=HK2.out.cell 0 rfl 4
   go_wp2_with fail
   with_reducible refine(Me HT.out HEV.out (by omega) _ (HB.out.trans (HK2.out.bel.mono hBW)) (Nat.le_trans hBW HK2.out.size) none 0 0 0 [] (Reads.none_) (Nat.zero_le _) (by omega)).mono ?_
   rintro e w2 ⟨v,rfl,hown,hb2⟩
   rw[Nat.zero_add,List.nil_append]at hown
   obtain⟨A2,c2,rfl,_,_,_,hr2⟩:=cS hown
   have HO:=Lib.hid (bX (base':=W.heap.size) hown HK2.out.size)
   clear hown hr2
   clear c_f_0 c_f_1 c_f_2 c_f_3 c_f_4
   have HK3:Hid (Kept W w2 [(W.heap.size,35,#[.int .i64 op,.int .i64 a,.int .i64 b,.string name,.slice A n c])]):=HK2.out.next hb2
   clear HK2
   clear hb2
   go_wp2
   go_ret
   exact⟨_,rfl,by rw[HE.out];exact HO.out,HK3.out.bel⟩
end
section
open Go.RowKit Go.ChangeShapes
theorem kU (i:Nat) (h:i<256):aK i<4294967296:=pL (by omega)
theorem rD {w:World} {g:Nat} {t:Nat→Nat} (h:Blk w g 121 (aH t)):w.rangeAt g 0 (aH t).toList:=fun j v hv=>by
 rw[Nat.zero_add,h.cell j]
 simpa using hv
theorem Kept.setRow {w0 W:World} {L:List Ent} {g:Nat} {t:TypeId} {cs:Array Value} (h:Kept w0 W L) (i:Nat) (hi:L[i]?=some (g,t,cs)) (cs':Array Value):Kept w0 (W.setRow g cs') (L.set i (g,t,cs')):=
 h.turn i hi cs' (iN h.bel (h.ge i hi) cs') ((h.blk i hi).setRow cs') (fun x _ hne hb=>hb.setRow_far hne cs')
def tM (t:FT) (seq:Int):Bool:=lE t&&decide (0≤seq∧seq≤4294967296)
def tV (t:FT) (seq:Int):ByteArray×Int:=if tM t seq=true then(⟨(FB (cX t) seq.toNat).toArray⟩,0) else(⟨#[]⟩,1)
def jr (W:World) (r:ByteArray×Int) (e:Ending) (w':World):Prop:=e = .returned (.tuple #[.string r.1,.int .i64 r.2])∧Below W.heap.size W w'
theorem jr.of {W:World} {r r':ByteArray×Int} {e:Ending} {w':World} (h:r=r') (hk:jr W r' e w'):jr W r e w':=h ▸ hk
theorem nw {t:FT} {seq:Int} (h:tM t seq=false):tV t seq=(⟨#[]⟩,1):=by unfold tV;rw[h];rfl
theorem xz (w:World):IsB w.heap.size w.heap.size [] (w.alloc (.cells #[.pointer none,.slice none 0 0] 82)):=
 .inl ⟨Nat.le_refl _,_,heap_alloc_new w _,⟨rfl,.inl ⟨rfl,rfl⟩⟩,by simp[Value.ownBlock]⟩
set_option maxHeartbeats 8000000 in
theorem Kh {w:World} {B:Nat} {cs:List Value} {t:FT} (h:FTr w B cs t) (seq:Int) (W:World) (hB:Below B w W) (hBW:B≤W.heap.size):
 Calls Tryz.prog 10 #[.agg cs.toArray,.int .i64 seq] W (jr W (tV t seq)):=by
 have HT:=Lib.hid h
 have HB:=Lib.hid hB
 clear hB
 cases h with
 | mk op a b name A n c vs ks hop ha hb hnm hn hv hnc hcm hr hk=>
   clear hop ha hb hn hv hr hk hnm hnc hcm
   generalize FT.mk op a b name ks=t at HT ⊢
   have HK1:Hid (Kept W (W.alloc (.cells #[.int .i64 op,.int .i64 a,.int .i64 b,.string name,.slice A n c] 35)) [(W.heap.size,35,#[.int .i64 op,.int .i64 a,.int .i64 b,.string name,.slice A n c])]):=((Kept.start W).alloc_at 35 #[.int .i64 op,.int .i64 a,.int .i64 b,.string name,.slice A n c] (W.heap.size) (by simp))
   go_enter Tryz.func10,Tryz.ntmps10
   go_wp2_with fail
   with_reducible refine(td HT.out _ (HB.out.trans (HK1.out.bel.mono hBW)) (Nat.le_trans hBW HK1.out.size)).mono ?_
   rintro e w1 ⟨rfl,hb1⟩
   have HK2:Hid (Kept W w1 [(W.heap.size,35,#[.int .i64 op,.int .i64 a,.int .i64 b,.string name,.slice A n c])]):=HK1.out.next hb1
   clear HK1
   clear hb1
   cases hrt:lE t
   ·have HE:=Lib.hid (nw (t:=t) (seq:=seq) (by unfold tM;rw[hrt];rfl))
    clear hrt
    go_wp2
    go_ret2
    exact jr.of HE.out ⟨rfl,HK2.out.bel⟩
   by_cases h0:seq<0
   ·have HE:=Lib.hid (nw (t:=t) (seq:=seq) (by unfold tM;rw[decide_eq_false (by omega),Bool.and_false]))
    have d0:decide (seq<0)=true:=by simpa using h0
    clear hrt
    go_wp2
    go_ret2
    exact jr.of HE.out ⟨rfl,HK2.out.bel⟩
   by_cases h1:4294967296<seq
   ·have HE:=Lib.hid (nw (t:=t) (seq:=seq) (by unfold tM;rw[decide_eq_false (by omega),Bool.and_false]))
    have d0:decide (seq<0)=false:=by simpa using h0
    have d1:decide (4294967296<seq)=true:=by simpa using h1
    clear hrt
    go_wp2
    go_ret2
    exact jr.of HE.out ⟨rfl,HK2.out.bel⟩
   obtain⟨q,rfl⟩:∃ q:Nat,seq=(q:Int):=⟨seq.toNat,by omega⟩
   have HE:=Lib.hid (show tV t (q:Int)=(⟨(FB (cX t) q).toArray⟩,0) from by unfold tV tM;rw[hrt,decide_eq_true (by omega)];simp)
   have hq5:=zJ q (by omega)
   have hbl:=zK t
   have d0:decide ((q:Int)<0)=false:=by simp
   have d1:decide (4294967296<(q:Int))=false:=by simp;omega
   clear hrt h0
   go_wp2_with fail
   with_reducible refine(fP none 0 0 0 [] q (by omega) _ Reads.none_ (Nat.zero_le _) (by omega)).mono ?_
   rintro e w2 ⟨v2,rfl,hown2,hb2⟩
   rw[Nat.zero_add,List.nil_append]at hown2
   obtain⟨A2,c2,rfl,-,-,-,hr2⟩:=cS hown2
   have HR2:=Lib.hid hr2
   clear hown2 hr2
   have HK3:Hid (Kept W w2 [(W.heap.size,35,#[.int .i64 op,.int .i64 a,.int .i64 b,.string name,.slice A n c])]):=HK2.out.next hb2
   clear HK2
   clear hb2
   go_wp2_with fail
   with_reducible refine(Ak _).mono ?_
   rintro e w3 ⟨rfl,hb3⟩
   have HR3:=Lib.hid ((HR2.out.below hb3).more hb3.size)
   clear HR2
   have HK4:Hid (Kept W w3 [(W.heap.size,35,#[.int .i64 op,.int .i64 a,.int .i64 b,.string name,.slice A n c])]):=HK3.out.next hb3
   clear HK3
   clear hb3
   have HKz:=Lib.hid (HK4.out.alloc_at 121 Tryz.zeroCells121 w3.heap.size rfl)
   have HN:=Lib.hid (show Blk (w3.alloc (.cells Tryz.zeroCells121 121)) w3.heap.size 121 (aH fun _=>0) from by rw[←jL];exact Blk.new w3 _ _)
   have HKt:Hid (Kept W ((w3.alloc (.cells Tryz.zeroCells121 121)).setRow w3.heap.size (aH aK)) [(w3.heap.size,121,aH aK),(W.heap.size,35,#[.int .i64 op,.int .i64 a,.int .i64 b,.string name,.slice A n c])]):=HKz.out.setRow 0 rfl (aH aK)
   have HR4:=Lib.hid ((HR3.out.alloc (Nat.le_refl _) (.cells Tryz.zeroCells121 121)).below (w':=(w3.alloc (.cells Tryz.zeroCells121 121)).setRow w3.heap.size (aH aK)) (iN (Below.refl _ _) (Nat.le_refl _) _))
   clear HKz HR3
   have hu:=Tryz.underlying121
   have hi2:(Tryz.prog.info? 121).map (·.size)=some (aH aK).toList.length:=by rw[Array.length_toList];exact fc aK
   go_wp2_with (refine wpList_store_row rfl 121 _ _ rfl w3.heap.size (aH aK) rfl rfl 121 (aH (fun _=>0)) HN.out (fc _) (by rw[aY,aY]) (pN _) ?_;clear HN;generalize (w3.alloc (.cells Tryz.zeroCells121 121)).setRow w3.heap.size (aH aK)=w4 at HKt HR4 ⊢)
   clear HK4
   refine wp_region_noPanic ?_
   refine wp_region_held_drew (S:=fun W'=>Kept W W' [(w3.heap.size,121,(aH aK)),(W.heap.size,35,#[.int .i64 op,.int .i64 a,.int .i64 b,.string name,.slice A n c])]) (by kernel_rfl) HKt.out.drew (fun hHeld=>?_)
   have HRd:=Lib.hid HR4.out.drew
   clear HR4 HKt
   generalize w4.drew=wd at hHeld HRd ⊢
   refine aa 0 (v := .agg ((aH aK).toList).toArray) rfl (by kernel_rfl) (by kernel_rfl) (by kernel_rfl) rfl (fun _ _ _ h=>h) (yieldsIf_load_mid (by rfl) _ _ rfl _ _ rfl ((aH aK).toList) _ ?hS0u16 hu rfl hi2) hHeld ?r0u16
   case hS0u16=>(intro W hSW;(try dsimp only at hSW);exact rD (hSW.blk 0 rfl))
   simp only[Act.put,Array.toArray_toList,sI,sZ,sS]
   refine aa 1 (v := .agg ((aH aK).toList).toArray) rfl (by kernel_rfl) (by kernel_rfl) (by kernel_rfl) rfl (fun _ _ _ h=>h) (yieldsIf_load_mid (by rfl) _ _ rfl _ _ rfl ((aH aK).toList) _ ?hS1u17 hu rfl hi2) hHeld ?r1u17
   case hS1u17=>(intro W hSW;(try dsimp only at hSW);exact rD (hSW.blk 0 rfl))
   simp only[Act.put,Array.toArray_toList,sI,sZ,sS]
   refine tS 2 hHeld ?_ (hy:=by(intro W hSW;(try dsimp only at hSW);have q0:=hSW.cell 1 rfl 0;have q1:=hSW.cell 1 rfl 1;have q2:=hSW.cell 1 rfl 2;have q3:=hSW.cell 1 rfl 3;have q4:=hSW.cell 1 rfl 4;simp only[List.getElem?_toArray,List.getElem?_cons_zero,List.getElem?_cons_succ]at q0 q1 q2 q3 q4;go_simp;try with_reducible rfl))
   refine tS 5 hHeld ?_
   refine wpAnyH_ready (rs:=[3]) (by kernel_rfl) (by simp) ?_
   refine AllReadyH.cons rfl (fun K hK=>?_) AllReadyH.nil
   go_simp
   with_reducible refine(Gw HT.out _ (HB.out.trans (hHeld.bel.mono hBW)) (Nat.le_trans hBW hHeld.size)).mono ?_
   rintro e w5 ⟨v5,rfl,hown5,hbn⟩
   obtain⟨A5,c5,rfl,-,-,-,hr5⟩:=cS hown5
   have HR5:=Lib.hid hr5
   have HRe:=Lib.hid ((HRd.out.below (hbn.mono (by have:=hHeld.lt 0 rfl;omega))).more (B':=w5.heap.size) (by have:=hHeld.lt 0 rfl;have:=hbn.size;omega))
   clear HRd
   have hkn:=hHeld.next hbn
   clear hbn hown5 hr5
   refine hK.out _ _ hkn (fun hHeld=>?_)
   clear hK K
   try simp only[Act.put,sI,sZ,sS]
   have hs1:=FJ aK kU 0 (by decide) (bW (cX t)) (vj _)
   refine wpAnyH_ready (rs:=[4]) (by kernel_rfl) (by simp) ?_
   refine AllReadyH.cons rfl (fun K hK=>?_) AllReadyH.nil
   go_simp
   refine(Dr aK kU 0 (by decide) A5 _ c5 _ (cX t) _ HR5.out (Nat.le_refl _) (by omega)).mono ?_
   rintro e w6 ⟨rfl,hbn⟩
   have HRf:=Lib.hid ((HRe.out.below hbn).more hbn.size)
   clear HRe HR5
   have hkn:=hHeld.next hbn
   clear hbn
   refine hK.out _ _ hkn (fun hHeld=>?_)
   clear hK K
   try simp only[Act.put,sI,sZ,sS]
   refine wpAnyH_ready (rs:=[6]) (by kernel_rfl) (by simp) ?_
   refine AllReadyH.cons rfl (fun K hK=>?_) AllReadyH.nil
   go_simp
   with_reducible refine(Dr aK kU _ hs1 A2 _ c2 _ (ay q) _ HRf.out (Nat.le_refl _) (by omega)).mono ?_
   skip
   rintro e w7 ⟨rfl,hbn⟩
   have HRg:=Lib.hid ((HRf.out.below hbn).more hbn.size)
   clear HRf
   have hkn:=hHeld.next hbn
   clear hbn
   refine hK.out _ _ hkn (fun hHeld=>?_)
   clear hK K
   try simp only[Act.put,sI,sZ,sS]
   refine tS 7 hHeld ?_
   refine wpAnyH_done (by kernel_rfl) ?_ _
   refine NoPanic.normal ?_
   have HKw:=Lib.hid hHeld
   clear hHeld
   have hsum:rU aK (rU aK 0 (bW (cX t))) (bW (ay q))=jU (bW (cX t++ay q)):=by rw[oF,←xG,Eb]
   rw[hsum]
   have HS:Hid (jU (bW (cX t++ay q))<4294967296):=Cg _
   clear hsum hs1
   have HTK:Hid (FB (cX t) q=gQ (ay q++oU (jU (bW (cX t++ay q))))):=rfl
   generalize jU (bW (cX t++ay q))=s at HS HTK ⊢
   have HBa:=Lib.hid (xz w7)
   have HBb:Hid (Below w7.heap.size w7 (w7.alloc (.cells #[.pointer none,.slice none 0 0] 82))):=(Below.refl _ _).alloc (Nat.le_refl _) _
   have HLn:=Lib.hid HRg.out.lenB
   go_wp2
   generalize w7.alloc (.cells #[.pointer none,.slice none 0 0] 82)=w8 at HBa HBb ⊢
   generalize hg:w7.heap.size=g at HBa HBb HRg ⊢
   skip
   go_loopw [36] (fun iv wr => ∃ k:Nat,k≤(ay q).length∧iv = .int .i64 k∧Hid (IsB g g (byteCells (gQ ((ay q).take k))) wr)∧Hid (Below g w7 wr)) (fun iv _=>(ay q).length-(intOf iv).toNat)
   case atStart=>exact⟨0,Nat.zero_le _,rfl,HBa,HBb⟩
   case round=>
    obtain⟨k,hk,rfl,HI,HBW⟩:=hrel
    clear HBa HBb
    have hgs:g≤wr.heap.size:=by rw[←hg];exact HBW.out.size
    by_cases hlt:k<(ay q).length
    ·obtain⟨ad,x,rfl,hb,hx,hc⟩:=(HRg.out.below HBW.out).byte_at hlt
     have hx2:(ay q).take (k+1)=(ay q).take k ++ [x]:=by rw[List.take_add_one,hx];rfl
     have HX:=Lib.hid hx2
     have hl2:(byteCells (gQ ((ay q).take k))).length+2≤140737488355328:=by rw[byteCells_length,oA,List.length_take];omega
     have i1:(0:Int)≤(k:Int):=by omega
     have i2:(k:Int)<((ay q).length:Int):=by omega
     clear hx hx2
     go_wp2_with fail
     refine(El g g _ x _ HI.out hl2 hgs).mono ?_
     rintro e w9 ⟨rfl,hi9,hb9⟩
     rw[←byteCells_append,show gQ ((ay q).take k)++qN x=gQ ((ay q).take (k+1)) from by rw[HX.out,oK];simp[gQ]]at hi9
     have HI9:Hid (IsB g g _ w9) := .inr hi9
     have HB9:=Lib.hid (HBW.out.trans hb9)
     clear hi9 hb9 hc hb
     go_wp2
     exact⟨⟨k+1,by omega,by go_num,HI9,HB9⟩,by simp[intOf];omega⟩
    ·have hkk:k=(ay q).length:=by omega
     have HI2:=Lib.hid (show IsB g g (byteCells (gQ (ay q++(oU s).take 0))) wr from by have e:=HI.out;rw[hkk,List.take_length]at e;rw[List.take_zero,List.append_nil];exact e)
     have dk:decide ((k:Int)<((ay q).length:Int))=false:=by simp;omega
     clear HI hkk
     go_wp2
     go_loopw [8,43] (fun sv iv wr => ∃ j:Nat,j≤4∧iv = .int .i64 j∧sv = .int .u32 ((s/256^j:Nat):Int)∧Hid (IsB g g (byteCells (gQ (ay q++(oU s).take j))) wr)∧Hid (Below g w7 wr)) (fun _ iv _=>4-(intOf iv).toNat)
     case atStart=>exact⟨0,by omega,rfl,by simp,HI2,HBW⟩
     case round=>
      clear HI2 HBW
      obtain⟨j,hj,rfl,rfl,HI,HBW⟩:=hrel
      have hgs:g≤wr.heap.size:=by rw[←hg];exact HBW.out.size
      have hsj:s/256^j<4294967296:=Nat.lt_of_le_of_lt (Nat.div_le_self _ _) HS.out
      by_cases hlt:j<4
      ·have hsn:=BD s j hlt
       have hs2:s/256^(j+1)=s/256^j/256:=by rw[Nat.pow_succ,Nat.div_div_eq_div_mul]
       have HX:=Lib.hid hsn
       have HX2:=Lib.hid hs2
       clear hsn hs2
       generalize s/256^j=sj at hsj HX HX2 ⊢
       have hxb:((UInt8.ofNat (sj%256)).toNat:Int)=(sj:Int)%256:=by rw[zP _ (by omega)];omega
       generalize UInt8.ofNat (sj%256)=x at HX hxb
       have hl2:(byteCells (gQ (ay q++(oU s).take j))).length+2≤140737488355328:=by rw[byteCells_length,oA,List.length_append,List.length_take];omega
       go_wp2_with fail
       rw[←hxb]
       refine(El g g _ x _ HI.out hl2 hgs).mono ?_
       rintro e w9 ⟨rfl,hi9,hb9⟩
       rw[←byteCells_append,show gQ (ay q++(oU s).take j)++qN x=gQ (ay q++(oU s).take (j+1)) from by rw[HX.out,←List.append_assoc,oK (ay q++_) [x]];simp[gQ]]at hi9
       have HI9:Hid (IsB g g _ w9) := .inr hi9
       have HB9:=Lib.hid (HBW.out.trans hb9)
       clear hi9 hb9
       go_wp2
       exact⟨⟨j+1,by omega,by go_num,by rw[HX2.out];simp,HI9,HB9⟩,by simp[intOf];omega⟩
      ·have hjj:j=4:=by omega
       subst hjj
       have HI3:=Lib.hid (show IsB g g (Lib.byteCells (FB (cX t) q)) wr from by have e:=HI.out;rw[List.take_of_length_le (by rw[wG];exact Nat.le_refl _),←HTK.out]at e;exact e)
       clear HI
       go_wp2_with fail
       refine(Tryz.Builder_String_any g g _ _ HI3.out hgs).mono ?_
       rintro e w9 ⟨rfl,hb9⟩
       have HBf:=Lib.hid (HKw.out.bel.trans ((HBW.out.trans hb9).mono (by have:=HKw.out.size;omega)))
       go_wp2
       go_ret2
       exact jr.of HE.out ⟨rfl,HBf.out⟩
end
section
open RowKit
def ET (args:List ah) (H:af):Option ah:=match args with
 | [.agg [.int .i64 op,.int .i64 a,.int .i64 b,.str nm,.nils],.int .i64 seq]=>
   if(Lit.int .i64 op).wf=true∧(Lit.int .i64 a).wf=true∧(Lit.int .i64 b).wf=true∧nm.length≤1000 then(match tV (.mk op a b ⟨⟨nm⟩⟩ []) seq with
    | (s,e)=>some (.tup [.str s.data.toList,.int .i64 e])) else none
 | _=>none
theorem zu:Told Tryz.prog 10 ET:=by
 refine⟨⟨_,Tryz.func10,by kernel_rfl,by kernel_rfl⟩,fun args H r h ρ w vs hr hv=>?_⟩
 unfold ET at h
 split at h
 ·rename_i op a b nm seq
  split at h
  ·rename_i hc
   obtain⟨c1,c2,c3,c4⟩:=hc
   simp only at h
   injection h with h
   subst h
   cases hv with
   | cons _ v1 _ vs1 hv1 hvs1=>
   cases hvs1 with
   | cons _ v2 _ vs2 hv2 hvs2=>
   cases hvs2
   cases hv2
   cases hv1 with
   | agg _ us hus=>
   cases hus with
   | cons _ u1 _ us1 hu1 hus1=>
   cases hus1 with
   | cons _ u2 _ us2 hu2 hus2=>
   cases hus2 with
   | cons _ u3 _ us3 hu3 hus3=>
   cases hus3 with
   | cons _ u4 _ us4 hu4 hus4=>
   cases hus4 with
   | cons _ u5 _ us5 hu5 hus5=>
   cases hus5
   cases hu1
   cases hu2
   cases hu3
   cases hu4
   cases hu5
   have hnm:(⟨⟨nm⟩⟩:ByteArray).size≤maxLen:=Nat.le_trans (show nm.length≤1000 from c4) (by decide)
   have ht:FTr w w.heap.size [.int .i64 op,.int .i64 a,.int .i64 b,.string ⟨⟨nm⟩⟩,.slice none 0 0] (.mk op a b ⟨⟨nm⟩⟩ []):=
    .mk op a b ⟨⟨nm⟩⟩ none 0 0 [] [] c1 c2 c3 hnm rfl rfl (Nat.le_refl _) (Nat.zero_le _) (fun hn=>absurd hn (by omega)) (fun i v t hv=>by cases hv)
   refine(Kh ht seq w (Below.refl _ _) (Nat.le_refl _)).mono ?_
   rintro e w' ⟨rfl,hb⟩
   exact⟨_,rfl,.tup _ [_,_] (.cons _ _ _ _ (.str _) (.cons _ _ _ _ (.int _ _) .nil)),hb⟩
  ·cases h
 ·cases h
end
section
open Go.RowKit Go.Shelf
attribute [local go_sem] Oper.semAt_some
def jF (v:Value) (x:Unit):Array Value:=#[.int .i64 0,v]
set_option maxHeartbeats 2000000 in
theorem LV (F:Fence) (n:Nat) (h1:F.fn 210) (hro:F.round=none) (hn:1≤n) (l Bs n₀:Nat) (ad:Addr) (cap:Nat) (nm:ByteArray) (J Jx:List Unit→World→Prop)
 (hY:∀ pre x W,J pre W→pre.length<1→YieldAt F (n-1) Tryz.prog l (jF (.string nm) x) W fun e W'=>
  (e = .returned (.bool true)∧J (pre ++ [x]) W'∧KpB n₀ Bs W W')∨(e = .returned (.bool false)∧Jx (pre ++ [x]) W'))
 (W:World) (hBs:W.cell? ⟨Bs,0,none⟩=some (.slice (some ad) 1 cap)) (had:ad.block<n₀) (hr:W.cell? ad=some (.string nm)) (h0:J [] W):
 CallsIn F n Tryz.prog 210 #[.func (.yield l) #[] #[],.pointer (some ⟨Bs,0,none⟩)] W fun e W'=>(∃ v,e = .returned v) ∧
  ((∃ ys,ys = [()]∧J ys W')∨(∃ pre,pre = [()]∧Jx pre W')):=by
 refine callsIn_of_wp Tryz.func210 rfl h1 ?_ hro
 simp only[Tryz.ntmps210,List.size_toArray,List.length_cons,List.length_nil,Nat.reduceAdd,Nat.reduceSub,Array.replicate_succ,Array.replicate_zero,List.push_toArray,List.append_toArray,List.nil_append,List.cons_append]
 gi_wp2
 gi_loopw [3] (fun i wr=>(i = .int .i64 0∧Hid (J [] wr)∧KpB n₀ Bs W wr)∨(i = .int .i64 (-1)∧Hid (J [()] wr)))
  (fun i _=>(intOf i+1).toNat)
 case atStart=>exact .inl ⟨by simp,h0,Below.refl _ _,rfl⟩
 case round=>
  rcases hrel with⟨rfl,hJs,hnx⟩ | ⟨rfl,hJs⟩
  ·have hbox:=hnx.2.trans hBs
   have hcell:=(hnx.1.cell had).trans hr
   have hcell0:wr.cell? (ad.add 0)=some (.string nm):=hcell
   clear hnx hr hBs
   obtain⟨fn,tmps,assign,body,hy,hR⟩:=hY _ () wr hJs.out (by simp)
   unfold jF at hy
   gi_wp2
   refine hR.mono ?_
   rintro e W3 (⟨rfl,hJ3,hk3⟩ | ⟨rfl,hJx3⟩)
   ·gi_wp2
    go_roundw
    case rel=>exact .inr ⟨rfl,hJ3⟩
    case measure=>simp[intOf]
   ·gi_wp2
    refine bodyPost_ret (results_none rfl _ _ _) rfl ?_
    exact⟨⟨_,rfl⟩,.inr ⟨_,rfl,hJx3⟩⟩
  ·gi_wp2
   go_end0
   exact⟨⟨_,rfl⟩,.inl ⟨_,rfl,hJs.out⟩⟩
theorem xL (F:Fence) (n:Nat) (h1:F.fn 210) (hro:F.round=none) (hn:1≤n) (Bs n₀:Nat) (ad:Addr) (cap:Nat) (nm:ByteArray) (w:World) (hBs:Bs<w.heap.size) (hn₀:n₀≤w.heap.size)
 (hc:w.cell? ⟨Bs,0,none⟩=some (.slice (some ad) 1 cap)) (had:ad.block<n₀) (hr:w.cell? ad=some (.string nm)):
 SeqStopsK F n Tryz.prog 210 #[.pointer (some ⟨Bs,0,none⟩)] (jF (.string nm)) (KpB n₀ Bs) (fun ys=>ys = [()]) (fun pre=>pre = [()]) 1 w:=fun l J Jx W hW _ _ hY h0=>
 LV F n h1 hro hn l Bs n₀ ad cap nm J Jx hY W ((hW.cell (p:=⟨Bs,0,none⟩) hBs).trans hc) had ((hW.cell (p:=ad) (Nat.lt_of_lt_of_le had hn₀)).trans hr) h0
def gR (b off:Nat) (v0 v1 v2 v3 v4 v5 v6 v7 v8 v9 v10:Value) (W:World):Prop:=W.cell? ⟨b,off,none⟩=some v0∧W.cell? ⟨b,off+1,none⟩=some v1∧W.cell? ⟨b,off+2,none⟩=some v2∧W.cell? ⟨b,off+3,none⟩=some v3∧W.cell? ⟨b,off+4,none⟩=some v4∧W.cell? ⟨b,off+5,none⟩=some v5∧W.cell? ⟨b,off+6,none⟩=some v6∧W.cell? ⟨b,off+7,none⟩=some v7∧W.cell? ⟨b,off+8,none⟩=some v8∧W.cell? ⟨b,off+9,none⟩=some v9∧W.cell? ⟨b,off+10,none⟩=some v10
theorem gR.keep {b off:Nat} {v0 v1 v2 v3 v4 v5 v6 v7 v8 v9 v10:Value} {W W':World} (h:gR b off v0 v1 v2 v3 v4 v5 v6 v7 v8 v9 v10 W) (hb:W'.heap[b]?=W.heap[b]?):gR b off v0 v1 v2 v3 v4 v5 v6 v7 v8 v9 v10 W':=by
 unfold gR at *
 obtain⟨h0,h1,h2,h3,h4,h5,h6,h7,h8,h9,h10⟩:=h
 exact⟨(World.cell?_of_block hb).trans h0,(World.cell?_of_block hb).trans h1,(World.cell?_of_block hb).trans h2,(World.cell?_of_block hb).trans h3,(World.cell?_of_block hb).trans h4,(World.cell?_of_block hb).trans h5,(World.cell?_of_block hb).trans h6,(World.cell?_of_block hb).trans h7,(World.cell?_of_block hb).trans h8,(World.cell?_of_block hb).trans h9,(World.cell?_of_block hb).trans h10⟩
set_option maxHeartbeats 4000000 in
theorem Mh (F:Fence) (n:Nat) (h1:F.fn 212) (hro:F.round=none) (hn:1≤n) (l Bs n₀ b off cap:Nat) (v0 v1 v2 v3 v4 v5 v6 v7 v8 v9 v10:Value) (J Jx:List Unit→World→Prop)
 (hY:∀ pre x W,J pre W→pre.length<1→YieldAt F (n-1) Tryz.prog l (jF (.agg #[v0,v1,v2,v3,v4,v5,v6,v7,v8,v9,v10]) x) W fun e W'=>
  (e = .returned (.bool true)∧J (pre ++ [x]) W'∧KpB n₀ Bs W W')∨(e = .returned (.bool false)∧Jx (pre ++ [x]) W'))
 (W:World) (hBs:W.cell? ⟨Bs,0,none⟩=some (.slice (some ⟨b,off,none⟩) 1 cap)) (had:b<n₀) (hr:gR b off v0 v1 v2 v3 v4 v5 v6 v7 v8 v9 v10 W) (h0:J [] W):
 CallsIn F n Tryz.prog 212 #[.func (.yield l) #[] #[],.pointer (some ⟨Bs,0,none⟩)] W fun e W'=>(∃ v,e = .returned v) ∧
  ((∃ ys,ys = [()]∧J ys W')∨(∃ pre,pre = [()]∧Jx pre W')):=by
 refine callsIn_of_wp Tryz.func212 rfl h1 ?_ hro
 simp only[Tryz.ntmps212,List.size_toArray,List.length_cons,List.length_nil,Nat.reduceAdd,Nat.reduceSub,Array.replicate_succ,Array.replicate_zero,List.push_toArray,List.append_toArray,List.nil_append,List.cons_append]
 gi_wp2
 gi_loopw [3] (fun i wr=>(i = .int .i64 0∧Hid (J [] wr)∧KpB n₀ Bs W wr)∨(i = .int .i64 (-1)∧Hid (J [()] wr)))
  (fun i _=>(intOf i+1).toNat)
 case atStart=>exact .inl ⟨by simp,h0,Below.refl _ _,rfl⟩
 case round=>
  rcases hrel with⟨rfl,hJs,hnx⟩ | ⟨rfl,hJs⟩
  ·have hbox:=hnx.2.trans hBs
   obtain⟨d0,d1,d2,d3,d4,d5,d6,d7,d8,d9,d10⟩:=hr.keep (hnx.1.block b had)
   clear hnx hr hBs
   obtain⟨fn,tmps,assign,body,hy,hR⟩:=hY _ () wr hJs.out (by simp)
   unfold jF at hy
   gi_wp2
   refine hR.mono ?_
   rintro e W3 (⟨rfl,hJ3,hk3⟩ | ⟨rfl,hJx3⟩)
   ·gi_wp2
    go_roundw
    case rel=>exact .inr ⟨rfl,hJ3⟩
    case measure=>simp[intOf]
   ·gi_wp2
    refine bodyPost_ret (results_none rfl _ _ _) rfl ?_
    exact⟨⟨_,rfl⟩,.inr ⟨_,rfl,hJx3⟩⟩
  ·gi_wp2
   go_end0
   exact⟨⟨_,rfl⟩,.inl ⟨_,rfl,hJs.out⟩⟩
theorem wB (F:Fence) (n:Nat) (h1:F.fn 212) (hro:F.round=none) (hn:1≤n) (Bs n₀ b off cap:Nat) (v0 v1 v2 v3 v4 v5 v6 v7 v8 v9 v10:Value) (w:World) (hBs:Bs<w.heap.size) (hn₀:n₀≤w.heap.size)
 (hc:w.cell? ⟨Bs,0,none⟩=some (.slice (some ⟨b,off,none⟩) 1 cap)) (had:b<n₀) (hr:gR b off v0 v1 v2 v3 v4 v5 v6 v7 v8 v9 v10 w):
 SeqStopsK F n Tryz.prog 212 #[.pointer (some ⟨Bs,0,none⟩)] (jF (.agg #[v0,v1,v2,v3,v4,v5,v6,v7,v8,v9,v10])) (KpB n₀ Bs) (fun ys=>ys = [()]) (fun pre=>pre = [()]) 1 w:=fun l J Jx W hW _ _ hY h0=>
 Mh F n h1 hro hn l Bs n₀ b off cap v0 v1 v2 v3 v4 v5 v6 v7 v8 v9 v10 J Jx hY W ((hW.cell (p:=⟨Bs,0,none⟩) hBs).trans hc) had (hr.keep (hW.block b (Nat.lt_of_lt_of_le had hn₀))) h0
theorem xF (nm:ByteArray) (w:World):Calls Tryz.prog 140 #[.string nm] w fun e w'=>e = .returned (.func (.func 211) #[] #[.pointer (some ⟨w.heap.size,0,none⟩)])∧w'=w.alloc (.cells #[.string nm] 9):=by
 go_enter Tryz.func140,Tryz.ntmps140
 go_wp2
 go_ret
 exact⟨rfl,rfl⟩
end
section
open Go.RowKit Go.Shelf
attribute [local go_sem] Oper.semAt_some
theorem jw {W W':World} {row:Option Nat} {b:Nat} {C:Array Value} {t:TypeId} (h:Blk W b t C) (hg:W.grownBy W' row) (hrow:∀ r,row=some r → ∃ o:Obj,W.heap[r]?=some o∧o.isCells=false):Blk W' b t C:=
 (grownBy_keeps_cells hg hrow h rfl).trans h
def lK (b1:Nat):Value := .func (.func 211) #[] #[.pointer (some ⟨b1,0,none⟩)]
structure eB (N:Nat) (nm:ByteArray) (v:Value) (W:World):Prop where
 ex:∃ b1 b2 c2 cur,v = .slice (some ⟨b2,0,none⟩) 1 c2∧Blk W b2 251 cur∧cur[0]?=some (lK b1)∧cur.size=c2∧1≤c2∧c2≤maxLen∧Blk W b1 9 #[.string nm]∧N≤b1∧N≤b2∧b1≠b2
theorem eB.kept {N:Nat} {nm:ByteArray} {v:Value} {W W':World} {row:Option Nat} (h:eB N nm v W) (hg:W.grownBy W' row) (hrow:∀ r,row=some r → ∃ o:Obj,W.heap[r]?=some o∧o.isCells=false):eB N nm v W':=by
 obtain⟨b1,b2,c2,cur,h1,h2,h3,h4,h5,h6,h7,h8⟩:=h.ex
 exact⟨b1,b2,c2,cur,h1,jw h2 hg hrow,h3,h4,h5,h6,jw h7 hg hrow,h8⟩
theorem eB.below {N B:Nat} {nm:ByteArray} {v:Value} {W W':World} (h:eB N nm v W) (hb:Below B W W') (hB:W.heap.size≤B):eB N nm v W':=by
 obtain⟨b1,b2,c2,cur,h1,h2,h3,h4,h5,h6,h7,h8⟩:=h.ex
 exact⟨b1,b2,c2,cur,h1,h2.below hb (Nat.lt_of_lt_of_le h2.lt hB),h3,h4,h5,h6,h7.below hb (Nat.lt_of_lt_of_le h7.lt hB),h8⟩
structure nA (g0:Nat) (f:Array Value) (z:Value) (W:World):Prop where
 c0:Blk W g0 171 f
 c2:Blk W (g0+1) 175 #[z]
theorem nA.kept {g0:Nat} {f:Array Value} {z:Value} {W W':World} {row:Option Nat} (h:nA g0 f z W) (hg:W.grownBy W' row) (hrow:∀ r,row=some r → ∃ o:Obj,W.heap[r]?=some o∧o.isCells=false):nA g0 f z W':=
 ⟨jw h.c0 hg hrow,jw h.c2 hg hrow⟩
theorem nA.alloc {g0:Nat} {f:Array Value} {z:Value} {W:World} (h:nA g0 f z W) (o:Obj):nA g0 f z (W.alloc o):=⟨h.c0.alloc o,h.c2.alloc o⟩
theorem Df {G:Prop} (A0:Nat→Act) (k:∀ A,A=A0→G):G:=k A0 rfl
theorem Fb:(Tryz.prog.info? 251).map (fun i=>(i.zero,i.size,i.bytes))=some (some .nilFunc,1,8):=by kernel_rfl
theorem Ej {N:Nat} {nm:ByteArray} {f:Array Value} {W w5:World} {v:Value} (hN:N+3≤W.heap.size) (hM:nA N f (.slice none 0 0) w5) (hb:Below W.heap.size W w5) (h7:Blk w5 W.heap.size 9 #[.string nm]) (hown:w5.ownsRow W.heap.size 251 1 v 1 [lK W.heap.size]) (hne:v.ownBlock=some (W.heap.size+2)):
 KeepsOthers W (w5.setCell ⟨N+1,0,none⟩ v)∧KpB N (N+2) W (w5.setCell ⟨N+1,0,none⟩ v)∧nA N f v (w5.setCell ⟨N+1,0,none⟩ v)∧eB N nm v (w5.setCell ⟨N+1,0,none⟩ v)∧Below N W (w5.setCell ⟨N+1,0,none⟩ v):=by
 have hb2:Below N W (w5.setCell ⟨N+1,0,none⟩ v):=(hb.mono (by omega)).setCell (by simp) v
 refine⟨(oR hb).trans (KeepsOthers.setCell _ _ _),⟨hb2,?_⟩,⟨hM.c0.far (by simp) v,?_⟩,?_,hb2⟩
 ·rw[World.cell?_setCell_far _ _ _ _ (by simp)]
  exact hb.cell (p:=⟨N+2,0,none⟩) (by simp;omega)
 ·exact(hM.c2.set_ 0 v)
 ·rcases hown with⟨-,⟨-,h⟩ | ⟨g,cap,cur,rfl,k1,k2,k3,k4,k5,k6⟩⟩
  ·omega
  ·simp only[Value.ownBlock,Option.some.injEq]at hne
   subst hne
   refine⟨W.heap.size,W.heap.size+2,cap,cur,rfl,Blk.far k2 (by simp;omega) _,?_,by omega,k3,k4,h7.far (by simp;omega) _,by omega,by omega,by omega⟩
   have:(cur.toList.take 1)[0]?=some (lK W.heap.size):=by rw[show(1:Nat)=1*1 from rfl,k6];rfl
   rw[List.getElem?_take,if_pos (by omega)]at this
   simpa using this
set_option maxHeartbeats 8000000 in
theorem EN (b off cr co:Nat) (ao:Addr) (n0 n1 n2 n5 n6:Int) (A3 A4 A7:Option Addr) (l3 c3 l4 c4 l7 c7:Nat) (sz al:Int) (nm:ByteArray) (rest:List Value) (w:World) (hb:b<w.heap.size) (hE:gR b off (.int .i64 n0) (.int .i64 n1) (.int .i64 n2) (.slice A3 l3 c3) (.slice A4 l4 c4) (.int .i64 n5) (.int .i64 n6) (.slice A7 l7 c7) (.int .i64 4) (.int .i64 sz) (.int .i64 al) w) (hao:ao.block<w.heap.size) (ho:w.cell? ao=some (.string nm)) (hle:al≤sz):
 Calls Tryz.prog 78 #[.agg ⟨.slice (some ⟨b,off,none⟩) 1 cr :: .slice (some ao) 1 co::rest⟩] w fun e w' => ∃ v,e = .returned v∧eB w.heap.size nm v w'∧Below w.heap.size w w':=by
 have HE:=Lib.hid hE
 have HO:=Lib.hid ho
 clear hE ho
 refine(callsIn_wide (n:=5)).1 ?_
 refine callsIn_of_wp_marks Tryz.func78 rfl trivial ?_ rfl
 simp only[Tryz.ntmps78,List.size_toArray,List.length_cons,List.length_nil,Nat.reduceAdd,Nat.reduceSub,Array.replicate_succ,Array.replicate_zero,List.push_toArray,List.append_toArray,List.nil_append,List.cons_append]
 gi_wp2_with fail
 refine⟨trivial,?_⟩
 refine(callsIn_wide.2 (qQ (some ao) 1 co _)).mono ?_
 rintro e w3 ⟨rfl,rfl⟩
 have HM:=Lib.hid (show nA w.heap.size ⟨.slice (some ⟨b,off,none⟩) 1 cr :: .slice (some ao) 1 co::rest⟩ (.slice none 0 0) ((w.alloc (.cells ⟨.slice (some ⟨b,off,none⟩) 1 cr :: .slice (some ao) 1 co::rest⟩ 171)).alloc (.cells #[.slice none 0 0] 175)) from by
  refine⟨(Blk.new w 171 _).alloc _,?_⟩
  have h:=Blk.new (w.alloc (.cells ⟨.slice (some ⟨b,off,none⟩) 1 cr :: .slice (some ao) 1 co::rest⟩ 171)) 175 #[.slice none 0 0]
  rw[World.size_alloc]at h
  exact h)
 have hb2:Below w.heap.size w ((w.alloc (.cells ⟨.slice (some ⟨b,off,none⟩) 1 cr :: .slice (some ao) 1 co::rest⟩ 171)).alloc (.cells #[.slice none 0 0] 175)):=((Below.refl _ w).alloc (Nat.le_refl _) _).alloc (by simp) _
 have hs2:((w.alloc (.cells ⟨.slice (some ⟨b,off,none⟩) 1 cr :: .slice (some ao) 1 co::rest⟩ 171)).alloc (.cells #[.slice none 0 0] 175)).heap.size=w.heap.size+2:=by simp
 generalize (w.alloc (.cells ⟨.slice (some ⟨b,off,none⟩) 1 cr :: .slice (some ao) 1 co::rest⟩ 171)).alloc (.cells #[.slice none 0 0] 175)=w2 at *
 have HB2:=Lib.hid hb2
 gi_wp2_with fail
 refine wpIn_rangeFunc_ownF rfl (by omega) (gf:=210) (lb:=#[.pointer (some ⟨w.heap.size+2,0,none⟩)]) rfl trivial (enters_of Tryz.func210 (by kernel_rfl) rfl)
  (xL Fence.wide 4 trivial rfl (by omega) (w.heap.size+2) w.heap.size ao co nm (w2.alloc (.cells #[.slice (some ao) 1 co] 42)) (by simp[hs2]) (by rw[World.size_alloc];omega) (by have h:=cell_of_heap (World.alloc_heap_new w2 (.cells #[.slice (some ao) 1 co] 42)) 0;rw[hs2]at h;exact h.trans rfl) hao ((((HB2.out.alloc (by omega) _).cell hao)).trans HO.out)) xy (vV (by rw[World.size_alloc];omega) (by simp[hs2])) (Below.refl _ _) (fun _=>rfl)
  (fun pre W=>(∃ z,nA w.heap.size ⟨.slice (some ⟨b,off,none⟩) 1 cr :: .slice (some ao) 1 co::rest⟩ z W∧(pre = []→z = .slice none 0 0)∧(pre = [()]→eB w.heap.size nm z W))∧Below w.heap.size (w2.alloc (.cells #[.slice (some ao) 1 co] 42)) W)
  (fun _ _ _=>False)
  (OwnFrom.and (Own.from (fun s A B row hs hg hr=>by obtain⟨z,z1,z2,z3⟩:=hs;exact⟨z,z1.kept hg hr,z2,fun e=>(z3 e).kept hg hr⟩) _) (ownFrom_below (by rw[World.size_alloc];omega) (by rw[World.size_alloc];omega)))
  (fun _ _ _ _ _ hs _ _=>hs)
  ⟨⟨_,HM.out.alloc _,fun _=>rfl,fun e=>by cases e⟩,Below.refl _ _⟩
  ?a1 ?assign ?body ?done ?stop
 case assign=>
  intro l x W K hK
  unfold jF
  gi_wp2
  exact hK
 case stop=>rintro D c pre W _ _ h _;exact h.elim
 case body=>
  rintro l pre x W ⟨⟨z,hM,hz0,hz1⟩,hB'⟩ hlt
  obtain rfl:pre = []:=by cases pre with | nil=>rfl | cons y p=>simp at hlt
  obtain rfl:=hz0 rfl
  clear hz0 hz1 hlt
  gi_wp2_with fail
  have hsW:w.heap.size+3≤W.heap.size:=by have:=hB'.size;rw[World.size_alloc]at this;omega
  have HMd:Hid (nA w.heap.size ⟨.slice (some ⟨b,off,none⟩) 1 cr :: .slice (some ao) 1 co::rest⟩ (.slice none 0 0) W.drew):=⟨hM.c0,hM.c2⟩
  have HBd:Hid (Below W.heap.size W W.drew):=(Below.refl _ W).drew
  have HB3:=Lib.hid hB'
  clear hB' hM
  refine eP (S:=fun _=>True) (by kernel_rfl) (by kernel_rfl) trivial (fun hHeld=>?_)
  have hsd:Hid (W.drew.heap.size=W.heap.size):=rfl
  generalize W.drew=Wd at HMd HBd hsd hHeld ⊢
  have m0:Wd.cell? ⟨w.heap.size+1,0,none⟩=some (.slice none 0 0):=HMd.out.c2.cell 0
  have m1:(Wd.alloc (.cells #[.string nm] 9)).cell? ⟨w.heap.size+1,0,none⟩=some (.slice none 0 0):=(HMd.out.alloc _).c2.cell 0
  have m2:((Wd.alloc (.cells #[.string nm] 9)).alloc (.cells #[lK Wd.heap.size] 251)).cell? ⟨w.heap.size+1,0,none⟩=some (.slice none 0 0):=((HMd.out.alloc _).alloc _).c2.cell 0
  unfold lK at m2
  refine tS 1 hHeld ?_
  refine mL (G:=?G) ?main ?key
  case main=>
   intro hkey
   refine wpAnyH_ready (rs:=[0,2]) (by kernel_rfl) (by simp) ?_
   refine AllReadyH.cons rfl (fun K hK=>?_) (AllReadyH.cons rfl (fun K hK=>?_) AllReadyH.nil)
   ·go_simp
    refine hK.out _ _ trivial (fun hHeld=>?_)
    clear hK K
    try simp only[Act.put,sI,sZ,sS]
    refine wpAnyH_ready (rs:=[2]) (by kernel_rfl) (by simp) ?_
    refine AllReadyH.cons rfl (fun K hK=>?_) AllReadyH.nil
    go_simp
    refine(xF nm _).mono ?_
    rintro e w' ⟨rfl,rfl⟩
    refine hK.out _ _ trivial (fun hHeld=>?_)
    clear hK K
    try simp only[Act.put,sI,sZ,sS]
    refine wpAnyH_ready (rs:=[3]) (by kernel_rfl) (by simp) ?_
    refine AllReadyH.cons rfl (fun K hK=>?_) AllReadyH.nil
    go_simp
    refine hK.out _ _ trivial (fun hHeld=>?_)
    clear hK K
    try simp only[Act.put,sI,sZ,sS]
    clear hHeld
    exact hkey.out
   ·go_simp
    refine(xF nm _).mono ?_
    rintro e w' ⟨rfl,rfl⟩
    refine hK.out _ _ trivial (fun hHeld=>?_)
    clear hK K
    try simp only[Act.put,sI,sZ,sS]
    refine wpAnyH_ready (rs:=[0,3]) (by kernel_rfl) (by simp) ?_
    refine AllReadyH.cons rfl (fun K hK=>?_) (AllReadyH.cons rfl (fun K hK=>?_) AllReadyH.nil)
    ·go_simp
     refine hK.out _ _ trivial (fun hHeld=>?_)
     clear hK K
     try simp only[Act.put,sI,sZ,sS]
     refine wpAnyH_ready (rs:=[3]) (by kernel_rfl) (by simp) ?_
     refine AllReadyH.cons rfl (fun K hK=>?_) AllReadyH.nil
     go_simp
     refine hK.out _ _ trivial (fun hHeld=>?_)
     clear hK K
     try simp only[Act.put,sI,sZ,sS]
     clear hHeld
     exact hkey.out
    ·go_simp
     refine hK.out _ _ trivial (fun hHeld=>?_)
     clear hK K
     try simp only[Act.put,sI,sZ,sS]
     refine wpAnyH_ready (rs:=[0]) (by kernel_rfl) (by simp) ?_
     refine AllReadyH.cons rfl (fun K hK=>?_) AllReadyH.nil
     go_simp
     refine hK.out _ _ trivial (fun hHeld=>?_)
     clear hK K
     try simp only[Act.put,sI,sZ,sS]
     clear hHeld
     exact hkey.out
  case key=>
   clear m0 m1 m2
   obtain⟨i0,hi0,hie⟩:=Option.map_eq_some_iff.1 Fb
   injection hie with hz0 hie
   injection hie with hz1 hz2
   have hR:Reads ((Wd.alloc (.cells #[.string nm] 9)).alloc (.cells #[lK Wd.heap.size] 251)) (Wd.heap.size+2) 1 (some ⟨Wd.heap.size+1,0,none⟩) 1 [lK Wd.heap.size]:=by
    have h:=Reads.of_blk (Blk.new (Wd.alloc (.cells #[.string nm] 9)) 251 #[lK Wd.heap.size]) 1 _ rfl rfl
    rw[World.size_alloc]at h
    exact h
   have hM2:=(HMd.out.alloc (.cells #[.string nm] 9)).alloc (.cells #[lK Wd.heap.size] 251)
   have h72:Blk ((Wd.alloc (.cells #[.string nm] 9)).alloc (.cells #[lK Wd.heap.size] 251)) Wd.heap.size 9 #[.string nm]:=(Blk.new Wd 9 #[.string nm]).alloc _
   have hB2:Below W.heap.size W ((Wd.alloc (.cells #[.string nm] 9)).alloc (.cells #[lK Wd.heap.size] 251)):=(HBd.out.alloc (by rw[hsd.out];omega) _).alloc (by rw[World.size_alloc,hsd.out];omega) _
   have hsz:((Wd.alloc (.cells #[.string nm] 9)).alloc (.cells #[lK Wd.heap.size] 251)).heap.size=Wd.heap.size+2:=by simp
   unfold lK at hR hM2 h72 hB2 hsz
   generalize hA2:(Wd.alloc (.cells #[.string nm] 9)).alloc (.cells #[.func (.func 211) #[] #[.pointer (some ⟨Wd.heap.size,0,none⟩)]] 251)=A2 at hR hM2 h72 hB2 hsz ⊢
   have hsz:=Lib.hid hsz
   clear hA2
   refine wpAnyH_ready (rs:=[4]) (by kernel_rfl) (by simp) ?_
   refine AllReadyH.cons rfl (fun K hK=>?_) AllReadyH.nil
   refine je _ rfl (.tmp 14) (.tmp 17) 175 rfl Wd.heap.size 251 i0 _ 1 8 Tryz.underlying175 hi0 hz0 hz1 hz2 rfl (by omega) (.slice none 0 0) 0 [] rfl ⟨by simp,.inl ⟨rfl,rfl⟩⟩ (Wd.heap.size+2) (some ⟨Wd.heap.size+1,0,none⟩) 1 1 _ rfl hR (by intro u hu;rw[List.mem_singleton]at hu;subst hu;rfl) (by unfold maxLen;omega) (by omega) (by rw[hsz.out];omega) ?_
   intro v' w5 hown hgr hat
   have hgr:A2.grownBy w5 none:=hgr
   obtain⟨g,cg,rfl⟩:∃ g cg,v' = .slice (some ⟨g,0,none⟩) 1 cg:=by
    rcases hown with⟨-,⟨-,h⟩ | ⟨g,cap,cur,e,-⟩⟩
    ·omega
    ·exact⟨g,cap,e⟩
   have hM5:=hM2.kept hgr (fun r e=>by cases e)
   have h75:=h72.grown hgr (by simp)
   have hB5:=hB2.grown hgr hB2.size (fun k e=>by cases e)
   have hat2:(Value.slice (some ⟨g,0,none⟩) 1 cg).ownBlock=some (W.heap.size+2):=by
    rcases hat with hat | hat
    ·cases hat
    ·rw[hat,hsz.out,hsd.out]
   rw[hsd.out]at hown h75
   have HF:=Lib.hid (Ej hsW hM5 hB5 h75 hown hat2)
   have n2:w5.cell? ⟨w.heap.size+1,0,none⟩=some (.slice none 0 0):=hM5.c2.cell 0
   have n3:w5.frozen? ⟨w.heap.size+1,0,none⟩=false:=hM5.c2.frozen 0
   clear hM2 h72 hB2 hR hM5 h75 hB5 hown hat hat2 hgr
   refine hK.out _ _ trivial (fun hHeld=>?_)
   clear hK K
   try simp only[Act.put,sI,sZ,sS]
   refine wpAnyH_ready (rs:=[5]) (by kernel_rfl) (by simp) ?_
   refine AllReadyH.cons rfl (fun K hK=>?_) AllReadyH.nil
   go_simp
   refine hK.out _ _ trivial (fun hHeld=>?_)
   clear hK K
   try simp only[Act.put,sI,sZ,sS]
   refine wpAnyH_done (by kernel_rfl) ?_ _
   refine iF.normal ?_
   clear n2 n3
   obtain⟨q1,q2,q3,q4,q5⟩:=HF.out
   exact⟨q1,q2,⟨_,q3,fun e=>(by cases e),fun _=>q4⟩,HB3.out.trans q5⟩
 case done=>
  rintro D ys W hD rfl ⟨⟨z,hM,-,hz⟩,hB'⟩ hK
  have HM1:=Lib.hid hM
  have HZ:=Lib.hid (hz rfl)
  have HB3:=Lib.hid hB'
  have hD':w.heap.size+3≤D:=by rw[World.size_alloc]at hD;omega
  have f0:W.cell? ⟨w.heap.size,0,none⟩=some (.slice (some ⟨b,off,none⟩) 1 cr):=hM.c0.cell 0
  clear hM hz hB'
  gi_wp2_with fail
  clear f0
  have hDW:D<W.heap.size:=(Array.getElem?_eq_some_iff.1 hK).1
  refine⟨trivial,?_⟩
  refine(callsIn_wide.2 (pQ (some ⟨b,off,none⟩) 1 cr _)).mono ?_
  rintro e w4 ⟨rfl,rfl⟩
  gi_wp2_with fail
  have hE4:gR b off (.int .i64 n0) (.int .i64 n1) (.int .i64 n2) (.slice A3 l3 c3) (.slice A4 l4 c4) (.int .i64 n5) (.int .i64 n6) (.slice A7 l7 c7) (.int .i64 4) (.int .i64 sz) (.int .i64 al) (W.alloc (.cells #[.slice (some ⟨b,off,none⟩) 1 cr] 169)):=by
   refine HE.out.keep ?_
   refine(Below.heap_alloc _ _ _ (by omega)).trans ((HB3.out.block b hb).trans ((Below.heap_alloc _ _ _ (by omega)).trans (HB2.out.block b hb)))
  have hcB:(W.alloc (.cells #[.slice (some ⟨b,off,none⟩) 1 cr] 169)).cell? ⟨W.heap.size,0,none⟩=some (.slice (some ⟨b,off,none⟩) 1 cr):=(Blk.new W _ _).cell 0
  have HK:=Lib.hid hK
  clear hK
  refine Df ?A0 ?main0
  case main0=>
  intro A hA
  refine wpIn_rangeFunc_ownH rfl (by omega) (gf:=212) (lb:=#[.pointer (some ⟨W.heap.size,0,none⟩)]) rfl trivial (enters_of Tryz.func212 (by kernel_rfl) rfl)
   (wB Fence.wide 4 trivial rfl (by omega) W.heap.size w.heap.size b off cr (.int .i64 n0) (.int .i64 n1) (.int .i64 n2) (.slice A3 l3 c3) (.slice A4 l4 c4) (.int .i64 n5) (.int .i64 n6) (.slice A7 l7 c7) (.int .i64 4) (.int .i64 sz) (.int .i64 al) (W.alloc (.cells #[.slice (some ⟨b,off,none⟩) 1 cr] 169)) (by simp) (by rw[World.size_alloc];omega) hcB hb hE4) xy (vV (by rw[World.size_alloc];omega) (by simp)) (Below.refl _ _) (fun _=>rfl)
   (fun _ W'=>(nA w.heap.size ⟨.slice (some ⟨b,off,none⟩) 1 cr :: .slice (some ao) 1 co::rest⟩ z W'∧eB w.heap.size nm z W')∧Below (W.heap.size+1) (W.alloc (.cells #[.slice (some ⟨b,off,none⟩) 1 cr] 169)) W')
   (fun _ _ _=>False)
   (OwnFrom.and (Own.from (fun s A B row hs hg hr=>⟨hs.1.kept hg hr,hs.2.kept hg hr⟩) _) (ownFrom_below (by rw[World.size_alloc];omega) (by rw[World.size_alloc];omega)))
   (fun _ _ _ _ _ hs _ _=>hs)
   ⟨⟨HM1.out.alloc _,HZ.out.below ((Below.refl _ W).alloc (Nat.le_refl _) _) (Nat.le_refl _)⟩,Below.refl _ _⟩
   (fun _ a' W' => ∃ gp:Nat,a'=A gp∧Blk W' gp 194 #[.int .i64 n0,.int .i64 n1,.int .i64 n2,.slice A3 l3 c3,.slice A4 l4 c4,.int .i64 n5,.int .i64 n6,.slice A7 l7 c7,.int .i64 4,.int .i64 sz,.int .i64 al])
   (fun x a' s A B row hs hg hr=>by obtain⟨gp,e,h⟩:=hs;exact⟨gp,e,jw h hg (fun r e=>(hr r e).2)⟩)
   ?assign ?body ?done ?stop
  case assign=>
   intro l pre x W' K hI hK'
   have hsz:=hI.2.size
   rw[World.size_alloc]at hsz
   unfold jF
   gi_wp2
   have HI:=Lib.hid hI
   have hbk:=Blk.new W' 194 #[.int .i64 n0,.int .i64 n1,.int .i64 n2,.slice A3 l3 c3,.slice A4 l4 c4,.int .i64 n5,.int .i64 n6,.slice A7 l7 c7,.int .i64 4,.int .i64 sz,.int .i64 al]
   have hk1:KeepsFrom (W.alloc (.cells #[.slice (some ⟨b,off,none⟩) 1 cr] 169)).heap.size W' (W'.alloc (.cells #[.int .i64 n0,.int .i64 n1,.int .i64 n2,.slice A3 l3 c3,.slice A4 l4 c4,.int .i64 n5,.int .i64 n6,.slice A7 l7 c7,.int .i64 4,.int .i64 sz,.int .i64 al] 194)):=(KeepsOthers.alloc _ _).from _
   have hk2:KpB w.heap.size W.heap.size W' (W'.alloc (.cells #[.int .i64 n0,.int .i64 n1,.int .i64 n2,.slice A3 l3 c3,.slice A4 l4 c4,.int .i64 n5,.int .i64 n6,.slice A7 l7 c7,.int .i64 4,.int .i64 sz,.int .i64 al] 194)):=⟨(Below.refl _ _).alloc (by omega) _,World.cell?_alloc_lt _ _ _ (by simp;omega)⟩
   have hk3:(nA w.heap.size ⟨.slice (some ⟨b,off,none⟩) 1 cr :: .slice (some ao) 1 co::rest⟩ z (W'.alloc (.cells #[.int .i64 n0,.int .i64 n1,.int .i64 n2,.slice A3 l3 c3,.slice A4 l4 c4,.int .i64 n5,.int .i64 n6,.slice A7 l7 c7,.int .i64 4,.int .i64 sz,.int .i64 al] 194))∧eB w.heap.size nm z (W'.alloc (.cells #[.int .i64 n0,.int .i64 n1,.int .i64 n2,.slice A3 l3 c3,.slice A4 l4 c4,.int .i64 n5,.int .i64 n6,.slice A7 l7 c7,.int .i64 4,.int .i64 sz,.int .i64 al] 194)))∧Below (W.heap.size+1) (W.alloc (.cells #[.slice (some ⟨b,off,none⟩) 1 cr] 169)) (W'.alloc (.cells #[.int .i64 n0,.int .i64 n1,.int .i64 n2,.slice A3 l3 c3,.slice A4 l4 c4,.int .i64 n5,.int .i64 n6,.slice A7 l7 c7,.int .i64 4,.int .i64 sz,.int .i64 al] 194)):=
    ⟨⟨hI.1.1.alloc _,hI.1.2.below ((Below.refl _ W').alloc (Nat.le_refl _) _) (Nat.le_refl _)⟩,hI.2.alloc (by omega) _⟩
   generalize W'.alloc (.cells #[.int .i64 n0,.int .i64 n1,.int .i64 n2,.slice A3 l3 c3,.slice A4 l4 c4,.int .i64 n5,.int .i64 n6,.slice A7 l7 c7,.int .i64 4,.int .i64 sz,.int .i64 al] 194)=W4 at hbk hk1 hk2 hk3 ⊢
   generalize W'.heap.size=gp at hbk ⊢
   refine hK' _ _ hk1 hk2 hk3 ⟨gp,?_,hbk⟩
   rw[hA]
  case body=>
   rintro l pre x a' W' hl hlr hI ⟨gp,rfl,hg⟩ hlt
   rw[hA]
   dsimp only
   have d9:W'.cell? ⟨gp,9,none⟩=some (.int .i64 sz):=hg.cell 9
   have d10:W'.cell? ⟨gp,10,none⟩=some (.int .i64 al):=hg.cell 10
   have hd:decide (sz<al)=false:=by simp;omega
   gi_wp2
   exact⟨KeepsFrom.refl _ _,⟨Below.refl _ _,rfl⟩,hI⟩
  case stop=>rintro D c pre W _ _ h _;exact h.elim
  case done=>
   rintro D2 ys W2 hD2 rfl ⟨⟨hM2,hZ2⟩,hB2⟩ hK2
   rw[World.size_alloc]at hD2
   have hs3:=hB2.size
   rw[World.size_alloc]at hs3
   have hb4:Below w.heap.size w W2:=((HB2.out.alloc (by omega) _).trans HB3.out).trans (((Below.refl _ W).alloc (by omega) _).trans (hB2.mono (by omega)))
   have d8:W2.cell? ⟨b,off+8,none⟩=some (.int .i64 4):=by
    have h:=HE.out.keep (hb4.block b hb)
    unfold gR at h
    exact h.2.2.2.2.2.2.2.2.1
   have d0:W2.cell? ⟨w.heap.size,0,none⟩=some (.slice (some ⟨b,off,none⟩) 1 cr):=hM2.c0.cell 0
   have d2:W2.cell? ⟨w.heap.size+1,0,none⟩=some z:=hM2.c2.cell 0
   have hDlt:D<W.heap.size:=hDW
   have HZ2:=Lib.hid hZ2
   have HB4:=Lib.hid hb4
   have HK2:=Lib.hid hK2
   have HM2:=Lib.hid hM2
   have HB5:=Lib.hid hB2
   clear hZ2 hb4 hK2 hM2 hB2
   gi_wp2_with fail
   have hWD:W.heap.size≤D2:=by omega
   have hw2D:w2.heap.size≤D:=by omega
   have hK1:W2.heap[D]?=some (.deferred (some [])):=(HB5.out.block D (by omega)).trans ((Below.heap_alloc _ _ _ hDlt).trans HK.out)
   have b1:=belowK_b (n₀:=W.heap.size) (w:=W) (Nat.le_refl _) W2 D2 (.deferred (some [])) (.deferred none) hWD HK2.out rfl rfl
   have b2:=belowK_b (n₀:=w2.heap.size) (w:=w2) (Nat.le_refl _) (W2.putObj D2 (.deferred none)) D (.deferred (some [])) (.deferred none) hw2D ((b1.block D hDlt).trans hK1) rfl rfl
   refine⟨by simp,.inl ⟨_,_,rfl,run_takeDeferred HK2.out,?_⟩⟩
   refine⟨by simp,.inl ⟨_,_,rfl,run_takeDeferred ((b1.block D hDlt).trans hK1),?_⟩⟩
   refine⟨z,?_,z,rfl,?_,HB4.out.trans ((b1.mono (by omega)).trans (b2.mono (by omega)))⟩
   ·simp[results,Tryz.results78,go_sem]
   ·exact(HZ2.out.kept (grownBy_putObj' _ _ _) (fun r e=>by cases e;exact⟨_,HK2.out,rfl⟩)).kept (grownBy_putObj' _ _ _) (fun r e=>by cases e;exact⟨_,(b1.block D hDlt).trans hK1,rfl⟩)
end
section
open RowKit
theorem HR.adopt {ρ0 ρ:Rho} {H0 H:af} {w w':World} (h0:HR ρ0 H0 w) (h:HR ρ H w') (e:Ext ρ0 H0 w ρ H w') (hn:H.next<1099511627776) (hf:bR ρ H.next (H.next+1)) {b:Nat} (hb:w.heap.size≤b) (hne:∀ id ver L,ρ id ver=some L→L.b≠b)
 {ty:TypeId} {xs:List ah} {C:Array Value} (hC:w'.heap[b]?=some (.cells C ty (0,0))) (hx:VRs ρ xs (C.toList.take xs.length)) (hl:xs.length≤C.size) (hbx:ty=wu→C.size=xs.length) (h1:∀ u ∈ C.toList.take xs.length,u.oneCell'=true):
 HR (ρ.add H.next 0 ⟨b,C.size,xs.length⟩) (H.new ⟨ty,xs,0,0⟩) w'∧Ext ρ0 H0 w (ρ.add H.next 0 ⟨b,C.size,xs.length⟩) (H.new ⟨ty,xs,0,0⟩) w':=by
 have hle:ρ.le (ρ.add H.next 0 ⟨b,C.size,xs.length⟩):=Rho.add_le (hf _ _ (Nat.le_refl _) (Nat.lt_succ_self _))
 have hlt:b<w'.heap.size:=(Array.getElem?_eq_some_iff.1 hC).1
 refine⟨⟨h.ok.new hn _,fun id ver L hL=>?_,fun id ver L id' ver' L' hL hL' e'=>?_,fun id ver L r hL hr=>?_,h0.gl.keep e.size (fun c hc hcn=>e.frame c hc (fun id ver L hL _=>hcn id ver L hL)) (fun id ver L hL=>?_),fun id L r k1 k2=>?_⟩,⟨fun id ver L hL=>hle _ _ _ (e.le _ _ _ hL),Nat.le_trans e.next (Nat.le_succ _),fun id hi=>?_,fun id hi=>?_,fun id ver L hL hn'=>?_,fun id ver L hL hn'=>?_,e.frame,e.size,e.os,e.tape,e.output⟩⟩
 ·rcases Rho.add_cases hL with⟨-,-,rfl⟩ | hL
  ·exact⟨hlt,hl⟩
  ·exact h.dom _ _ _ hL
 ·rcases Rho.add_cases hL with⟨rfl,rfl,rfl⟩ | hL
  ·rcases Rho.add_cases hL' with⟨rfl,rfl,rfl⟩ | hL'
   ·rfl
   ·exact absurd e'.symm (hne _ _ _ hL')
  ·rcases Rho.add_cases hL' with⟨rfl,rfl,rfl⟩ | hL'
   ·exact absurd e' (hne _ _ _ hL)
   ·exact h.inj _ _ _ _ _ _ hL hL' e'
 ·rw[af.get_new hn]at hr
  rcases Rho.add_cases hL with⟨rfl,rfl,rfl⟩ | hL
  ·rw[if_pos rfl]at hr
   injection hr with hr
   subst hr
   refine⟨Nat.le_refl _,hl,C,ty,(0,0),hC,rfl,fun hf=>absurd rfl hf,fun _=>rfl,fun _=>⟨Nat.le_refl _,fun j x hj hxj=>?_⟩⟩
   obtain⟨u,k1,k2⟩:=(hx.mono hle).get hxj
   refine⟨u,?_,h1 u (List.mem_of_getElem? k1),k2⟩
   rw[List.getElem?_take,if_pos hj]at k1
   simpa using k1
  ·by_cases e2:id=H.next
   ·subst e2
    have:=hf _ ver (Nat.le_refl _) (Nat.lt_succ_self _)
    rw[hL]at this;cases this
   ·rw[if_neg e2]at hr
    exact(h.row _ _ _ _ hL hr).mono hle rfl
 ·rcases Rho.add_cases hL with⟨-,-,rfl⟩ | hL
  ·exact .inr hb
  ·cases hm:ρ0 id ver with
   | some L0=>
     have e2:L0=L:=by have:=e.le _ _ _ hm;rw[hL]at this;injection this with this;exact this.symm
     subst e2
     exact .inl ⟨_,_,_,hm,rfl⟩
   | none=>
     rcases e.blk id ver L hL hm with k | ⟨v0,L0,k1,k2,-⟩
     ·exact .inr k
     ·exact .inl ⟨_,_,_,k1,k2⟩
 ·rw[af.get_new hn]at k2
  rcases Rho.add_cases k1 with⟨rfl,-,rfl⟩ | k1'
  ·rw[if_pos rfl]at k2
   injection k2 with k2
   subst k2
   exact⟨by unfold gZ;rw[hC],hbx⟩
  ·by_cases e2:id=H.next
   ·subst e2
    have:=hf _ 0 (Nat.le_refl _) (Nat.lt_succ_self _)
    rw[k1']at this;cases this
   ·rw[if_neg e2]at k2
    exact h.ty _ _ _ k1' k2
 ·rw[af.get_new hn]at hi
  by_cases e2:id=H.next
  ·exact .inr ⟨by have:=e.next;omega,by rw[af.next_new];omega⟩
  ·rw[if_neg e2]at hi
   rcases e.rows id hi with k | k
   ·exact .inl k
   ·exact .inr ⟨k.1,by rw[af.next_new];omega⟩
 ·rw[af.get_new hn]
  by_cases e2:id=H.next
  ·rw[if_pos e2];rfl
  ·rw[if_neg e2];exact e.keep id hi
 ·rcases Rho.add_cases hL with⟨rfl,rfl,rfl⟩ | hL
  ·exact .inl ⟨e.next,by rw[af.next_new];omega⟩
  ·rcases e.ids id ver L hL hn' with k | k
   ·exact .inl ⟨k.1,by rw[af.next_new];omega⟩
   ·exact .inr k
 ·rcases Rho.add_cases hL with⟨rfl,rfl,rfl⟩ | hL
  ·exact .inl hb
  ·exact e.blk id ver L hL hn'
def slA:ah→Bool
 | .nils=>true
 | .slc _ _ _ _ _ _ _=>true
 | .emp _ _ _=>true
 | .opq _=>true
 | _=>false
theorem yy {ρ:Rho} {x:ah} {v:Value} (h:VR ρ x v) (hs:slA x=true):∃ A n c,v = .slice A n c:=by
 cases h<;>first | exact⟨_,_,_,rfl⟩ | cases hs
def xX (H:af) (nm:List UInt8):af:=(H.new ⟨9,[.str nm],0,0⟩).new ⟨251,[.func 211 [.ptr H.next 0 0 1]],0,0⟩
def AE (al sz st:Int) (a b c:ah) (H:af) (nm:List UInt8):Option (ah×af):=
 if st=4∧al≤sz∧slA a=true∧slA b=true∧slA c=true∧H.next+2≤1099511627776 then some (.slc (H.next+1) 0 0 1 1 1 false,xX H nm) else none
def mR:aA:=fun g args H=>if g=78 then(match args with
 | [.agg (.slc id ver off len cap z ex :: .slc id2 ver2 off2 len2 cap2 z2 ex2::_)]=>if len=1∧z=11∧len2=1∧z2=1 then(match fH H id ver off 11,fH H id2 ver2 off2 1 with
   | some [.int .i64 _,.int .i64 _,.int .i64 _,s3,s4,.int .i64 _,.int .i64 _,s7,.int .i64 st,.int .i64 sz,.int .i64 al],some [.str nm]=>AE al sz st s3 s4 s7 H nm
   | _,_=>none) else none
 | _=>none) else none
theorem rE {al sz st:Int} {a b c:ah} {H H':af} {nm:List UInt8} {r:ah} (h:AE al sz st a b c H nm=some (r,H')):(st=4∧al≤sz∧slA a=true∧slA b=true∧slA c=true∧H.next+2≤1099511627776)∧r = .slc (H.next+1) 0 0 1 1 1 false∧H'=xX H nm:=by
 unfold AE at h
 split at h
 ·rename_i hc
  injection h with h
  injection h with h1 h2
  exact⟨hc,h1.symm,h2.symm⟩
 ·cases h
theorem gU {g:FuncId} {args:List ah} {H H':af} {r:ah} (h:mR g args H=some (r,H')):
 g = 78 ∧ ∃ id ver off cap ex id2 ver2 off2 cap2 ex2 rest n0 n1 n2 s3 s4 n5 n6 s7 st sz al nm,args = [.agg (.slc id ver off 1 cap 11 ex :: .slc id2 ver2 off2 1 cap2 1 ex2::rest)] ∧
   fH H id ver off 11=some [.int .i64 n0,.int .i64 n1,.int .i64 n2,s3,s4,.int .i64 n5,.int .i64 n6,s7,.int .i64 st,.int .i64 sz,.int .i64 al]∧fH H id2 ver2 off2 1=some [.str nm]∧AE al sz st s3 s4 s7 H nm=some (r,H'):=by
 unfold mR at h
 split at h
 ·rename_i hg
  refine⟨hg,?_⟩
  split at h
  ·split at h
   ·rename_i hc
    obtain⟨rfl,rfl,rfl,rfl⟩:=hc
    split at h
    ·rename_i h1 h2
     exact⟨_,_,_,_,_,_,_,_,_,_,_,_,_,_,_,_,_,_,_,_,_,_,_,rfl,h1,h2,h⟩
    ·cases h
   ·cases h
  ·cases h
 ·cases h
theorem xp:aU Tryz.prog mR:=by
 refine⟨fun g args H r H' hc=>?_,fun g args H r H' hc=>?_,fun g args H r H' hc ρ w vs hr hv hf=>?_⟩
 ·obtain⟨rfl,-⟩:=gU hc
  exact⟨_,Tryz.func78,by kernel_rfl,by kernel_rfl⟩
 ·obtain⟨rfl,_,_,_,_,_,_,_,_,_,_,_,_,_,_,_,_,_,_,_,_,_,_,nm,-,-,-,h⟩:=gU hc
  obtain⟨c,-,rfl⟩:=rE h
  have hn:=c.2.2.2.2.2
  refine(aV.trans (H':=H.new ⟨9,[.str nm],0,0⟩) ⟨Nat.le_succ _,fun o=>af.keep_new o (by omega) _⟩ ⟨Nat.le_succ _,fun o=>af.keep_new o (by rw[af.next_new];omega) _⟩)
 ·obtain⟨rfl,id,ver,off,cap,ex,id2,ver2,off2,cap2,ex2,rest,n0,n1,n2,s3,s4,n5,n6,s7,st,sz,al,nm,rfl,h1,h2,h⟩:=gU hc
  obtain⟨⟨rfl,hle,e3,e4,e7,hn⟩,rfl,rfl⟩:=rE h
  clear h hc
  cases hv with
  | cons _ v1 _ vs1 hv1 hvs1=>
  cases hvs1
  cases hv1 with
  | agg _ us hus=>
  cases hus with
  | cons _ u1 _ us1 hu1 hus1=>
  cases hus1 with
  | cons _ u2 _ us2 hu2 hus2=>
  cases hu1 with
  | slc _ _ _ _ _ _ _ L cr l1 l2 l3 l4 l5 l6=>
  cases hu2 with
  | slc _ _ _ _ _ _ _ L2 co m1 m2 m3 m4 m5 m6=>
  obtain⟨xs,k1,k2,k3,k4,-⟩:=dj (P:=default) hr l1 (by omega) h1
  obtain⟨ys,j1,j2,j3,j4,-⟩:=dj (P:=default) hr m1 (by omega) h2
  cases k1 with
  | cons _ x0 _ xs0 q0 k1=>
  cases k1 with
  | cons _ x1 _ xs1 q1 k1=>
  cases k1 with
  | cons _ x2 _ xs2 q2 k1=>
  cases k1 with
  | cons _ x3 _ xs3 q3 k1=>
  cases k1 with
  | cons _ x4 _ xs4 q4 k1=>
  cases k1 with
  | cons _ x5 _ xs5 q5 k1=>
  cases k1 with
  | cons _ x6 _ xs6 q6 k1=>
  cases k1 with
  | cons _ x7 _ xs7 q7 k1=>
  cases k1 with
  | cons _ x8 _ xs8 q8 k1=>
  cases k1 with
  | cons _ x9 _ xs9 q9 k1=>
  cases k1 with
  | cons _ x10 _ xs10 q10 k1=>
  cases k1
  cases j1 with
  | cons _ y0 _ ys0 p0 j1=>
  cases j1
  cases q0;cases q1;cases q2;cases q5;cases q6;cases q8;cases q9;cases q10;cases p0
  obtain⟨A3,t3,c3,rfl⟩:=yy q3 e3
  obtain⟨A4,t4,c4,rfl⟩:=yy q4 e4
  obtain⟨A7,t7,c7,rfl⟩:=yy q7 e7
  have hE:gR L.b off (.int .i64 n0) (.int .i64 n1) (.int .i64 n2) (.slice A3 t3 c3) (.slice A4 t4 c4) (.int .i64 n5) (.int .i64 n6) (.slice A7 t7 c7) (.int .i64 4) (.int .i64 sz) (.int .i64 al) w:=
   ⟨k4 0 _ rfl,k4 1 _ rfl,k4 2 _ rfl,k4 3 _ rfl,k4 4 _ rfl,k4 5 _ rfl,k4 6 _ rfl,k4 7 _ rfl,k4 8 _ rfl,k4 9 _ rfl,k4 10 _ rfl⟩
  refine(EN L.b off cr co ⟨L2.b,off2,none⟩ n0 n1 n2 n5 n6 A3 A4 A7 t3 c3 t4 c4 t7 c7 sz al ⟨⟨nm⟩⟩ us2 w (hr.dom _ _ _ l1).1 hE (hr.dom _ _ _ m1).1 (j4 0 _ rfl) hle).mono ?_
  rintro e w' ⟨v,rfl,hS,hb⟩
  obtain⟨b1,b2,c2,cur,rfl,g1,g2,g3,g4,g5,g6,g7,g8,g9⟩:=hS.ex
  have hno:∀ id ver L,ρ id ver=some L → ∀ b,w.heap.size≤b→L.b≠b:=fun id ver L hL b hb e=>by have:=(hr.dom _ _ _ hL).1;omega
  obtain⟨r1,x1⟩:=HR.adopt hr (hr.below hb) (Ext.below hb) (by omega) (hf.mono (Nat.le_refl _) (Nat.le_succ _)) g7 (fun id ver L hL=>hno id ver L hL b1 g7) (ty:=9) (xs:=[.str nm]) (C:=#[.string ⟨⟨nm⟩⟩]) g6 (.cons _ _ _ _ (.str _) .nil) (by simp) (fun e=>rfl) (by intro u hu;simp at hu;subst hu;rfl)
  have hfr:bR (ρ.add H.next 0 ⟨b1,(#[.string ⟨⟨nm⟩⟩]:Array Value).size,([.str nm]:List ah).length⟩) (H.new ⟨9,[.str nm],0,0⟩).next ((H.new ⟨9,[.str nm],0,0⟩).next+1):=x1.free hr.ok hf
  have htk:cur.toList.take 1 = [lK b1]:=by
   have:cur.toList[0]?=some (lK b1):=by simpa using g2
   cases hcl:cur.toList with
   | nil=>rw[hcl]at this;cases this
   | cons a l=>rw[hcl]at this;simp at this;subst this;rfl
  obtain⟨r2,x2⟩:=HR.adopt hr r1 x1 (by rw[af.next_new];omega) hfr g8 (fun id ver L hL=>by
   rcases Rho.add_cases hL with⟨-,-,rfl⟩ | hL
   ·exact g9
   ·exact hno id ver L hL b2 g8) (ty:=251) (xs:=[.func 211 [.ptr H.next 0 0 1]]) (C:=cur) g1 (by
   show VRs _ _ (cur.toList.take 1)
   rw[htk]
   exact .cons _ _ _ _ (.func _ _ [_] (.cons _ _ _ _ (.ptr _ _ _ _ _ (Rho.add_self _ _ _ _) (by simp)) .nil)) .nil) (by simp;omega) (fun e=>by simp[wu]at e) (by
   show ∀ u ∈ cur.toList.take 1,_
   rw[htk]
   intro u hu
   simp at hu
   subst hu
   rfl)
  refine⟨_,_,rfl,?_,r2,x2⟩
  exact .slc _ _ _ _ _ _ _ _ c2 (Rho.add_self _ _ _ _) (by omega) (by simp) ⟨g4,by unfold maxLen at g5;omega⟩ (by simp;omega) (fun e=>by cases e)
end
section
def JB:bB:=⟨[],0,[]⟩
def CD:bB:=⟨[(0,.bool false)],
 0,
 []⟩
def Dv:bB:=⟨[(0,.bool false),
 (1,.ptr 26 0 0 16),
 (2,iV 0)],
 27,
 [(26,⟨49,[.nils,iV 900,iV (-1),.bool false,iV 64,iV 2,.nils,iV 0,iV 0,.nils,.nils,iV 0,iV 0,iV 0,iV 0,.bool false],0,0⟩)]⟩
abbrev yr0:bH:=⟨160,[iV 0,iV 0,iV 0,iV 0,iV 0,iV 0,iV 0,iV 0],0,0⟩
abbrev yr1:bH:=⟨186,[iV 1,iV 0,iV 1,iV 0,iV 3,iV 28,.bool false],0,0⟩
abbrev yr2:bH:=⟨5,[uV 0,uV 7,uV 1,uV 102,uV 98,uV 120,uV 49,uV 1,uV 0,uV 0,uV 82,uV 140,uV 236,uV 102,uV 0,uV 7,uV 2,uV 1,uV 1,uV 3,uV 0,uV 1,uV 98,uV 1,uV 135,uV 243,uV 75,uV 206],0,0⟩
abbrev yb3:List UInt8:=bL 12 0x7365672e3030303030303031 []
def Cy:bB:=⟨[(0,.bool false),
 (1,.ptr 26 0 0 16),
 (2,iV 0),
 (3,iV 0)],
 247,
 [(26,⟨49,[.slc 240 0 0 1 1 3 false,iV 900,iV (-1),.bool false,iV 64,iV 2,.slc 113 0 0 1 1 7 false,iV 1,iV 3,.slc 135 0 0 1 1 1 false,.slc 81 0 0 1 1 21 false,iV 1,iV 3,iV 0,iV 0,.bool false],0,0⟩),
  (78,yr0),
  (81,⟨111,[.str [98],iV 1,iV 0,iV 10,iV 0,.slc 78 0 0 4 4 2 true,iV 0,iV 0,iV 0,iV 0,iV 0,iV 0,iV 0,iV 0,iV 0,iV 0,iV 0,iV 0,iV 0,iV 0,iV 0],0,0⟩),
  (113,yr1),
  (135,⟨9,[.str [98]],0,0⟩),
  (240,⟨243,[.str yb3,.slc 243 0 0 0 0 1 true,.slc 243 0 0 28 28 1 true],0,0⟩),
  (243,yr2)]⟩
abbrev yr4:bH:=⟨49,[.slc 913 0 0 2 2 3 false,iV 900,iV (-1),.bool false,iV 64,iV 2,.slc 614 1 0 2 2 7 false,iV 2,iV 9,.slc 734 0 0 1 1 1 false,.slc 585 0 0 1 1 21 false,iV 2,iV 9,iV 1,iV 0,.bool false],0,0⟩
abbrev yr5:bH:=⟨111,[.str [98],iV 1,iV 1,iV 10,iV 0,.slc 78 0 0 4 4 2 true,iV 0,iV 0,iV 0,iV 0,iV 0,iV 0,iV 0,iV 0,iV 0,iV 0,iV 0,iV 0,iV 0,iV 0,iV 0],0,0⟩
abbrev yr6:bH:=⟨186,[iV 1,iV 0,iV 1,iV 0,iV 3,iV 38,.bool true,iV 2,iV 1,iV 2,iV 3,iV 9,iV 28,.bool false],1,1⟩
abbrev yr7:bH:=⟨5,[uV 0,uV 7,uV 1,uV 102,uV 98,uV 120,uV 49,uV 1,uV 0,uV 0,uV 82,uV 140,uV 236,uV 102,uV 0,uV 7,uV 2,uV 1,uV 1,uV 3,uV 0,uV 1,uV 98,uV 1,uV 135,uV 243,uV 75,uV 206,uV 0,uV 3,uV 3,uV 1,uV 1,uV 3,uV 81,uV 126,uV 7,uV 101],0,0⟩
abbrev yb9:List UInt8:=bL 12 0x7365672e3030303030303032 []
abbrev yr8:bH:=⟨243,[.str yb3,.slc 824 0 0 38 38 1 true,.slc 824 0 0 0 0 1 true,.str yb9,.slc 916 0 0 0 0 1 true,.slc 916 0 0 28 28 1 true],0,0⟩
abbrev yr10:bH:=⟨5,[uV 0,uV 7,uV 1,uV 102,uV 98,uV 120,uV 49,uV 2,uV 1,uV 3,uV 240,uV 82,uV 184,uV 228,uV 0,uV 7,uV 2,uV 4,uV 1,uV 6,uV 0,uV 1,uV 98,uV 1,uV 80,uV 83,uV 147,uV 84],0,0⟩
def CO:bB:=⟨[(0,.bool false),
 (1,.ptr 26 0 0 16),
 (2,iV 0),
 (3,iV 0),
 (4,iV 0)],
 920,
 [(26,yr4),
  (78,yr0),
  (585,yr5),
  (614,yr6),
  (734,⟨9,[.str [98]],0,0⟩),
  (824,yr7),
  (913,yr8),
  (916,yr10)]⟩
abbrev yr11:bH:=⟨54,[iV 1,iV 3,iV 1,.str [98],iV 1,iV 0,iV 0,iV 2,iV 9,iV 4,.str [98],iV 1,iV 0,iV 0],1,0⟩
def EF:bB:=⟨[(0,.bool false),
 (1,.ptr 26 0 0 16),
 (2,iV 0),
 (3,iV 0),
 (4,iV 0),
 (5,.slc 2149 1 0 2 2 7 false)],
 2151,
 [(26,yr4),
  (78,yr0),
  (585,yr5),
  (614,yr6),
  (734,⟨9,[.str [98]],0,0⟩),
  (824,yr7),
  (913,yr8),
  (916,yr10),
  (2149,yr11)]⟩
abbrev yr12:bH:=⟨5,[uV 102,uV 98,uV 115,uV 49,uV 1,uV 1,uV 98,uV 1,uV 1,uV 10,uV 0,uV 4,uV 0,uV 0,uV 0,uV 0,uV 0,uV 0,uV 0,uV 0,uV 0,uV 0,uV 0,uV 0,uV 0,uV 0,uV 0,uV 0,uV 0,uV 0,uV 0,uV 0,uV 0,uV 2,uV 9,uV 187,uV 29,uV 88,uV 158],0,0⟩
abbrev yb14:List UInt8:=bL 15 0x736e61702e30303030303030303032 []
abbrev yr13:bH:=⟨243,[.str yb3,.slc 824 0 0 38 38 1 true,.slc 824 0 0 0 0 1 true,.str yb9,.slc 3457 0 0 28 28 1 true,.slc 3457 0 0 0 0 1 true,.str yb14,.slc 3719 0 0 39 39 1 true,.slc 3719 0 0 0 0 1 true],0,0⟩
abbrev yr15:bH:=⟨49,[.slc 3748 0 0 3 3 3 false,iV 900,iV (-1),.bool false,iV 64,iV 2,.slc 614 1 0 2 2 7 false,iV 2,iV 9,.slc 734 0 0 1 1 1 false,.slc 585 0 0 1 1 21 false,iV 2,iV 9,iV 2,iV 2,.bool false],0,0⟩
def Cn:bB:=⟨[(0,.bool false),
 (1,.ptr 26 0 0 16),
 (2,iV 0),
 (3,iV 0),
 (4,iV 0),
 (5,.slc 2149 1 0 2 2 7 false),
 (6,.ptr 3757 0 0 16),
 (7,iV 0)],
 3758,
 [(26,yr4),
  (78,yr0),
  (585,yr5),
  (614,yr6),
  (734,⟨9,[.str [98]],0,0⟩),
  (824,yr7),
  (913,yr8),
  (916,yr10),
  (2149,yr11),
  (3457,yr10),
  (3719,yr12),
  (3748,yr13),
  (3757,yr15)]⟩
def CR:bB:=⟨[(0,.bool true),
 (1,.ptr 26 0 0 16),
 (2,iV 0),
 (3,iV 0),
 (4,iV 0),
 (5,.slc 2149 1 0 2 2 7 false),
 (6,.ptr 3757 0 0 16),
 (7,iV 0)],
 3758,
 [(26,yr4),
  (78,yr0),
  (585,yr5),
  (614,yr6),
  (734,⟨9,[.str [98]],0,0⟩),
  (824,yr7),
  (913,yr8),
  (916,yr10),
  (2149,yr11),
  (3457,yr10),
  (3719,yr12),
  (3748,yr13),
  (3757,yr15)]⟩
def LO:bB:=⟨[(0,.bool true),
 (1,.ptr 26 0 0 16),
 (2,iV 0),
 (3,iV 0),
 (4,iV 0),
 (5,.slc 2149 1 0 2 2 7 false),
 (6,.ptr 3757 0 0 16),
 (7,iV 0)],
 3758,
 [(26,yr4),
  (78,yr0),
  (585,yr5),
  (614,yr6),
  (734,⟨9,[.str [98]],0,0⟩),
  (824,yr7),
  (913,yr8),
  (916,yr10),
  (2149,yr11),
  (3457,yr10),
  (3719,yr12),
  (3748,yr13),
  (3757,yr15)]⟩
end
end Go.Proofs.YtmpiinhnabmjcaaGreatDoor
