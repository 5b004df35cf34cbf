/- Part 35 of the proof about mailboattop.TopOthers. No condition. -/
import Derived.Test.YtfnciigbbolckaaGreatQ00
import Derived.Test.YtfnciigbbolckaaGreatQ06
import Derived.Test.YtfnciigbbolckaaGreatQ07
import Derived.Test.YtfnciigbbolckaaGreatQ08
import Derived.Test.YtfnciigbbolckaaGreatQ10
import Derived.Test.YtfnciigbbolckaaGreatQ16
import Derived.Test.YtfnciigbbolckaaGreatQ23
import Derived.Test.YtfnciigbbolckaaGreatQ24
import Derived.Test.YtfnciigbbolckaaGreatQ27
import Derived.Test.YtfnciigbbolckaaGreatQ28
import Derived.Test.YtfnciigbbolckaaGreatQ30
import Derived.Test.YtfnciigbbolckaaGreatQ31
import Derived.Test.YtfnciigbbolckaaGreatQ32
import Derived.Test.YtfnciigbbolckaaGreatQ34
set_option linter.unusedVariables false
set_option linter.unusedSimpArgs false
set_option maxRecDepth 100000
set_option maxHeartbeats 64000000
namespace Go.Proofs.YtfnciigbbolckaaGreat
open Go Go.RowKit Iv
attribute [local go_sem] Oper.semAt_some
attribute [local go_sem] pw gu B_app pv B_get B_toList
section
theorem gW {α:Type} {l:List α} {x:α} {k:Nat}:(l.take k++x::l.drop k).Perm (x::l):=by
 have h:=List.perm_middle (a:=x) (l₁:=l.take k) (l₂:=l.drop k);rwa [bP]at h
def SAddPost (l:List Hld) (x:Hld) (w:World) (e:Ending) (w':World):Prop:=(∃(r:Value) (k:Nat),e= .returned (.tuple #[r,.int .i64 0])∧insK cmpH l x k∧w'.ownsRow w.heap.size 75 5 r (l.length+1) ((l.take k++x::l.drop k).flatMap hldC))∧Below w.heap.size w w'
theorem sadd_any (qs:List Int) (cs:List Con) (l:List Hld) (x:Hld) (uq uc u:Value) (w:World) (hq:RRow intC 1 w w.heap.size uq qs) (hc:RRow conC 7 w w.heap.size uc cs) (hr:RRow hldC 5 w w.heap.size u l) (hp:PlanOK qs cs) (hl:HkOK qs l) (hlen:l.length<512) (hv:hValN qs.length x) (hlv:LevOK qs (x::l)):
  Calls Tryz.prog 22 #[.agg #[uq,uc],u,.agg #[.int .i64 x.nd,.int .i64 x.fr,.int .i64 x.tt,.int .i64 x.sz,.int .i64 x.tk]] w (SAddPost l x w):=by
 have HQ:=aa hq;have HC:=aa hc;have HR:=aa hr;have HH:=aa (cS hp (cS hl (cS hv hlv)));obtain⟨ua,uc0,rfl,e1,e2,-,-⟩:=hr;obtain⟨qa,qc,rfl,f1,f2,-,-⟩:=hq;have HCU:Hid (∃a k c,uc= .slice a k c):=aa (by obtain⟨a,c,h,-⟩:=hc;exact⟨_,_,_,h⟩);unfold maxLen at e2 f2;have hln:l.length≤9223372036854775807:=by omega
 have hql:qs.length≤9223372036854775807:=by omega
 clear hc hp hl hv hlv;go_enter Tryz.func22,Tryz.ntmps22
 go_upto_region 1 with fail
 obtain⟨Z,hZ⟩:=cR w.heap.size
 obtain⟨w1,hw1⟩:=cR ((w.alloc (.cells #[.slice qa qs.length qc,uc] 25)).alloc (.cells #[.int .i64 x.nd,.int .i64 x.fr,.int .i64 x.tt,.int .i64 x.sz,.int .i64 x.tk] 75))
 rw[hw1];have B1:Below Z w w1:=by rw[←hw1,←hZ];exact cZ
 have X0:w1.heap[Z]? =some (.cells #[.slice qa qs.length qc,uc] 25 (0,0)):=by rw[←hw1,←hZ];exact(by repeat (first | exact cY (by first | rfl | (simp;done)) | refine(ak _ _ _ (by first | (simp;done) | (simp;omega))).trans ?_))
 have X1:w1.heap[Z+1]? =some (.cells #[.int .i64 x.nd,.int .i64 x.fr,.int .i64 x.tt,.int .i64 x.sz,.int .i64 x.tk] 75 (0,0)):=by rw[←hw1,←hZ];exact(by repeat (first | exact cY (by first | rfl | (simp;done)) | refine(ak _ _ _ (by first | (simp;done) | (simp;omega))).trans ?_))
 have z1:Z+1<w1.heap.size:=(ai.1 X1).1;have z0:Z<w1.heap.size:=by omega
 have k0:=fun q_=>cU X0 q_
 have k1:=fun q_=>cU X1 q_
 have HZ:=aa hZ;have HX:=aa (cS B1 (cS X0 X1));rw[hZ]at HQ HC HR ⊢;clear hw1 B1 X0 X1 hZ;go_wp2_with fail
 refine(kw qs cs l _ uc _ w1 (HQ.out.below HX.out.1 (aj _) (by omega)) (HC.out.below HX.out.1 (aj _) (by omega)) (HR.out.below HX.out.1 (aj _) (by omega))).mono ?_
 unfold SchRet;rintro e w2 ⟨⟨r,rfl,hr0⟩,hb2⟩;obtain rfl:r=0:=hr0.2 ⟨HH.out.1,HH.out.2.1⟩;have z2:=hb2.size;have HX2:=aa (cS (HX.out.1.trans (hb2.mono (by omega))) (cS ((hb2.block _ z0).trans HX.out.2.1) ((hb2.block _ z1).trans HX.out.2.2)));have k0:=fun q_=>cU HX2.out.2.1 q_
 have k1:=fun q_=>cU HX2.out.2.2 q_
 have y0:Z<w2.heap.size:=by omega
 have y1:Z+1<w2.heap.size:=by omega
 clear hr0 hb2;go_wp2_with fail
 refine(mC qs _ uc x w2 (HQ.out.below HX2.out.1 (aj _) (by omega)) HCU.out).mono ?_
 unfold HvPost;rintro e w3 ⟨⟨r,rfl,hr0⟩,hb3⟩;obtain rfl:r=true:=hr0.2 HH.out.2.2.1;have z3:=hb3.size;have HX3:=aa (cS (HX2.out.1.trans (hb3.mono (by omega))) (cS ((hb3.block _ y0).trans HX2.out.2.1) ((hb3.block _ y1).trans HX2.out.2.2)));have k1:=fun q_=>cU HX3.out.2.2 q_
 have y0:Z<w3.heap.size:=by omega
 have y1:Z+1<w3.heap.size:=by omega
 have d1:((l.length:Int)==512)=false:=by rw[beq_eq_false_iff_ne];omega
 clear hr0 hb3 k0;go_wp2_with fail
 refine(bsr_hld l x _ w3 (HR.out.below HX3.out.1 (aj _) (by omega)) (by omega)).mono ?_
 unfold BsP_hld;rintro e w5 ⟨⟨k,b,rfl,hk1,hk2,hk3⟩,hb5⟩;have z5:=hb5.size;have HIK:Hid (insK cmpH l x k):=aa ⟨hk1,hk2,hk3⟩;have HB5:Hid (Below Z w w5):=aa (HX3.out.1.trans (hb5.mono (by omega)));have HX5:=aa (cS ((hb5.block _ y0).trans HX3.out.2.1) ((hb5.block _ y1).trans HX3.out.2.2));have cx:=fun q=>cU HX5.out.2 q
 have z5':Z+1<w5.heap.size:=by omega
 have hk0:(0:Int)≤(k:Int):=by omega
 clear hk1 hk2 hk3 hb5 k1;go_upto_region 8 with fail
 have HRD:Hid (∀V,Below w5.heap.size w5 V→RRow hldC 5 V V.heap.size (.slice ua l.length uc0) l):=aa (fun V hV=>HR.out.below (HB5.out.trans (hV.mono (by omega))) (aj _) (by have:=hV.size;omega));have hone:=eF gd l;have HON:=aa hone;clear hone;refine ei (fun V=>Below w5.heap.size w5 V) [0,2,0,1,2,3,0] (.go 0 (.go 2 (.go 3 (.br2 1 4 (.go 4 (.go 5 (.go 6 (.fin)))) (.go 1 (.go 5 (.go 6 (.fin)))))))) (by kernel_rfl) (by kernel_rfl) ?_ ?_
 case refine_1=>exact bdrew (ap _ _)
 iterate 3 (refine dG rfl (by decide) (by rfl) (fun w1 hS=>by(try(obtain⟨_,_⟩:=bcell (hS rfl)));go_simp;rfl) ?_;(try simp only[Act.put,ae,af,ag]))
 refine⟨?ga,?gb⟩
 case' ga=>
  refine ej rfl (by rfl) (fun K hK=>?_)
  go_simp
  refine(ly l _ _ (HRD.out _ (bdrew (ap _ _))) HON.out (by omega)).mono ?_
  unfold ClonePost;rintro e wc ⟨⟨v,rfl,hov⟩,hbc⟩;have hbw:Below w5.heap.size w5 wc:=dq (bdrew (ap _ _)) hbc;refine hK _ _ hbw ?_
  clear hK K
  (try simp only[Act.put,ae,af,ag])
  refine dH rfl rfl (by rfl) (fun K hK=>?_)
  go_simp
  refine hK _ _ (de hbw) ?_
  clear hK K
  (try simp only[Act.put,ae,af,ag])
  obtain⟨w3,hw3⟩:=cR (wc.alloc (.cells #[.int .i64 x.nd,.int .i64 x.fr,.int .i64 x.tt,.int .i64 x.sz,.int .i64 x.tk] 75))
  obtain⟨vb,hvb⟩:=cR wc.heap.size
  have HV:Hid (w3.heap[vb]? =some (.cells (hldC x).toArray 75 (0,0))):=aa (by rw[←hw3,←hvb];exact cW);have HO:Hid (w3.ownsRow w5.heap.size 75 5 v l.length (l.flatMap hldC)∧v.ownBlock≠some vb):=aa ⟨fw (cV hov (fun q hq=>by rw[←hw3];exact ak _ _ _ (hov.lt q hq).2)) (by show w5.heap.size≤w5.heap.size;omega),fun e=>by have:=(hov.lt vb e).2;omega⟩;have HB3:Hid (Below w5.heap.size w5 w3):=aa (by rw[←hw3];exact de hbw);rw[hw3,hvb];clear hov hbc hbw hw3 hvb
 case' gb=>
  refine ej rfl (by rfl) (fun K hK=>?_)
  go_simp
  refine hK _ _ (de (bdrew (ap _ _))) ?_
  clear hK K
  (try simp only[Act.put,ae,af,ag])
  refine dH rfl rfl (by rfl) (fun K hK=>?_)
  go_simp
  refine(ly l _ _ (HRD.out _ (de (bdrew (ap _ _)))) HON.out (by omega)).mono ?_
  unfold ClonePost;rintro e w3 ⟨⟨v,rfl,hov⟩,hbc⟩;have hbw:Below w5.heap.size w5 w3:=dq (de (bdrew (ap _ _))) hbc;refine hK _ _ hbw ?_
  clear hK K
  (try simp only[Act.put,ae,af,ag])
  obtain⟨vb,hvb⟩:=cR w5.heap.size
  have HV:Hid (w3.heap[vb]? =some (.cells (hldC x).toArray 75 (0,0))):=aa (by rw[←hvb];exact(hbc.block _ (by simp)).trans (cW (W:=w5.drew)));have HO:Hid (w3.ownsRow w5.heap.size 75 5 v l.length (l.flatMap hldC)∧v.ownBlock≠some vb):=aa ⟨fw hov (by first | (simp;done) | (simp;omega)),fun e=>by have:=(hov.lt vb e).1;simp at this;omega⟩;have HB3:Hid (Below w5.heap.size w5 w3):=aa hbw;have hvb':w5.drew.heap.size=vb:=hvb
  (try rw[hvb'])
  (try rw[hvb])
  clear hov hbc hbw hvb hvb'
 all_goals
  have hz3:=HB3.out.size;refine ey rfl rfl (by rfl) (fun K hK=>?_)
  go_simp
  refine(ins_hld l x k v vb w5.heap.size w3 HO.out.1 HIK.out.1 (by omega) HV.out HO.out.2 (by omega)).mono ?_
  unfold InsP_hld;rintro e w4 ⟨⟨r,rfl,hr4⟩,hb4⟩;have HF:Hid (w4.ownsRow w5.heap.size 75 5 r (l.length+1) ((l.take k++x::l.drop k).flatMap hldC)∧Below w5.heap.size w5 w4):=aa ⟨hr4,HB3.out.trans hb4⟩;clear hr4 hb4;refine hK _ _ ?_
  clear hK K
  (try simp only[Act.put,ae,af,ag])
  refine dG rfl (by decide) (by rfl) (fun w1 hS=>by go_simp;rfl) ?_
  (try simp only[Act.put,ae,af,ag])
  refine fe ?_
  have z6:=HF.out.2.size;have HB6:Hid (Below Z w w4):=aa (HB5.out.trans (HF.out.2.mono (by omega)));obtain⟨L,hL⟩:=cR (l.take k++x::l.drop k)
  have HLP:Hid (L.Perm (x::l)):=aa (by rw[←hL];exact gW);have HLE:=aa hL;have hLl:L.length=l.length+1:=by rw[HLP.out.length_eq];rfl
  have HRL:Hid (RRow hldC 5 w4 w4.heap.size r L):=aa (by have h5:=HF.out.1;rw[hL]at h5;exact dF (by decide) dO h5);have HVL:Hid (∀h∈L,hVal h∧1≤h.sz∧h.sz≤65536):=aa (fun h hh=>by
   have h5:hValN qs.length h:=by
    rcases aG.1 (HLP.out.mem_iff.1 hh)with rfl | hh
    ·exact HH.out.2.2.1
    ·exact HH.out.2.1.2.1 h hh
   exact⟨h5.2.1,h5.2.2.1⟩)
  have HLV:Hid (LevOK qs L):=aa (HH.out.2.2.2.perm HLP.out.symm);clear hL;obtain⟨ra,rc,hre⟩:=dg HF.out.1;subst hre;have X0:=(HF.out.2.block Z (by omega)).trans HX5.out.1;have X1:=(HF.out.2.block (Z+1) (by omega)).trans HX5.out.2;have k0:=fun q_=>cU X0 q_
  have k1:=fun q_=>cU X1 q_
  have y0':Z<w4.heap.size:=by omega
  have y1':Z+1<w4.heap.size:=by omega
  obtain⟨qb,qo,hqe,hqb,hqc⟩:∃b o,qa=some ⟨b,o,none⟩∧b<Z∧∀(i:Nat) (v:Int),qs[i]? =some v→w.cell? ⟨b,o+i,none⟩=some (.int .i64 v):=by
   obtain⟨a,c,e,-,-,-,h4⟩:=HQ.out;injection e with e1 _ _
   obtain⟨b,o,e2,hb,hc⟩:=h4 (by have:=HH.out.2.2.1.1;omega);exact⟨b,o,by rw[e1,e2],hb,fun i v hi=>by have:=hc i v hi 0 _ rfl;simpa using this⟩
  subst hqe;obtain⟨nd,fr,tt,sz,tk⟩:=x;have hnd:0≤nd∧nd<(qs.length:Int):=HH.out.2.2.1.1;obtain⟨n,rfl⟩:=bh hnd.1;obtain⟨qv,hqv⟩:∃v,qs[n]? =some v:=⟨_,am (by omega)⟩
  have q0:w4.cell? ⟨qb,qo+n,none⟩=some (.int .i64 qv):=(HB6.out.cell (p:=⟨qb,qo+n,none⟩) hqb).trans (hqc n qv hqv);have hqlt:qb<w4.heap.size:=by omega
  have HQV:=aa hqv;have i0:=hnd.1;have i1:=hnd.2;have HP6:=aa (HH.out.1.2.1 qv (az hqv)).1;clear hqv hqc X0 X1 hqb;go_upto_region 9 with fail
  refine dd (fun V=>Below (w4).heap.size (w4) V) [0,0,1,2,2,0,1,0,1,0,1,0] [0,1,2,5,6,7,8,9,10,3,4,11] (by kernel_rfl) (by kernel_rfl) ?_ ?_
  case refine_1=>exact cZ
  (iterate 9 (first | (refine cX rfl (by decide) (by rfl) (fun w1 hS=>by(try(obtain⟨_,_⟩:=bcell (hS rfl)));go_simp;rfl) ?_;simp only[Act.put,ae,af,ag]) | (refine dm rfl (by decide) (by rfl) ?_;simp only[Act.put,ae,af,ag])))
  (refine dA rfl rfl (by rfl) (fun K hK=>?_);go_simp)
  refine(ic L (n:Int) _ _ (HRL.out.below' cZ) (by omega) HVL.out).mono ?_
  unfold LvRet;rintro e wc37 ⟨u2,P2,rfl,hr2,hp2,-,hlv,hbc37⟩;have HLVP:=aa (cS hr2 hlv);obtain⟨ua2,uc2,rfl,-⟩:=id hr2;clear hr2 hlv
  (refine hK _ _ (by exact cZ) ?_;clear hK K;(try simp only[Act.put,ae,af,ag]))
  (refine dA rfl rfl (by rfl) (fun K hK=>?_);go_simp)
  refine(mZ P2 _ _ HLVP.out.1).mono ?_
  unfold MostRet;rintro e wc38 ⟨⟨r3,rfl,hr3⟩,hbc38⟩;have HR3:=aa hr3;clear hr3
  (refine hK _ _ (by exact cZ) ?_;clear hK K;(try simp only[Act.put,ae,af,ag]))
  (iterate 1 (first | (refine cX rfl (by decide) (by rfl) (fun w1 hS=>by(try(obtain⟨_,_⟩:=bcell (hS rfl)));go_simp;rfl) ?_;simp only[Act.put,ae,af,ag]) | (refine dm rfl (by decide) (by rfl) ?_;simp only[Act.put,ae,af,ag])))
  refine du ?_
  have hqr:r3≤qv:=(HR3.out qv HP6.out).2 ((HLVP.out.2.most HP6.out).2 (HLV.out n qv HQV.out));have hd9:decide (qv<r3)=false:=decide_eq_false (by omega);have z37:w4.heap.size≤wc37.heap.size:=by have:=hbc37.size;simpa using this
  have hb37:Below w4.heap.size w4 wc37:=dq (bdrew (ap _ _)) hbc37;have HW:Hid (Below w5.heap.size w5 wc38):=aa (HF.out.2.trans ((hb37.trans (hbc38.mono z37)).mono (by omega)));have HOW:Hid (wc38.ownsRow w5.heap.size 75 5 (.slice ra (l.length+1) rc) (l.length+1) (L.flatMap hldC)):=aa (cV (by have h5:=HF.out.1;rw[HLE.out]at h5;exact h5) (fun q hq=>by
   have hlt:=(HF.out.1.lt q hq).2;exact(hbc38.block _ (by omega)).trans (hb37.block _ hlt)))
  clear hbc37 hbc38 k0 k1 q0;go_wp2
  refine bodyPost_ret (v:=.tuple #[.slice ra (l.length+1) rc,.int .i64 0]) (by simp[results,Tryz.results22,go_sem]) rfl ?_
  unfold SAddPost;rw[HZ.out];refine⟨⟨_,k,rfl,HIK.out,by rw[HLE.out];exact fw HOW.out (by omega)⟩,HB5.out.trans (HW.out.mono (by omega))⟩
end
section
def hitB (b:Bkg) (x:Sp):Bool:=decide (x.1<b.en)&&decide (b.bg<x.2)
theorem qi (b:Bkg) (x:Sp) (g:Nat) (w:World) (hg:w.heap[g]? =some (.cells #[.int .i64 b.ct,.int .i64 b.bg,.int .i64 b.en,.int .i64 b.tk] 53 (0,0))):
  Calls Tryz.prog 31 #[.agg #[.int .i64 x.1,.int .i64 x.2],.pointer (some ⟨g,0,none⟩)] w fun e w'=>e= .returned (.bool (hitB b x))∧Below w.heap.size w w':=by
 obtain⟨x1,x2⟩:=x;have hgl:g<w.heap.size:=(ai.1 hg).1;have HG:=aa hg;clear hg;go_enter Tryz.func31,Tryz.ntmps31
 go_upto_region 1 with fail
 obtain⟨w1,hw1⟩:=cR (w.alloc (.cells #[.int .i64 x1,.int .i64 x2] 86))
 rw[hw1];have HB1:Hid (Below w.heap.size w w1):=aa (by rw[←hw1];exact de (ap _ _));have X1:w1.heap[w.heap.size]? =some (.cells #[.int .i64 x1,.int .i64 x2] 86 (0,0)):=by rw[←hw1];exact cW
 have z1:w.heap.size<w1.heap.size:=(ai.1 X1).1;have cx:=fun q=>cU X1 q
 have cg:=fun q=>cU ((HB1.out.block _ hgl).trans HG.out) q
 have zg:g<w1.heap.size:=by omega
 clear hw1 X1;by_cases h1:x1<b.en
 ·have d1:decide (x1<b.en)=true:=decide_eq_true h1
  obtain⟨r,hr⟩:=cR (decide (b.bg<x2))
  have HV:Hid (hitB b (x1,x2)=r):=aa (by unfold hitB;rw[d1,hr,Bool.true_and]);clear h1;go_wp2
  go_ret
  rw[HV.out];exact⟨by first | rfl | (rw[hr]),HB1.out⟩
 ·have d1:decide (x1<b.en)=false:=decide_eq_false h1
  have HV:Hid (hitB b (x1,x2)=false):=aa (by unfold hitB;rw[d1,Bool.false_and]);clear h1;go_wp2
  go_ret
  rw[HV.out];exact⟨rfl,HB1.out⟩
def BAddPost (l:List Bkg) (b:Bkg) (w:World) (e:Ending) (w':World):Prop:=(∃(r:Value) (k:Nat),e= .returned (.tuple #[r,.int .i64 0])∧insK cmpB l b k∧w'.ownsRow w.heap.size 53 4 r (l.length+1) ((l.take k++b::l.drop k).flatMap bkgC))∧Below w.heap.size w w'
theorem hit_none {cs:List Con} {l:List Bkg} {b:Bkg} (hl:∀y∈l,bVal cs y) (hv:bVal cs b) (hd:∀y∈l,disB b y):(busyS l b.ct).any (hitB b)=false:=by
 rw[cM];intro x hx;unfold busyS at hx;obtain⟨y,hy,rfl⟩:=bu.1 hx;obtain⟨hy1,hy2⟩:=bG.1 hy;have hc:y.ct=b.ct:=by simpa using hy2
 have:=hd y hy1 hc.symm;unfold hitB;simp only[aQ,decide_eq_true_eq];omega
theorem nF (qs:List Int) (cs:List Con) (l:List Bkg) (b:Bkg) (uq uc u:Value) (w:World) (hq:RRow intC 1 w w.heap.size uq qs) (hc:RRow conC 7 w w.heap.size uc cs) (hr:RRow bkgC 4 w w.heap.size u l) (hp:PlanOK qs cs) (hl:BkOK cs l) (hlen:l.length<512) (hv:bVal cs b) (hd:∀y∈l,disB b y):
  Calls Tryz.prog 11 #[.agg #[uq,uc],u,.agg #[.int .i64 b.ct,.int .i64 b.bg,.int .i64 b.en,.int .i64 b.tk]] w (BAddPost l b w):=by
 have HQ:=aa hq;have HC:=aa hc;have HR:=aa hr;have HH:=aa (cS hp (cS hl (cS hv (hit_none hl.2.1 hv hd))));obtain⟨ua,ucp,rfl,e1,e2,-,-⟩:=hr;unfold maxLen at e2;have hln:l.length≤9223372036854775807:=by omega
 clear hq hc hp hl hv hd;go_enter Tryz.func11,Tryz.ntmps11
 go_upto_region 1 with fail
 obtain⟨Z,hZ⟩:=cR w.heap.size
 obtain⟨w1,hw1⟩:=cR ((w.alloc (.cells #[uq,uc] 25)).alloc (.cells #[.int .i64 b.ct,.int .i64 b.bg,.int .i64 b.en,.int .i64 b.tk] 53))
 rw[hw1];have B1:Below Z w w1:=by rw[←hw1,←hZ];exact cZ
 have X0:w1.heap[Z]? =some (.cells #[uq,uc] 25 (0,0)):=by rw[←hw1,←hZ];exact(by repeat (first | exact cY (by first | rfl | (simp;done)) | refine(ak _ _ _ (by first | (simp;done) | (simp;omega))).trans ?_))
 have X1:w1.heap[Z+1]? =some (.cells #[.int .i64 b.ct,.int .i64 b.bg,.int .i64 b.en,.int .i64 b.tk] 53 (0,0)):=by rw[←hw1,←hZ];exact(by repeat (first | exact cY (by first | rfl | (simp;done)) | refine(ak _ _ _ (by first | (simp;done) | (simp;omega))).trans ?_))
 have z1:Z+1<w1.heap.size:=(ai.1 X1).1;have z0:Z<w1.heap.size:=by omega
 have k0:=fun q_=>cU X0 q_
 have k1:=fun q_=>cU X1 q_
 have HZ:=aa hZ;have HX:=aa (cS B1 (cS X0 X1));rw[hZ]at HQ HC HR ⊢;clear hw1 B1 X0 X1 hZ;go_wp2_with fail
 refine(iO qs cs l uq uc _ w1 (HQ.out.below HX.out.1 (aj _) (by omega)) (HC.out.below HX.out.1 (aj _) (by omega)) (HR.out.below HX.out.1 (aj _) (by omega))).mono ?_
 unfold BkPost;rintro e w2 ⟨⟨r,rfl,-,hr0⟩,hb2⟩;obtain rfl:r=0:=hr0 ⟨HH.out.1,HH.out.2.1⟩;have z2:=hb2.size;have HX2:=aa (cS (HX.out.1.trans (hb2.mono (by omega))) (cS ((hb2.block _ z0).trans HX.out.2.1) ((hb2.block _ z1).trans HX.out.2.2)));have k0:=fun q_=>cU HX2.out.2.1 q_
 have k1:=fun q_=>cU HX2.out.2.2 q_
 have y0:Z<w2.heap.size:=by omega
 have y1:Z+1<w2.heap.size:=by omega
 clear hr0 hb2;go_wp2_with fail
 refine(m5 qs cs uq uc b w2 (HQ.out.below HX2.out.1 (aj _) (by omega)) (HC.out.below HX2.out.1 (aj _) (by omega))).mono ?_
 unfold BvPost;rintro e w3 ⟨⟨r,rfl,-,hr0⟩,hb3⟩;obtain rfl:r=true:=hr0 HH.out.2.2.1;have z3:=hb3.size;have HX3:=aa (cS (HX2.out.1.trans (hb3.mono (by omega))) (cS ((hb3.block _ y0).trans HX2.out.2.1) ((hb3.block _ y1).trans HX2.out.2.2)));have k1:=fun q_=>cU HX3.out.2.2 q_
 have y1:Z+1<w3.heap.size:=by omega
 have d1:((l.length:Int)==512)=false:=by rw[beq_eq_false_iff_ne];omega
 clear hr0 hb3 k0;go_wp2_with fail
 refine(nt l b.ct _ w3 (HR.out.below HX3.out.1 (aj _) (by omega)) (by omega)).mono ?_
 unfold SpsRet;rintro e w4 ⟨us,rfl,hrs,-,hb4⟩;have z4:=hb4.size;have HRS:=aa hrs;have HX4:=aa (cS (HX3.out.1.trans (hb4.mono (by omega))) ((hb4.block _ y1).trans HX3.out.2.2));have k1:=fun q_=>cU HX4.out.2 q_
 have y1:Z+1<w4.heap.size:=by omega
 have hcall:∀args W,(callFunc 31 args).run Tryz.prog W= .ok (.enter 31 args) W:=fun _ _=>by kernel_rfl
 clear hrs hb4;go_wp2_with fail
 refine(kJ (busyS l b.ct) us 31 #[.pointer (some ⟨Z+1,0,none⟩)] (hitB b) w4 HRS.out ⟨hcall,fun x W _ hW=>qi b x (Z+1) W ((hW.block _ y1).trans HX4.out.2)⟩).mono ?_
 rw[HH.out.2.2.2];rintro e w5 ⟨rfl,hb5⟩;have z5:=hb5.size;have HX5:=aa (cS (HX4.out.1.trans (hb5.mono (by omega))) ((hb5.block _ y1).trans HX4.out.2));have k1:=fun q_=>cU HX5.out.2 q_
 have y1:Z+1<w5.heap.size:=by omega
 clear hb5;go_wp2_with fail
 refine(nE l b _ w5 (HR.out.below HX5.out.1 (aj _) (by omega)) (by omega)).mono ?_
 unfold InBPost;rintro e w6 ⟨⟨r,k,rfl,hik,how⟩,hb6⟩;have HF:=aa (cS hik (cS (fw how (show Z≤w5.heap.size by omega)) (HX5.out.1.trans (hb6.mono (by omega)))));clear hik how hb6 k1;go_wp2
 refine bodyPost_ret (v:=.tuple #[r,.int .i64 0]) (by simp[results,Tryz.results11,go_sem]) rfl ?_
 unfold BAddPost;rw[HZ.out];exact⟨⟨r,k,rfl,HF.out.1,HF.out.2.1⟩,HF.out.2.2⟩
end
section
theorem jG {α:Type} {cmp:α→α→Int} {le:α→α→Prop} (ht:∀a b c,le a b→le b c→le a c) (h1:∀y x,cmp y x<0→le y x) (h2:∀y x,0≤cmp y x→le x y) {l:List α} {x:α} {k:Nat} (hl:l.Pairwise le) (hk:insK cmp l x k):(l.take k++x::l.drop k).Pairwise le:=by
 obtain⟨k1,k2,k3⟩:=hk;have hs:=hl;rw[←bP k l,aT]at hs;obtain⟨s1,s2,s3⟩:=hs;have hd:∀y∈l.drop k,le x y:=fun y hy=>by
  cases hdk:l.drop k with
  | nil=>rw[hdk]at hy;cases hy
  | cons z r=>
   have hz:l[k]? =some z:=by
    have:=congrArg (·[0]?) hdk;simpa [List.getElem?_drop]using this
   have hxz:=h2 z x (k3 z hz);rw[hdk]at hy s2;rcases aG.1 hy with rfl | hy
   ·exact hxz
   ·exact ht _ _ _ hxz ((aM.1 s2).1 y hy)
 have htk:∀y∈l.take k,le y x:=fun y hy=>by
  rcases bC k with e | e
  ·subst e;simp at hy
  ·obtain⟨j,rfl⟩:∃j,k=j+1:=⟨k-1,by omega⟩
   obtain⟨z,hz⟩:∃z,l[j]? =some z:=⟨_,am (by omega)⟩
   have hzx:=h1 z x (k2 z (by omega) (by rw[bZ];exact hz));rw[el hz]at hy s1;rcases aA.1 hy with hy | hy
   ·exact ht _ _ _ ((aT.1 s1).2.2 y hy z (by simp)) hzx
   ·rw[aH.1 hy];exact hzx
 rw[aT];refine⟨s1,aM.2 ⟨hd,s2⟩,fun a ha b hb=>?_⟩
 rcases aG.1 hb with rfl | hb
 ·exact htk a ha
 ·exact s3 a ha b hb
theorem cmpB_ge {a b:Bkg} (h:0≤cmpB a b):leB b a:=by
 unfold cmpB at h;unfold leB;have h0:(cmpI a.ct b.ct=0↔a.ct=b.ct)∧(0≤cmpI a.ct b.ct↔b.ct≤a.ct):=⟨dV,by unfold cmpI;split<;>(try split)<;>omega⟩
 have h1:(cmpI a.bg b.bg=0↔a.bg=b.bg)∧(0≤cmpI a.bg b.bg↔b.bg≤a.bg):=⟨dV,by unfold cmpI;split<;>(try split)<;>omega⟩
 generalize cmpI a.ct b.ct=c0 at*
 generalize cmpI a.bg b.bg=c1 at*
 simp only[orL]at h
 repeat' split at h
 all_goals omega
theorem cmpH_ge {a b:Hld} (h:0≤cmpH a b):leH b a:=by
 unfold cmpH at h;unfold leH;have hh:∀x y:Int,(cmpI x y=0↔x=y)∧(0≤cmpI x y↔y≤x):=fun x y=>⟨dV,by unfold cmpI;split<;>(try split)<;>omega⟩
 have h0:=hh a.nd b.nd;have h1:=hh a.fr b.fr;have h2:=hh a.tt b.tt;have h3:=hh a.tk b.tk;have h4:=hh a.sz b.sz;generalize cmpI a.nd b.nd=c0 at*
 generalize cmpI a.fr b.fr=c1 at*
 generalize cmpI a.tt b.tt=c2 at*
 generalize cmpI a.tk b.tk=c3 at*
 generalize cmpI a.sz b.sz=c4 at*
 clear hh;simp only[orL]at h
 repeat' split at h
 all_goals omega
theorem nG {l:List Bkg} {x:Bkg} {k:Nat} (hl:l.Pairwise leB) (hk:insK cmpB l x k):(l.take k++x::l.drop k).Pairwise leB:=
 jG (fun a b c h1 h2=>by unfold leB at*;omega) (fun y x h=>by have:=lR h;unfold leB;omega) (fun y x h=>cmpB_ge h) hl hk
theorem nH {l:List Hld} {x:Hld} {k:Nat} (hl:l.Pairwise leH) (hk:insK cmpH l x k):(l.take k++x::l.drop k).Pairwise leH:=
 jG (fun a b c h1 h2=>by unfold leH at*;omega) (fun y x h=>(me y x).1 (by omega)) (fun y x h=>cmpH_ge h) hl hk
theorem jt {α:Type} {M B0 B:List α} {k j:Nat} {b:α} (hk:M[k]? =some b) (hp:B.Perm (M.take k++B0)):(B.take j++b::B.drop j).Perm (M.take (k+1)++B0):=by
 have h1:(B.take j++b::B.drop j).Perm (b::B):=gW;refine h1.trans ?_
 rw[el hk,aY];refine(List.Perm.cons b hp).trans ?_
 exact(List.perm_middle (a:=b) (l₁:=M.take k) (l₂:=B0)).symm
theorem nI {α:Type} {M B0 B:List α} {k:Nat} {b:α} (hk:M[k]? =some b) (hp:B.Perm (M.take k++B0)):(M++B0).Perm (M.drop (k+1)++(b::B)):=by
 have e:M=M.take k++b::M.drop (k+1):=by
  have hl:=(aw.1 hk).1;have h2:M.drop k=b::M.drop (k+1):=by
   rw[bX hl];congr 1
   exact(aw.1 hk).2
  rw[←h2,bP]
 conv=>lhs;rw[e]
 rw[aY,a8];refine(List.perm_middle).trans ?_
 refine List.Perm.trans ?_ (List.perm_middle).symm
 refine List.Perm.cons b ?_
 refine(List.Perm.trans ?_ (List.Perm.append_left _ hp.symm))
 rw[←aY,←aY];exact List.Perm.append_right _ List.perm_append_comm
theorem lJ {cs:List Con} {M B0 B:List Bkg} {k:Nat} {b:Bkg} (hset:BkSet cs (M++B0)) (hB:BkOK cs B) (hp:B.Perm (M.take k++B0)) (hk:M[k]? =some b):
  B.length<512∧bVal cs b∧(∀y∈B,disB b y)∧∀j,insK cmpB B b j→BkOK cs (B.take j++b::B.drop j):=by
 obtain⟨h1,h2,h3⟩:=hset.perm (nI hk hp);have h4:=(aT.1 h3).2.1;have hl:B.length<512:=by rw[ay,aI]at h1;omega
 have hv:bVal cs b:=h2 b (by simp);have hd:=(aM.1 h4).1;exact⟨hl,hv,hd,fun j hj=>BkOK.of ((hB.set.add hl hv hd).perm gW.symm) (nG hB.sorted hj)⟩
theorem qj {qs:List Int} {M H0 H:List Hld} {k:Nat} {x:Hld} (hset:HdSet qs (M++H0)) (hH:HkOK qs H) (hp:H.Perm (M.take k++H0)) (hk:M[k]? =some x):
  H.length<512∧hValN qs.length x∧LevOK qs (x::H)∧∀j,insK cmpH H x j→HkOK qs (H.take j++x::H.drop j):=by
 obtain⟨h1,h2,h3⟩:=hset;have hs:=nI hk hp;have hl:H.length<512:=by have:=hs.length_eq;rw[ay,ay,aI]at this;rw[ay]at h1;omega
 have hv:hValN qs.length x:=h2 x (hs.mem_iff.2 (by simp));have hlv:LevOK qs (x::H):=fun n q hn t=>by
  have h5:=h3.perm hs n q hn t;rw[dJ]at h5;have h6:=fk (l:=M.drop (k+1)) (fun z hz=>by have:=(h2 z (hs.mem_iff.2 (by simp[hz]))).2.2.1;omega) (n:Int) t;omega
 have hpm:∀j,(H.take j++x::H.drop j).Perm (x::H):=fun j=>gW
 exact⟨hl,hv,hlv,fun j hj=>⟨by rw[(hpm j).length_eq];simp;omega,fun y hy=>by
  rcases aG.1 ((hpm j).mem_iff.1 hy)with rfl | hy
  ·exact hv
  ·exact hH.2.1 y hy,nH hH.2.2.1 hj,hlv.perm (hpm j).symm⟩⟩
end
section
theorem pk (m:Int):∀(l:List Sp) (f:Int),DJ f l→∀x∈outs m f l,f≤x.1
 | [],f,_=>by
  intro x hx;unfold outs at hx;split at hx
  ·rw[aH.1 hx];exact aR _
  ·cases hx
 | y::r,f,h=>by
  obtain⟨h1,h2,h3⟩:=h;have ih:=pk m r y.2 h3;intro x hx;unfold outs at hx;split at hx
  ·rcases aG.1 hx with rfl | hx
   ·exact aR _
   ·have:=ih x hx;omega
  ·have:=ih x hx;omega
theorem DJ.lows {m:Int}:∀{l:List Sp} {f:Int},DJ f l→∀x∈outs m f l,(∀y∈l,y.2≤x.1∨x.2≤y.1)
 | [],_,_,_,_,_,hy=>by cases hy
 | z::r,f,h,x,hx,y,hy=>by
  obtain⟨h1,h2,h3⟩:=h;have hlo:∀y∈r,z.2≤y.1:=fun y hy=>by have:=h3.lo y hy;omega
  have hr:x∈outs m z.2 r→y.2≤x.1∨x.2≤y.1:=fun hx=>by
   rcases aG.1 hy with rfl | hy
   ·have:=pk m r y.2 h3 x hx;exact .inl this
   ·exact DJ.lows h3 x hx y hy
  unfold outs at hx;split at hx
  ·rcases aG.1 hx with rfl | hx
   ·rcases aG.1 hy with rfl | hy
    ·exact .inr (aR _)
    ·have:=hlo y hy;exact .inr (by show z.1≤y.1;omega)
   ·exact hr hx
  ·exact hr hx
theorem gi {cs:List Con} {B:List Bkg} {R:List (List Sp)} {src dst:Int} {s:Nat} {rd D pr:Int} {cu:Bool} {x:Lbl} {m:Mv} (hm:m∈movesL (gOf cs B R src dst s rd D pr cu) x):
  ∃(i:Nat) (c:Con) (room:Sp) (b:Int),cs[i]? =some c∧c.fr=x.nd∧room∈roomsP (gOf cs B R src dst s rd D pr cu) c.tt.toNat∧(∃y∈outs c.en c.st (busyS B i),y.1≤b∧b+durS c s≤y.2)∧x.tm≤b∧room.1≤b∧leaveS cu (b+durS c s) c.rg≤x.tt∧b+durS c s+c.rg≤D∧
   m=(⟨c.tt,room.1,room.2,b+durS c s+c.rg⟩,((i:Int),b,b+durS c s,b+durS c s+c.rg)):=by
 unfold movesL movesP at hm;obtain⟨i,hi,hm⟩:=cw.1 hm;have hil:i<cs.length:=List.mem_range.1 hi;obtain⟨c,hc⟩:∃c,cs[i]? =some c:=⟨_,am hil⟩
 have hcA:conA (gOf cs B R src dst s rd D pr cu) i=c:=by
  show(cs.getD i _)=c
  rw[aJ,hc];rfl
 have hdA:durA (gOf cs B R src dst s rd D pr cu) i=durS c s:=by
  show((cs.map fun c=>durS c s).getD i 0)=_
  rw[aJ,bO,hc];rfl
 have hgA:gapA (gOf cs B R src dst s rd D pr cu) i=outs c.en c.st (busyS B i):=by
  show((gapsL cs B).getD i [])=_
  rw[aJ,jp B hc];rfl
 unfold movesI at hm;split at hm
 ·rename_i hfr
  obtain⟨room,hroom,hmo⟩:=List.mem_filterMap.1 hm;unfold moveOf at hmo;unfold roomsA at hroom;rw[hcA]at hroom hfr;rw[hcA,hdA,hgA]at hmo;split at hmo
  ·cases hmo
  ·rename_i b hb
   split at hmo
   ·rename_i hok
    injection hmo with hmo
    obtain⟨y,hy,e1,e2⟩:=i7 hb;obtain⟨o1,o2,_⟩:=hok;exact⟨i,c,room,b,hc,hfr,hroom,⟨y,hy,by omega,e2⟩,by omega,by omega,o1,o2,hmo.symm⟩
   ·cases hmo
 ·cases hm
def cov (xs:List Lbl) (n t:Int):Prop:=∃x∈xs,x.nd=n∧x.fr≤t∧t<x.tt
structure BI (cs:List Con) (B:List Bkg) (q:Rq) (l:List Lbl) (hs:List Hp) (xs:List Lbl) (z:Lbl):Prop where
 tx:(hs=[]∧xs=[]∧z.nd=q.dst∧z.fr=0)∨(hs≠[]∧∃r,xs=z::r)
 mem:∀x∈xs,x∈l
 inc:xs.Pairwise (fun a b=>a.tm<b.tm)
 way:WayOK cs q z.nd z.tm hs
 nd:nodeE cs z.nd hs=q.dst
 tm:hs≠[]→timeE z.tm hs≤q.D
 dis:∀h∈hs,∀b∈B,b.ct=h.ct→h.en≤b.bg∨b.en≤h.bg
 lvl:∀f,z.fr≤f→∀n t,lev (hopsH cs q 0 z.nd f hs) n t≤q.sz∧(¬cov xs n t→lev (hopsH cs q 0 z.nd f hs) n t=0)
theorem BI.start {cs:List Con} {B:List Bkg} {q:Rq} {l:List Lbl} {z:Lbl} (hq:0≤q.sz) (h1:z.nd=q.dst) (h2:z.fr=0):BI cs B q l [] [] z:=
 ⟨.inl ⟨rfl,rfl,h1,h2⟩,(fun x h=>by cases h),List.Pairwise.nil,trivial,h1,fun h=>absurd rfl h,(fun h hh=>by cases hh),fun f _ n t=>⟨hq,fun _=>rfl⟩⟩
theorem lK {l:List Lbl} (h:(l.map keyL).Nodup) {x y:Lbl} (hx:x∈l) (hy:y∈l) (e:keyL x=keyL y):x=y:=by
 obtain⟨i,hi,rfl⟩:=List.getElem_of_mem hx;obtain⟨j,hj,rfl⟩:=List.getElem_of_mem hy;have hp:l.Pairwise (fun a b=>keyL a≠keyL b):=(List.pairwise_map (f:=keyL) (R:=(· ≠ ·))).1 h;rcases Nat.lt_trichotomy i j with h1 | h1 | h1
 ·exact absurd e (cJ.1 hp i j hi hj h1)
 ·subst h1;rfl
 ·exact absurd e.symm (cJ.1 hp j i hj hi h1)
def gQ (cs:List Con) (B:List Bkg) (R:List (List Sp)) (q:Rq):Gp:=gOf cs B R q.src q.dst q.sz.toNat q.rd q.D q.pr q.cu
theorem lab_nd {qs:List Int} {cs:List Con} {B:List Bkg} {R:List (List Sp)} {q:Rq} {l:List Lbl} (hp:PlanOK qs cs) (hq:ReqO qs.length q) (hl:LabOK (gQ cs B R q) l) {x:Lbl} (hx:x∈l):x.nd≠q.dst∧x.fr≤x.tm:=by
 rcases hl.sup x hx with h | ⟨y,hy,m,hm,rfl,hn⟩
 ·obtain⟨h1,h2,h3,_⟩:=h
  exact⟨by rw[h1];exact hq.2.1,by rw[h2];exact h3⟩
 ·refine⟨hn,?_⟩
  obtain⟨i,c,room,b,hc,_,_,_,_,h6,_,_,rfl⟩:=gi hm;have hcf:=ee (hp.2.2 _ _ hc).1;have hd:=fM hcf (s:=q.sz.toNat) (by have:=hq.2.2.1;omega) (by have:=hq.2.2.1;omega);have hr:=hcf.rg0;show room.1≤b+durS c q.sz.toNat+c.rg
  omega
theorem BI.step {qs:List Int} {cs:List Con} {B:List Bkg} {R:List (List Sp)} {q:Rq} {l:List Lbl} (hp:PlanOK qs cs) (hb:BkOK cs B) (hq:ReqO qs.length q) (hl:LabOK (gQ cs B R q) l) (hR:∀(n:Nat) L,R[n]? =some L→L.Pairwise (fun a b=>a.2≤b.1)) {hs:List Hp} {xs:List Lbl} {z:Lbl} (h:BI cs B q l hs xs z) {x:Lbl} (hx:x∈l) {m:Mv} (hm:m∈movesL (gQ cs B R q) x) (hk:keyL m.1=keyL z) (ht:m.1.tm=z.tm):
  BI cs B q l (⟨m.2.1,m.2.2.1,m.2.2.2.1,m.2.2.2.2⟩::hs) (x::xs) x∧x.tm<z.tm:=by
 obtain⟨hxn,hxf⟩:=lab_nd hp hq hl hx;obtain⟨i,c,room,b,hc,hfr,hroom,⟨y,hy,hy1,hy2⟩,h5,h6,h7,h8,rfl⟩:=gi hm;have hcf:=ee (hp.2.2 _ _ hc).1;have hd:=fM hcf (s:=q.sz.toNat) (by have:=hq.2.2.1;omega) (by have:=hq.2.2.1;omega);have hr:=hcf.rg0;have hil:=(aw.1 hc).1;have hco:conOf cs (i:Int)=c:=by unfold conOf;rw[aJ,bN,hc];rfl
 unfold keyL at hk;simp only[Prod.mk.injEq]at hk;obtain⟨k1,k2⟩:=hk;simp only at k1 k2 ht;have hlt:x.tm<z.tm:=by omega
 have hgap:=gap_in hp hb hc y hy;have hinc:∀u∈xs,x.tm<u.tm:=fun u hu=>by
  rcases h.tx with⟨_,e,_,_⟩ | ⟨_,r,e⟩
  ·rw[e]at hu;cases hu
  ·have hi:=h.inc
   rw[e]at hu hi;rcases aG.1 hu with rfl | hu
   ·exact hlt
   ·have:=(aM.1 hi).1 u hu
    omega
 refine⟨⟨.inr ⟨by simp,xs,rfl⟩,fun u hu=>?_,aM.2 ⟨hinc,h.inc⟩,⟨⟨by show(0:Int)≤(i:Int);omega,by show(i:Int)<_;omega,by rw[hco];exact hfr,hxn,h5,by rw[hco];show c.st≤b;omega,by rw[hco];show b≤_;omega,by rw[hco],by rw[hco]⟩,?_⟩,?_,fun _=>?_,fun h' hh' bk hbk hct=>?_,fun f hf n t=>?_⟩,hlt⟩
 ·rcases aG.1 hu with rfl | hu
  ·exact hx
  ·exact h.mem u hu
 ·show WayOK cs q (conOf cs (i:Int)).tt (b+durS c q.sz.toNat+c.rg) hs
  rw[hco,k1,ht];exact h.way
 ·show nodeE cs (conOf cs (i:Int)).tt hs=q.dst
  rw[hco,k1];exact h.nd
 ·show timeE (b+durS c q.sz.toNat+c.rg) hs≤q.D
  by_cases he:hs=[]
  ·subst he;exact h8
  ·rw[ht];exact h.tm he
 ·rcases aG.1 hh' with rfl | hh'
  ·have hbs:(bk.bg,bk.en)∈busyS B (i:Int):=by
    unfold busyS;exact bu.2 ⟨bk,bG.2 ⟨hbk,by simpa using hct⟩,rfl⟩
   have:=DJ.lows (kH hp hb hc).dj y hy (bk.bg,bk.en) hbs;simp only at this;show b+durS c q.sz.toNat≤bk.bg∨bk.en≤b
   omega
  ·exact h.dis h' hh' bk hbk hct
 ·have hrest:=h.lvl b (by omega) n t
  have hlv:lvH cs q ⟨(i:Int),b,b+durS c q.sz.toNat,b+durS c q.sz.toNat+c.rg⟩≤x.tt:=by
   unfold lvH;simp only;rw[hco];exact h7
  have hz:0≤q.sz:=by have:=hq.2.2.1;omega
  have e:lev (hopsH cs q 0 x.nd f (⟨(i:Int),b,b+durS c q.sz.toNat,b+durS c q.sz.toNat+c.rg⟩::hs)) n t=lev (if f<lvH cs q ⟨(i:Int),b,b+durS c q.sz.toNat,b+durS c q.sz.toNat+c.rg⟩then[⟨x.nd,f,lvH cs q ⟨(i:Int),b,b+durS c q.sz.toNat,b+durS c q.sz.toNat+c.rg⟩,q.sz,0⟩]else[]) n t+lev (hopsH cs q 0 z.nd b hs) n t:=by
   rw[dY,dJ];congr 2
   show hopsH cs q 0 (conOf cs (i:Int)).tt b hs=_
   rw[hco,k1]
  obtain⟨lv,hlve⟩:=cR (lvH cs q ⟨(i:Int),b,b+durS c q.sz.toNat,b+durS c q.sz.toNat+c.rg⟩)
  rw[hlve]at e hlv;rw[e];have hone:lev (if f<lv then[⟨x.nd,f,lv,q.sz,0⟩]else[]) n t=if x.nd=n∧f≤t∧t<lv then q.sz else 0:=by
   by_cases hfl:f<lv
   ·rw[if_pos hfl];show levC _ n t+0=_;unfold levC;simp only;omega
   ·rw[if_neg hfl,if_neg (by omega)];rfl
  rw[hone];by_cases hcv:x.nd=n∧f≤t∧t<lv
  ·rw[if_pos hcv]
   have hno:¬cov xs n t:=by
    rintro⟨u,hu,u1,u2,u3⟩;have hul:=h.mem u hu;have hut:=hinc u hu;obtain⟨n1,e1,e2,e3,_⟩:=hl.vd x hx;obtain⟨n2,f1,f2,f3,_⟩:=hl.vd u hul;obtain rfl:n1=n2:=by omega
    have hRn:(gQ cs B R q).R[n1]? =some ((gQ cs B R q).R.getD n1 []):=by
     rw[aJ,am e2];rfl
    have hpw:=hR n1 _ hRn;by_cases hk:x.fr=u.fr
    ·have:=lK hl.nod hx hul (by unfold keyL;rw[hk,hcv.1,u1])
     subst this;omega
    ·have hne:(x.fr,x.tt)≠(u.fr,u.tt):=fun e=>hk (Prod.mk.inj e).1
     obtain⟨a1,ha1,ha2⟩:=List.getElem_of_mem e3;obtain⟨a3,ha3,ha4⟩:=List.getElem_of_mem f3;rcases Nat.lt_trichotomy a1 a3 with hh | hh | hh
     ·have:=cJ.1 hpw a1 a3 ha1 ha3 hh
      rw[ha2,ha4]at this;simp only at this;omega
     ·subst hh;rw[ha2]at ha4;exact hne ha4
     ·have:=cJ.1 hpw a3 a1 ha3 ha1 hh
      rw[ha2,ha4]at this;simp only at this;omega
   rw[hrest.2 hno];refine⟨by omega,fun hn=>absurd ⟨x,by simp,hcv.1,by omega,by omega⟩ hn⟩
  ·rw[if_neg hcv]
   refine⟨by omega,fun hn=>?_⟩
   have:¬cov xs n t:=fun⟨u,hu,r⟩=>hn ⟨u,by simp[hu],r⟩
   rw[hrest.2 this];rfl
theorem lab_next {cs:List Con} {B:List Bkg} {R:List (List Sp)} {q:Rq} {l:List Lbl} (hl:LabOK (gQ cs B R q) l) {z:Lbl} (hz:z∈l) (h:¬(z.nd=q.src∧z.tm=q.rd)):∃x∈l,∃m∈movesL (gQ cs B R q) x,keyL m.1=keyL z∧m.1.tm=z.tm:=by
 rcases hl.sup z hz with⟨h1,h2,_⟩ | ⟨y,hy,m,hm,rfl,_⟩
 ·exact absurd ⟨h1,h2⟩ h
 ·exact⟨y,hy,m,hm,rfl,rfl⟩
theorem ii (g:Gp):∀(l:List Mv) (p:Int×Bool),(l.foldl (stepA g) p).2=true→(p.2=true∧(l.foldl (stepA g) p).1=p.1)∨∃m∈l,m.1.nd=g.dst∧m.1.tm=(l.foldl (stepA g) p).1
 | [],p,h=>.inl ⟨h,rfl⟩
 | m::r,p,h=>by
  rw[List.foldl_cons]at h ⊢;rcases ii g r (stepA g p m) h with⟨h1,h2⟩ | ⟨m',hm,h3⟩
  ·unfold stepA at h1 h2
   split at h1
   ·rename_i hc
    refine .inr ⟨m,by simp,hc.1,?_⟩
    unfold stepA;rw[if_pos hc]at h2 ⊢;exact h2.symm
   ·rename_i hc
    refine .inl ⟨h1,?_⟩
    unfold stepA;rw[if_neg hc]at h2 ⊢;exact h2
  ·exact .inr ⟨m',by simp[hm],h3⟩
theorem arr_next {cs:List Con} {B:List Bkg} {R:List (List Sp)} {q:Rq} {l:List Lbl} (hd0:0≤q.dst) (h:(arrL (gQ cs B R q) l).2=true):∃x∈l,∃m∈movesL (gQ cs B R q) x,keyL m.1=(q.dst,0)∧m.1.tm=(arrL (gQ cs B R q) l).1:=by
 rcases ii _ _ _ h with⟨h1,_⟩ | ⟨m,hm,h1,h2⟩
 ·cases h1
 ·obtain⟨x,hx,hm⟩:=cw.1 hm
  refine⟨x,hx,m,hm,?_,h2⟩
  obtain⟨i,c,room,b,hc,_,hroom,_,_,_,_,_,rfl⟩:=gi hm;have hcd:c.tt=q.dst:=h1;unfold roomsP at hroom;have hd:((c.tt.toNat:Nat):Int)=(gOf cs B R q.src q.dst q.sz.toNat q.rd q.D q.pr q.cu).dst:=by show((c.tt.toNat:Nat):Int)=q.dst;omega
  rw[if_pos hd]at hroom;rw[aH.1 hroom];unfold keyL;rw[hcd]
theorem BI.fin {qs:List Int} {cs:List Con} {B:List Bkg} {H:List Hld} {R:List (List Sp)} {q:Rq} {l:List Lbl} (hp:PlanOK qs cs) (hq:ReqO qs.length q) (hl:LabOK (gQ cs B R q) l) (hR:R.length=qs.length) (hH:HkOK qs H) (hRm:∀(n:Nat) v L,qs[n]? =some v→R[n]? =some L→RmS H (n:Int) v q.sz L) {hs:List Hp} {xs:List Lbl} {z:Lbl} (h:BI cs B q l hs xs z) (hne:hs≠[]) (h1:z.nd=q.src) (h2:z.tm=q.rd) (hn:hs.length≤1000):EOK qs cs q B H hs:=by
 have hz:z∈l:=by
  rcases h.tx with⟨e,_⟩ | ⟨_,r,e⟩
  ·exact absurd e hne
  ·exact h.mem z (by rw[e];simp)
 have hf:=(lab_nd hp hq hl hz).2;refine⟨hq,hne,hn,by rw[←h1,←h2];exact h.way,by rw[←h1];exact h.nd,by rw[←h2];exact h.tm hne,h.dis,fun n v hv t=>?_⟩
 rw[dJ];have hb:=hH.2.2.2 n v hv t;have hL:=h.lvl q.rd (by omega) (n:Int) t;rw[←h1];by_cases hc:cov xs (n:Int) t
 ·obtain⟨x,hx,c1,c2,c3⟩:=hc
  obtain⟨n',e1,e2,e3,_⟩:=hl.vd x (h.mem x hx);obtain rfl:n'=n:=by omega
  have hRn:R[n']? =some (R.getD n' []):=by
   have e2':n'<R.length:=e2;rw[aJ,am e2'];rfl
  have:=(hRm n' v _ hv hRn).2.1 (x.fr,x.tt) e3 t c2 c3;omega
 ·have:=hL.2 hc
  omega
end
section
open Go.Sort Go.Shelf
def revRen:Go.Shelf.Ren:=⟨fun | 35=>82 | n=>n,fun | 22=>39 | 23=>68 | n=>n,fun | n=>n⟩
theorem revLay:Go.Proofs.SlLaysE0.n35 Tryz.prog revRen:={
 mixed:=by kernel_rfl
 f35:=⟨Tryz.f82.name,by decide,Tryz.func82.trans (congrArg some (by kernel_rfl))⟩
 t0:=Tryz.underlying0
 a0:=Tryz.isAgg0
 z0:=Tryz.sizeOf0
 v0:=Tryz.zeroValue0
 t3:=bp
 a3:=Tryz.isAgg3
 z3:=Tryz.sizeOf3
 v3:=Tryz.zeroValue3
 t4:=Tryz.underlying4
 a4:=Tryz.isAgg4
 z4:=Tryz.sizeOf4
 v4:=Tryz.zeroValue4
 t22:=Tryz.underlying39
 a22:=Tryz.isAgg39
 z22:=Tryz.sizeOf39
 v22:=Tryz.zeroValue39
}
theorem mf (x:Hp):∀v∈hpC x,v.oneCell'=true:=fun v hv=>by simp[hpC]at hv;rcases hv with rfl | rfl | rfl | rfl<;>rfl
instance :Inhabited Hp:=⟨⟨0,0,0,0⟩⟩
theorem revH_any (M:List Hp) (u:Value) (base:Nat) (w:World) (ho:w.ownsRow base 68 4 u M.length (M.flatMap hpC)) (hp:0<M.length) (hl:M.length≤1000000) (hB:base≤w.heap.size):
  Calls Tryz.prog 82 #[u] w fun e w'=>e= .returned (.tuple #[])∧w'.ownsRow base 68 4 u M.length (M.reverse.flatMap hpC)∧Below base w w'∧∀q,q<w.heap.size→u.ownBlock≠some q→w'.heap[q]? =w.heap[q]?:=by
 obtain⟨g,c,rfl⟩:=fd ho hp;have R:RowK hpC 4 w g 0 M.toArray:=iL fH (by omega) mf ho;have hc:=AnyQ.slices_Reverse revLay 4 Tryz.isAgg68 Tryz.sizeOf68 hpC fH mf g 0 c M.toArray w R.hH (by simp;omega);refine Calls.mono hc ?_
 rintro e w' ⟨rfl,n,rfl⟩;have hS:SWK hpC 4 w g 0 M.toArray.reverse (putRowK hpC 4 (Sort.ahead w n) g 0 M.toArray.reverse):=⟨n,#[],by unfold sortWorldK;simp[grow]⟩
 obtain⟨k1,k2,k3⟩:=l8 fH (by omega) ho hS (by simp);refine⟨rfl,by simpa using k1,k2,fun q hq hne=>k3 q hq (fun e=>hne (by rw[e];rfl))⟩
end
section
theorem oz (qs:List Int) (cs:List Con) (B:List Bkg) (H:List Hld) (q:Rq) (uq uc ub uh:Value) (w:World) (hq:RRow intC 1 w w.heap.size uq qs) (hc:RRow conC 7 w w.heap.size uc cs) (hl:RRow bkgC 4 w w.heap.size ub B) (hh:RRow hldC 5 w w.heap.size uh H) (hp:PlanOK qs cs) (hb:BkOK cs B) (hk:HkOK qs H) (hn:¬ReqO qs.length q):
  Calls Tryz.prog 76 #[.agg #[uq,uc,ub,uh],.agg #[.int .i64 q.src,.int .i64 q.dst,.int .i64 q.sz,.int .i64 q.rd,.int .i64 q.D,.int .i64 q.pr,.bool q.cu]] w fun e w'=>e= .returned (.tuple #[.pointer none,.bool false])∧Below w.heap.size w w':=by
 have HQ:=aa hq;have HC:=aa hc;have HL:=aa hl;have HK:=aa hh;have HH:=aa (cS hp (cS hb (cS hk hn)));clear hq hc hl hh hp hb hk hn;go_enter Tryz.func76,Tryz.ntmps76
 go_upto_region 1 with fail
 obtain⟨Z,hZ⟩:=cR w.heap.size
 obtain⟨w1,hw1⟩:=cR ((w.alloc (.cells #[uq,uc,ub,uh] 44)).alloc (.cells #[.int .i64 q.src,.int .i64 q.dst,.int .i64 q.sz,.int .i64 q.rd,.int .i64 q.D,.int .i64 q.pr,.bool q.cu] 38))
 rw[hw1];have B1:Below Z w w1:=by rw[←hw1,←hZ];exact cZ
 have X0:w1.heap[Z]? =some (.cells #[uq,uc,ub,uh] 44 (0,0)):=by rw[←hw1,←hZ];exact(by repeat (first | exact cY (by first | rfl | (simp;done)) | refine(ak _ _ _ (by first | (simp;done) | (simp;omega))).trans ?_))
 have X1:w1.heap[Z+1]? =some (.cells #[.int .i64 q.src,.int .i64 q.dst,.int .i64 q.sz,.int .i64 q.rd,.int .i64 q.D,.int .i64 q.pr,.bool q.cu] 38 (0,0)):=by rw[←hw1,←hZ];exact(by repeat (first | exact cY (by first | rfl | (simp;done)) | refine(ak _ _ _ (by first | (simp;done) | (simp;omega))).trans ?_))
 have z1:Z+1<w1.heap.size:=(ai.1 X1).1;have z0:Z<w1.heap.size:=by omega
 have k0:=fun q_=>cU X0 q_
 have k1:=fun q_=>cU X1 q_
 have HZ:=aa hZ;have HX:=aa (cS B1 (cS X0 X1));rw[hZ]at HQ HC HL HK ⊢;clear hw1 B1 X0 X1 hZ;go_wp2_with fail
 refine(gJ qs cs B H uq uc _ _ w1 (HQ.out.below HX.out.1 (aj _) (by omega)) (HC.out.below HX.out.1 (aj _) (by omega)) (HL.out.below HX.out.1 (aj _) (by omega)) (HK.out.below HX.out.1 (aj _) (by omega))).mono ?_
 unfold CtPost;rintro e w2 ⟨⟨r,rfl,hr0⟩,hb2⟩;obtain rfl:r=0:=hr0.2 ⟨HH.out.1,HH.out.2.1,HH.out.2.2.1⟩;have z2:=hb2.size;have HX2:=aa (cS (HX.out.1.trans (hb2.mono (by omega))) (cS ((hb2.block _ z0).trans HX.out.2.1) ((hb2.block _ z1).trans HX.out.2.2)));have k0:=fun q_=>cU HX2.out.2.1 q_
 have k1:=fun q_=>cU HX2.out.2.2 q_
 have y0:Z<w2.heap.size:=by omega
 have y1:Z+1<w2.heap.size:=by omega
 clear hr0 hb2;go_wp2_with fail
 refine(fC qs cs uq uc q.src q.dst q.sz q.rd q.D q.pr q.cu w2 (HQ.out.below HX2.out.1 (aj _) (by omega)) (HC.out.below HX2.out.1 (aj _) (by omega))).mono ?_
 unfold CrPost;rintro e w3 ⟨⟨r,rfl,hr0,-⟩,hb3⟩;have hne:r≠0:=fun e=>HH.out.2.2.2 (hr0 e).2
 have hd:(r != 0)=true:=by simpa using hne
 have HW:Hid (Below Z w w3):=aa (HX2.out.1.trans (hb3.mono (by omega)));clear hr0 hb3 hne k0 k1;go_wp2
 refine bodyPost_ret (v:=.tuple #[.pointer none,.bool false]) (by simp[results,Tryz.results76,go_sem]) rfl ?_
 rw[HZ.out];exact⟨rfl,HW.out⟩
end
end Go.Proofs.YtfnciigbbolckaaGreat
