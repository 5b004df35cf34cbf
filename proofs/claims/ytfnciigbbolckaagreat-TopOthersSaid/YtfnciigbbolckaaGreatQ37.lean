/- Part 37 of the proof about mailboattop.TopOthers. No condition. -/
import Derived.Test.YtfnciigbbolckaaGreatQ00
import Derived.Test.YtfnciigbbolckaaGreatQ04
import Derived.Test.YtfnciigbbolckaaGreatQ07
import Derived.Test.YtfnciigbbolckaaGreatQ12
import Derived.Test.YtfnciigbbolckaaGreatQ25
import Derived.Test.YtfnciigbbolckaaGreatQ36
set_option linter.unusedVariables false
set_option linter.unusedSimpArgs false
set_option maxRecDepth 100000
set_option maxHeartbeats 64000000
namespace Go.Proofs.YtfnciigbbolckaaGreat
open Go Go.RowKit Iv
attribute [local go_sem] Oper.semAt_some
attribute [local go_sem] pw gu B_app pv B_get B_toList
section
theorem et {W:World} {g b:Nat} {c1 c2:Array Value} {T1 T2:TypeId} {f1 f2:Nat×Nat} (h1:W.heap[g]? =some (.cells c1 T1 f1)) (h2:W.heap[b]? =some (.cells c2 T2 f2)) (hT:T1≠T2):g≠b:=fun e=>by
 subst e;rw[h1]at h2;injection h2 with h2
 injection h2 with _ h3
 exact hT h3
theorem ed {W:World} {base n k b:Nat} {e:TypeId} {u:Value} {xs:List Value} (h:W.ownsRow base e k u n xs) (hb:u.ownBlock=some b):∃cs f,W.heap[b]? =some (.cells cs e f):=by
 rcases h.2 with⟨rfl,_⟩ | ⟨g',cap,cur,rfl,_,hg',_⟩
 ·cases hb
 ·have e1:g'=b:=Option.some.inj hb
  subst e1;exact⟨_,_,hg'⟩
def xC (uq uc ut:Value) (now:Int) (uv acc tk mv dr ba:Value):Array Value:=#[uq,uc,.slice none 0 0,ut,.int .i64 now,uv,acc,tk,mv,dr,ba]
def AtX (W:World) (g:Nat) (uq uc ut:Value) (now:Int) (uv acc tk mv dr ba:Value):Prop:=W.heap[g]? =some (.cells (xC uq uc ut now uv acc tk mv dr ba) 107 (0,0))
theorem qm (b:Bkg) (z g:Nat) (uq uc ut:Value) (now:Int) (uv acc tk mv dr ba:Value) (vs:List Int) (w:World) (hz:w.heap[z]? =some (.cells #[.pointer (some ⟨g,0,none⟩)] 101 (0,0))) (hg:AtX w g uq uc ut now uv acc tk mv dr ba) (hv:RRow intC 1 w w.heap.size uv vs) (hl:vs.length≤100000):
  Calls Tryz.prog 169 #[.agg #[.int .i64 b.ct,.int .i64 b.bg,.int .i64 b.en,.int .i64 b.tk],.pointer (some ⟨z,0,none⟩)] w fun e w'=>e= .returned (.bool (!kp vs now b))∧Below w.heap.size w w':=by
 unfold AtX xC at hg;have hzl:z<w.heap.size:=(ai.1 hz).1;have hgl:g<w.heap.size:=(ai.1 hg).1;have HZ:=aa hz;have HG:=aa hg;have HV:=aa hv;obtain⟨va,vc,rfl,-⟩:=hv;clear hz hg;obtain⟨p,hp⟩:=cR (vs.contains b.tk)
 obtain⟨r,hr⟩:=cR (decide (b.bg>now))
 have HP:=aa hp;have HK:Hid ((!kp vs now b)=(p&&r)):=aa (by unfold kp;rw[hp,hr,Bool.not_not]);clear hp;go_enter Tryz.func169,Tryz.ntmps169
 go_upto_region 1 with fail
 obtain⟨w1,hw1⟩:=cR (w.alloc (.cells #[.int .i64 b.ct,.int .i64 b.bg,.int .i64 b.en,.int .i64 b.tk] 53))
 rw[hw1];have HB1:Hid (Below w.heap.size w w1):=aa (by rw[←hw1];exact de (ap _ _));have X1:w1.heap[w.heap.size]? =some (.cells #[.int .i64 b.ct,.int .i64 b.bg,.int .i64 b.en,.int .i64 b.tk] 53 (0,0)):=by rw[←hw1];exact cW
 have z1:w.heap.size<w1.heap.size:=(ai.1 X1).1;have cx:=fun q=>cU X1 q
 have cz:=fun q=>cU ((HB1.out.block _ hzl).trans HZ.out) q
 have cg:=fun q=>cU ((HB1.out.block _ hgl).trans HG.out) q
 have zz:z<w1.heap.size:=by omega
 have zg:g<w1.heap.size:=by omega
 have HVD:Hid (RRow intC 1 w1.drew w1.drew.heap.size (.slice va vs.length vc) vs):=aa (HV.out.below' (bdrew HB1.out));have hdr:Below w1.heap.size w1 w1.drew:=bdrew (ap _ _);clear hw1 X1
 cases p with
 | false=>
  refine dd (fun V=>Below (w1).heap.size (w1) V) [1,0,0,1,0,1,2,0,0,1,1,0,0,1,0,0,0] [0,1,2,3,4,5,6,7,8,9,10,11,12,13,14,15,16] (by kernel_rfl) (by kernel_rfl) ?_ ?_
  case refine_1=>exact cZ
  (iterate 6 (first | (refine cX rfl (by decide) (by rfl) (fun w1 hS=>by(try(obtain⟨_,_⟩:=bcell (hS rfl)));go_simp;rfl) ?_;simp only[Act.put,ae,af,ag]) | (refine dm rfl (by decide) (by rfl) ?_;simp only[Act.put,ae,af,ag])))
  (refine dA rfl rfl (by rfl) (fun K hK=>?_);go_simp)
  refine(kB vs b.tk _ _ HVD.out hl).mono ?_
  rw[HP.out];rintro e wc10 ⟨rfl,hbc10⟩
  (refine hK _ _ (by exact cZ) ?_;clear hK K;(try simp only[Act.put,ae,af,ag]))
  (iterate 10 (first | (refine cX rfl (by decide) (by rfl) (fun w1 hS=>by(try(obtain⟨_,_⟩:=bcell (hS rfl)));go_simp;rfl) ?_;simp only[Act.put,ae,af,ag]) | (refine dm rfl (by decide) (by rfl) ?_;simp only[Act.put,ae,af,ag])))
  refine du ?_
  go_wp2
  go_ret
  rw[HK.out];exact⟨rfl,dq HB1.out (dq hdr hbc10)⟩
 | true=>
  refine dd (fun V=>Below (w1).heap.size (w1) V) [1,0,0,1,0,1,2,0,0,1,1,0,0,1,0,0,0] [0,1,2,3,4,5,6,7,8,9,10,11,12,13,14,15,16] (by kernel_rfl) (by kernel_rfl) ?_ ?_
  case refine_1=>exact cZ
  (iterate 6 (first | (refine cX rfl (by decide) (by rfl) (fun w1 hS=>by(try(obtain⟨_,_⟩:=bcell (hS rfl)));go_simp;rfl) ?_;simp only[Act.put,ae,af,ag]) | (refine dm rfl (by decide) (by rfl) ?_;simp only[Act.put,ae,af,ag])))
  (refine dA rfl rfl (by rfl) (fun K hK=>?_);go_simp)
  refine(kB vs b.tk _ _ HVD.out hl).mono ?_
  rw[HP.out];rintro e wc10 ⟨rfl,hbc10⟩
  (refine hK _ _ (by exact cZ) ?_;clear hK K;(try simp only[Act.put,ae,af,ag]))
  (iterate 10 (first | (refine cX rfl (by decide) (by rfl) (fun w1 hS=>by(try(obtain⟨_,_⟩:=bcell (hS rfl)));go_simp;rfl) ?_;simp only[Act.put,ae,af,ag]) | (refine dm rfl (by decide) (by rfl) ?_;simp only[Act.put,ae,af,ag])))
  refine du ?_
  go_wp2
  go_ret
  rw[HK.out];exact⟨by first | rfl | (rw[←hr];rfl) | (cases r<;>simp_all),dq HB1.out (dq hdr hbc10)⟩
def giveUp:Ending:=.panicked [{v:=.iface 215 (.agg #[]),recovered:=false}]
def XTPost (cs:List Con) (ts:List Tk) (vs:List Int) (now:Int) (uq uc:Value) (w:World) (e:Ending) (w':World):Prop:=
 (e=giveUp∨∃(vb vh:Value) (B:List Bkg) (H:List Hld),e= .returned (.agg #[uq,uc,vb,vh])∧((allB ts).length≤512∧(allH cs ts).length≤512)∧B.Perm ((allB ts).filter (kp vs now))∧B.Pairwise leB∧H.Perm (allH cs ts)∧H.Pairwise leH∧TabO w' w.heap.size vb vh B H)∧Below w.heap.size w w'
theorem nL (qs:List Int) (cs:List Con) (ts:List Tk) (vs:List Int) (g:Nat) (uq uc ut:Value) (now:Int) (uv acc tk mv dr ba:Value) (w:World) (hg:AtX w g uq uc ut now uv acc tk mv dr ba) (hq:∃a k c,uq= .slice a k c) (hc:RRow conC 7 w w.heap.size uc cs) (hp:PlanOK qs cs) (ht:RTks w ut ts) (hb:∀t∈ts,WOK qs cs t) (hl:ts.length≤64) (hh:LenX ts) (hv:RRow intC 1 w w.heap.size uv vs) (hvl:vs.length≤100000):
  Calls Tryz.prog 136 #[.pointer (some ⟨g,0,none⟩)] w (XTPost cs ts vs now uq uc w):=by
 have hgl:g<w.heap.size:=(ai.1 hg).1;have HG:=aa hg;have HC:=aa hc;have HT:=aa ht;have HV:=aa hv;have HP:=aa (cS hp (cS hb hh));obtain⟨aq,kq,cq,rfl⟩:=hq;obtain⟨ca,cc,rfl,-⟩:=hc;obtain⟨ps,-,⟨pa,pc,rfl,-⟩,-⟩:=ht;obtain⟨pn,hpn⟩:=cR ps.length
 rw[hpn]at HG HT;clear hg hv hp hb hh hpn;go_enter Tryz.func136,Tryz.ntmps136
 go_upto_region 1 with fail
 obtain⟨Z,hZ⟩:=cR w.heap.size
 obtain⟨w1,hw1⟩:=cR ((w.alloc (.cells #[.pointer (some ⟨g,0,none⟩)] 101)).alloc (.cells #[.slice none 0 0,.slice none 0 0,.slice none 0 0,.slice none 0 0] 44))
 rw[hw1];have B1:Below Z w w1:=by rw[←hw1,←hZ];exact cZ
 have X0:w1.heap[Z]? =some (.cells #[.pointer (some ⟨g,0,none⟩)] 101 (0,0)):=by rw[←hw1,←hZ];exact(by repeat (first | exact cY (by first | rfl | (simp;done)) | refine(ak _ _ _ (by first | (simp;done) | (simp;omega))).trans ?_))
 have X1:w1.heap[Z+1]? =some (.cells #[.slice none 0 0,.slice none 0 0,.slice none 0 0,.slice none 0 0] 44 (0,0)):=by rw[←hw1,←hZ];exact(by repeat (first | exact cY (by first | rfl | (simp;done)) | refine(ak _ _ _ (by first | (simp;done) | (simp;omega))).trans ?_))
 have z1:Z+1<w1.heap.size:=(ai.1 X1).1;have z0:Z<w1.heap.size:=by omega
 have hgZ:g<Z:=by omega
 have k0:=fun q_=>cU X0 q_
 have zg:g<w1.heap.size:=by omega
 have HG1:Hid (AtX w1 g (.slice aq kq cq) (.slice ca cs.length cc) (.slice pa pn pc) now uv acc tk mv dr ba):=aa ((B1.block _ hgZ).trans HG.out);have cg:=fun q=>cU (show w1.heap[g]? =some (.cells (xC (.slice aq kq cq) (.slice ca cs.length cc) (.slice pa pn pc) now uv acc tk mv dr ba) _ (0,0))from HG1.out) q
 simp only[xC]at cg;have HZ:=aa hZ;have HX:=aa (cS B1 (cS X0 X1));rw[hZ]at HC HV ⊢;clear hw1 B1 X0 X1 hZ;go_wp2_with fail
 refine(fq qs cs ts (.slice aq kq cq) (.slice ca cs.length cc) (.slice pa pn pc) w1 ⟨_,_,_,rfl⟩ (HC.out.below HX.out.1 (aj _) (by omega)) HP.out.1 (HT.out.below' (by rw[HZ.out];exact HX.out.1)) HP.out.2.1 hl (fun t ht=>by have:=HP.out.2.2 t ht;omega)).mono ?_
 unfold TabPost;rintro e w2 ⟨⟨vb,vh,B,H,rfl,hB1,hB2,hH1,hH2,hto⟩,hb2⟩;have z2:=hb2.size;have HB2:Hid (Below Z w w2):=aa (HX.out.1.trans (hb2.mono (by omega)));have HX2:=aa (cS ((hb2.block _ z0).trans HX.out.2.1) ((hb2.block _ z1).trans HX.out.2.2));have HTO:=aa hto;have HB12:=aa hb2;have HPM:=aa (cS hB1 (cS hB2 (cS hH1 hH2)));have y0:Z<w2.heap.size:=by omega
 have y1:Z+1<w2.heap.size:=by omega
 have y2:w1.heap.size≤w2.heap.size:=z2;obtain⟨ba_,bc,hbe⟩:=dg hto.b;subst hbe;obtain⟨ha_,hc_,hhe⟩:=dg hto.h;subst hhe;clear hb2 hto hB1 hB2 hH1 hH2 k0 cg;go_upto_region 2 with fail
 obtain⟨T,hT⟩:=cR w2.heap.size
 obtain⟨w3,hw3⟩:=cR (w2.alloc (.cells #[.slice aq kq cq,.slice ca cs.length cc,.slice ba_ B.length bc,.slice ha_ H.length hc_] 44))
 rw[hw3];have b3:Below w2.heap.size w2 w3:=by rw[←hw3];exact de (ap _ _)
 have X3:w3.heap[T]? =some (.cells #[.slice aq kq cq,.slice ca cs.length cc,.slice ba_ B.length bc,.slice ha_ H.length hc_] 44 (0,0)):=by rw[←hw3,←hT];exact cW
 have z3:T<w3.heap.size:=(ai.1 X3).1;have hTZ:Z+1<T:=by omega
 have k3:=fun q_=>cU X3 q_
 have HB3:Hid (Below w2.heap.size w2 w3):=aa b3;have HX3:=aa X3;have HT2:=aa hT;rw[hT];clear hw3 b3 X3;have e1:B.length≤9000000000000000000:=by have:=iQ HP.out.2.2;rw[HPM.out.1.length_eq];omega
 have e2:H.length≤9000000000000000000:=by have:=iR (cs:=cs) HP.out.2.2;rw[HPM.out.2.2.1.length_eq];omega
 go_wp2_with fail
 refine(mN B.length H.length (.slice aq kq cq) (.slice ca cs.length cc) ba_ ha_ bc hc_ w3 ⟨_,_,_,rfl⟩ ⟨_,_,_,rfl⟩ e1 e2).mono ?_
 rintro e w4 ⟨rfl,hb4⟩;have z4:=hb4.size;have HX4:=aa ((hb4.block _ z3).trans HX3.out);have HB4:Hid (Below w2.heap.size w2 w4):=aa (HB3.out.trans (hb4.mono (by have:=HB3.out.size;omega)));have y3:T<w4.heap.size:=by omega
 have k4:=fun q_=>cU HX4.out q_
 clear hb4 k3;by_cases hfl:B.length≤512∧H.length≤512
 case neg=>
  have d1:decide (¬(B.length≤512∧H.length≤512))=true:=decide_eq_true hfl;have HW:Hid (Below Z w w4):=aa (HB2.out.trans (HB4.out.mono (by omega)));rw[d1];clear hfl d1 k4;go_wp2
  refine⟨rfl,?_⟩
  unfold XTPost;rw[HZ.out];exact⟨.inl rfl,HW.out⟩
 have d1:decide (¬(B.length≤512∧H.length≤512))=false:=decide_eq_false (fun h=>h hfl);have HFL:=aa hfl;rw[d1];clear hfl d1;have hvk:∀W:World,w4.heap.size≤W.heap.size→(∀q,q<w4.heap.size→(Value.slice ba_ B.length bc).ownBlock≠some q→W.heap[q]? =w4.heap[q]?)→∀q,q<w1.heap.size→W.heap[q]? =w1.heap[q]?:=fun W hs hk q hq=>by
  have hne:(Value.slice ba_ B.length bc).ownBlock≠some q:=fun e=>by have:=(HTO.out.b.lt q e).1;omega
  exact(hk q (by omega) hne).trans ((HB4.out.block q (by omega)).trans (HB12.out.block q hq))
 have HPD:Hid (PredDO 169 #[.pointer (some ⟨Z,0,none⟩)] (fun b=> !kp vs now b) (.slice ba_ B.length bc) w4 B):=aa ⟨fun _ _=>by kernel_rfl,fun x W _ hs hk=>by
  have hk1:=hvk W hs hk;refine qm x Z g _ _ _ now uv acc tk mv dr ba vs W ((hk1 Z z0).trans HX.out.2.1) ((hk1 g zg).trans HG1.out) ?_ hvl
  have h0:=HV.out;rw[←HZ.out]at h0;refine h0.keepAt (by rw[HZ.out];omega) (fun hn b hb=>?_)
  have hb2:b<Z:=by rw[←HZ.out];exact h0.blk hn hb
  exact(hk1 b (by omega)).trans (HX.out.1.block b hb2)⟩
 have HVK:=aa hvk;clear hvk;have hB4:Hid (w4.ownsRow w1.heap.size 53 4 (.slice ba_ B.length bc) B.length (B.flatMap bkgC)):=aa (cV HTO.out.b (fun q hq=>HB4.out.block q (HTO.out.b.lt q hq).2));have hbT:∀q,(Value.slice ba_ B.length bc).ownBlock=some q→w1.heap.size≤q∧q<T:=fun q hq=>by rw[←HT2.out];exact HTO.out.b.lt q hq
 have HBT:=aa hbT;clear hbT;go_wp2_with fail
 refine(m9 B w1.heap.size (.slice ba_ B.length bc) 169 #[.pointer (some ⟨Z,0,none⟩)] (fun b=> !kp vs now b) w4 hB4.out HPD.out (by have:=HFL.out.1;omega) (by omega)).mono ?_
 rintro e w5 ⟨⟨v',rfl,ho5,hob⟩,hk5,hb5⟩;have hfn:(fun x=> !(fun b=> !kp vs now b) x)=kp vs now:=by funext x;simp
 rw[hfn]at ho5;obtain⟨M,hM⟩:=cR (B.filter (kp vs now))
 rw[hM]at ho5;have HM:=aa hM;obtain⟨va5,vc5,hve⟩:=dg ho5;subst hve;have z5:=hb5.size;have X5:w5.heap[T]? =some (.cells #[.slice aq kq cq,.slice ca cs.length cc,.slice ba_ B.length bc,.slice ha_ H.length hc_] 44 (0,0)):=(hk5 T y3 (fun e=>by have:=(HBT.out T e).2;omega)).trans HX4.out;have HK5:Hid (∀q,q<w1.heap.size→w5.heap[q]? =w1.heap[q]?):=aa (HVK.out w5 z5 hk5);have HOH:Hid (w5.ownsRow w1.heap.size 75 5 (.slice ha_ H.length hc_) H.length (H.flatMap hldC)):=aa (cV HTO.out.h (fun q hq=>(hk5 q (by have:=(HTO.out.h.lt q hq).2;omega) (fT HTO.out.h HTO.out.b (by decide) hq)).trans (HB4.out.block q (HTO.out.h.lt q hq).2)));have HO5:=aa ho5;have HB5:Hid (Below Z w w5):=aa ((HB2.out.trans (HB4.out.mono (by omega))).trans (hb5.mono (by omega)));have HX5:=aa X5;have k5:=fun q_=>cU X5 q_
 have f5:=fun q_=>dC X5 q_
 have y5:T<w5.heap.size:=by omega
 clear hM ho5 hob hk5 hb5 hfn X5 k4;go_upto_region 5 with fail
 obtain⟨w6,hw6⟩:=cR (w5.setCell ⟨T,2,none⟩ (.slice va5 M.length vc5))
 rw[hw6];have X6:w6.heap[T]? =some (.cells #[.slice aq kq cq,.slice ca cs.length cc,.slice va5 M.length vc5,.slice ha_ H.length hc_] 44 (0,0)):=by rw[←hw6];exact eD HX5.out 2 _
 have hne6:∀q,q≠T→w6.heap[q]? =w5.heap[q]?:=fun q h=>by rw[←hw6];exact heap_setCell_other w5 ⟨T,2,none⟩ q _ h
 have hs6:w6.heap.size=w5.heap.size:=by rw[←hw6];simp
 have XR6:w6.heap[Z+1]? =some (.cells #[.slice none 0 0,.slice none 0 0,.slice none 0 0,.slice none 0 0] 44 (0,0)):=(hne6 _ (by omega)).trans ((HK5.out _ z1).trans HX.out.2.2);have HB6:Hid (Below Z w w6):=aa (by rw[←hw6];exact bset HB5.out (by show Z≤T;omega));have HNE6:=aa (cS hne6 hs6);have HXR6:=aa XR6;have k6:=fun q_=>cU X6 q_
 have y6:T<w6.heap.size:=(ai.1 X6).1;have y61:Z+1<w6.heap.size:=by omega
 clear hw6 X6 hne6 hs6 XR6 k5 f5;go_wp2_with (refine dv rfl 44 _ _ rfl (Z+1) #[.slice aq kq cq,.slice ca cs.length cc,.slice va5 M.length vc5,.slice ha_ H.length hc_] _ 44 rfl rfl HXR6.out rfl (by kernel_rfl) (by simp[Value.oneCell']) ?_;intro wF hW hbW hsW hoW;have HBF:Hid (Below Z w wF):=aa (HB6.out.trans (hbW _ (by omega)));have HOF:=aa (cS hoW hsW);have zF:Z+1<wF.heap.size:=(ai.1 hW).1;have cF:=fun o=>cU hW o;clear hW hbW hsW hoW)
 refine bodyPost_ret (v:=.agg #[.slice aq kq cq,.slice ca cs.length cc,.slice va5 M.length vc5,.slice ha_ H.length hc_]) (by simp[results,Tryz.results136,go_sem,aP,cF,zF]) rfl ?_
 have hk1:∀q,w1.heap.size≤q→q≠T→wF.heap[q]? =w5.heap[q]?:=fun q hq hne=>(HOF.out.1 q (by omega)).trans (HNE6.out.1 q hne)
 have hvT:∀q,(Value.slice va5 M.length vc5).ownBlock=some q→q≠T:=fun q hq e=>by
  obtain⟨cs',f,h1⟩:=ed HO5.out hq;exact et h1 HX5.out (by decide) e
 have hhT:∀q,(Value.slice ha_ H.length hc_).ownBlock=some q→q≠T:=fun q hq e=>by
  have:=(HTO.out.h.lt q hq).2;have:=HT2.out;omega
 unfold XTPost;rw[HZ.out];refine⟨.inr ⟨_,_,M,H,rfl,⟨?_,?_⟩,?_,?_,HPM.out.2.2.1,HPM.out.2.2.2,⟨?_,?_⟩⟩,HBF.out⟩
 ·rw[←HPM.out.1.length_eq];exact HFL.out.1
 ·rw[←HPM.out.2.2.1.length_eq];exact HFL.out.2
 ·rw[←HM.out];exact HPM.out.1.filter _
 ·rw[←HM.out];exact HPM.out.2.1.sublist List.filter_sublist
 ·exact fw (cV HO5.out (fun q hq=>hk1 q (HO5.out.lt q hq).1 (hvT q hq))) (by omega)
 ·exact fw (cV HOH.out (fun q hq=>hk1 q (HOH.out.lt q hq).1 (hhT q hq))) (by omega)
end
section
theorem OwnT.exs {w:World} {base:Nat} {ex ex':List Nat} {u:Value} {ts:List Tk} (h:OwnT w base ex u ts) (k:∀b∈ex',b∈ex∨w.heap.size≤b):OwnT w base ex' u ts:=by
 obtain⟨ps,e,ho,hh⟩:=h;refine⟨ps,e,ho,fun p hp=>⟨(hh p hp).1,fun hn=>⟨((hh p hp).2 hn).1,fun b hb e=>?_⟩⟩⟩
 rcases k b hb with h | h
 ·exact((hh p hp).2 hn).2 b h e
 ·have:=(hh p hp).1.blk hn e
  omega
structure ExSt (z:Nat) (zo:Obj) (base g:Nat) (ex:List Nat) (uq uc:Value) (now:Int) (ts:List Tk) (vs:List Int) (ut uv acc tk mv dr ba:Value) (lim:Nat) (W:World):Prop where
 at_:AtX W g uq uc ut now uv acc tk mv dr ba
 ot:OwnT W base (g::ex) ut ts
 rv:RRow intC 1 W W.heap.size uv vs
 uvt:∀b,uv.ownBlock=some b→(∃cs f,W.heap[b]? =some (.cells cs 3 f))∧mv.ownBlock≠some b∧dr.ownBlock≠some b
 om:∃n xs,W.ownsRow base 3 1 mv n xs∧n+vs.length≤lim
 od:∃n xs,W.ownsRow base 3 1 dr n xs∧n+vs.length≤lim
 mx:∀b,mv.ownBlock=some b→b∈ex∧dr.ownBlock≠some b
 dx:∀b,dr.ownBlock=some b→b∈ex
 exb:∀b∈ex,base≤b∧b<W.heap.size
 gb:base≤g
 bs:base≤W.heap.size
 zz:W.heap[z]? =some zo
 zn:z≠g∧ut.ownBlock≠some z∧z ∉ ex
theorem ExSt.tb {z:Nat} {zo:Obj} {base g:Nat} {ex:List Nat} {uq uc:Value} {now:Int} {ts:List Tk} {vs:List Int} {ut uv acc tk mv dr ba:Value} {lim:Nat} {W:World} (h:ExSt z zo base g ex uq uc now ts vs ut uv acc tk mv dr ba lim W):∀b,ut.ownBlock=some b→base≤b∧b<W.heap.size:=by
 obtain⟨ps,e,ho,hh⟩:=h.ot
 exact fun b hb=>ho.lt b hb
theorem ExSt.below {z:Nat} {zo:Obj} {base g:Nat} {ex:List Nat} {uq uc:Value} {now:Int} {ts:List Tk} {vs:List Int} {ut uv acc tk mv dr ba:Value} {lim:Nat} {W W':World} (h:ExSt z zo base g ex uq uc now ts vs ut uv acc tk mv dr ba lim W) (k:Below W.heap.size W W'):ExSt z zo base g ex uq uc now ts vs ut uv acc tk mv dr ba lim W':=by
 obtain⟨at_,ot,rv,uvt,⟨n1,x1,om,l1⟩,⟨n2,x2,od,l2⟩,mx,dx,exb,gb,bs,zz,zn⟩:=h;have hg:=(ai.1 at_).1;refine⟨(k.block _ hg).trans at_,ot.below k,rv.below' k,fun b hb=>?_,⟨n1,x1,cV om (fun q hq=>k.block q (om.lt q hq).2),l1⟩,⟨n2,x2,cV od (fun q hq=>k.block q (od.lt q hq).2),l2⟩,mx,dx,fun b hb=>⟨(exb b hb).1,by have:=(exb b hb).2;have:=k.size;omega⟩,gb,by have:=k.size;omega,(k.block z (ai.1 zz).1).trans zz,zn⟩
 obtain⟨⟨cs,f,h1⟩,h2⟩:=uvt b hb;exact⟨⟨cs,f,(k.block _ (ai.1 h1).1).trans h1⟩,h2⟩
theorem ExSt.set {z:Nat} {zo:Obj} {base g:Nat} {ex:List Nat} {uq uc:Value} {now:Int} {ts:List Tk} {vs:List Int} {ut uv acc tk mv dr ba:Value} {lim:Nat} {W W':World} {e:Ending} {t:Tk} (h:ExSt z zo base g ex uq uc now ts vs ut uv acc tk mv dr ba lim W) (k:SetPost ts t base g ex 107 (xC uq uc ut now uv acc tk mv dr ba) ut W e W'):e= .returned (.tuple #[])∧(∃ut',ExSt z zo base g ex uq uc now (setS ts t) vs ut' uv acc tk mv dr ba lim W'∧(ut'.ownBlock=ut.ownBlock∨∀b,ut'.ownBlock=some b→W.heap.size≤b))∧Below base W W'∧KpO g ut.ownBlock W W':=by
 have htb:=h.tb;obtain⟨at_,ot,rv,uvt,⟨n1,x1,om,l1⟩,⟨n2,x2,od,l2⟩,mx,dx,exb,gb,bs,zz,zn⟩:=h;obtain⟨he,⟨ut',hg,ho,hat⟩,hk⟩:=k;have kb:∀(b:Nat) (cs:Array Value) (f:Nat×Nat),W.heap[b]? =some (.cells cs 3 f)→W'.heap[b]? =W.heap[b]?:=fun b cs f hb=>hk.block b (ai.1 hb).1 (et hb at_ (by decide)) (ot.ne hb (by decide))
 have ko:∀{v:Value} {n:Nat} {xs:List Value},W.ownsRow base 3 1 v n xs→W'.ownsRow base 3 1 v n xs:=fun hv=>cV hv (fun q hq=>by
  obtain⟨cs,f,h⟩:=ed hv hq;exact kb q cs f h)
 refine⟨he,⟨ut',⟨hg,ho,rv.keepAt hk.size (fun _ b hb=>?_),fun b hb=>?_,⟨n1,x1,ko om,l1⟩,⟨n2,x2,ko od,l2⟩,mx,dx,fun b hb=>⟨(exb b hb).1,by have:=(exb b hb).2;have:=hk.size;omega⟩,gb,by have:=hk.size;omega,(hk.block z (ai.1 zz).1 zn.1 zn.2.1).trans zz,⟨zn.1,fun e=>by
  rcases hat with h | h
  ·exact zn.2.1 (by rw[←h];exact e)
  ·have:=h z e;have:=(ai.1 zz).1;omega,zn.2.2⟩⟩,hat⟩,hk.below gb (fun q hq=>(htb q hq).1) bs,hk⟩
 ·obtain⟨⟨cs,f,h1⟩,_⟩:=uvt b hb
  exact kb b cs f h1
 ·obtain⟨⟨cs,f,h1⟩,h2⟩:=uvt b hb
  exact⟨⟨cs,f,(kb b cs f h1).trans h1⟩,h2⟩
theorem OwnT.keepY {w w':World} {base:Nat} {ex:List Nat} {u:Value} {ts:List Tk} (h:OwnT w base ex u ts) (hs:w.heap.size≤w'.heap.size) (Y:List Nat) (hY:∀b∈Y,b∈ex) (hx:∀b,u.ownBlock=some b→b ∉ Y) (k:∀q,q<w.heap.size→q ∉ Y→w'.heap[q]? =w.heap[q]?):OwnT w' base ex u ts:=by
 obtain⟨ps,e,ho,hh⟩:=h;exact⟨ps,e,cV ho (fun q hq=>k q (ho.lt q hq).2 (hx q hq)),fun p hp=>⟨(hh p hp).1.keepAt hs (fun hn b hb=>k b ((hh p hp).1.blk hn hb) (fun hbx=>((hh p hp).2 hn).2 b (hY b hbx) hb)),(hh p hp).2⟩⟩
theorem ExSt.pop {z:Nat} {zo:Obj} {base g:Nat} {ex:List Nat} {uq uc:Value} {now:Int} {ts:List Tk} {v:Int} {vs:List Int} {ut uv' acc tk mv dr ba:Value} {lim:Nat} {a:Option Addr} {m c:Nat} {W:World} (h:ExSt z zo base g ex uq uc now ts (v::vs) ut (.slice a m c) acc tk mv dr ba (lim+1) W) (he:uv'= .slice (dropA a c 1 1) (m-1) (c-1)):ExSt z zo base g ex uq uc now ts vs ut uv' acc tk mv dr ba lim (W.setCell ⟨g,5,none⟩ uv'):=by
 obtain⟨at_,ot,rv,uvt,⟨n1,x1,om,l1⟩,⟨n2,x2,od,l2⟩,mx,dx,exb,gb,bs,zz,zn⟩:=h;have hne:∀q,q≠g→(W.setCell ⟨g,5,none⟩ uv').heap[q]? =W.heap[q]?:=fun q hq=>heap_setCell_other W ⟨g,5,none⟩ q _ hq
 have hsz:(W.setCell ⟨g,5,none⟩ uv').heap.size=W.heap.size:=by simp
 have ko:∀{v:Value} {n:Nat} {xs:List Value},W.ownsRow base 3 1 v n xs→(W.setCell ⟨g,5,none⟩ uv').ownsRow base 3 1 v n xs:=fun hv=>cV hv (fun q hq=>by
  obtain⟨cs,f,h⟩:=ed hv hq;exact hne q (et h at_ (by decide)))
 have hob:∀b,uv'.ownBlock=some b→(Value.slice a m c).ownBlock=some b:=fun b hb=>by
  rw[he]at hb;unfold dropA at hb
  cases a with
  | none=>split at hb<;>cases hb
  | some x=>split at hb<;>exact hb
 have hr2:RRow intC 1 W W.heap.size uv' vs:=by rw[he];exact rv.drop 1 (by simp)
 refine⟨eD at_ 5 _,ot.keepY (by rw[hsz];exact aj _) [g] (by simp) (fun b hb hx=>?_) (fun q _ hx=>hne q (fun e=>hx (by simp[e]))),hr2.keepAt (by rw[hsz];exact aj _) (fun _ b hb=>?_),fun b hb=>?_,⟨n1,x1,ko om,by simp at l1;omega⟩,⟨n2,x2,ko od,by simp at l2;omega⟩,mx,dx,by rw[hsz];exact exb,gb,by rw[hsz];exact bs,(hne z zn.1).trans zz,zn⟩
 ·rw[aH.1 hx]at hb
  exact ot.ne at_ (by decide) hb
 ·obtain⟨⟨cs,f,h1⟩,_⟩:=uvt b (hob b hb)
  exact hne b (et h1 at_ (by decide))
 ·obtain⟨⟨cs,f,h1⟩,h2⟩:=uvt b (hob b hb)
  exact⟨⟨cs,f,(hne b (et h1 at_ (by decide))).trans h1⟩,h2⟩
theorem ExSt.pushM {z:Nat} {zo:Obj} {base g:Nat} {ex:List Nat} {uq uc:Value} {now:Int} {ts:List Tk} {vs:List Int} {ut uv acc tk mv mv' dr ba:Value} {lim:Nat} {W W':World} {n n':Nat} {xs ys:List Value} (h:ExSt z zo base g ex uq uc now ts vs ut uv acc tk mv dr ba lim W) (om:W.ownsRow base 3 1 mv n xs) (hl:n'+vs.length≤lim+1) (hk:KpO g mv.ownBlock W W') (at2:AtX W' g uq uc ut now uv acc tk mv' dr ba) (ho:W'.ownsRow base 3 1 mv' n' ys) (hf:mv'.ownBlock=mv.ownBlock∨∀b,mv'.ownBlock=some b→W.heap.size≤b):ExSt z zo base g (mv'.ownBlock.toList++ex) uq uc now ts vs ut uv acc tk mv' dr ba (lim+1) W'∧Below base W W':=by
 obtain⟨at_,ot,rv,uvt,-,⟨n2,x2,od,l2⟩,mx,dx,exb,gb,bs,zz,zn⟩:=h;have ot2:OwnT W base (g::(mv'.ownBlock.toList++ex)) ut ts:=ot.exs (fun b hb=>by
  rcases aG.1 hb with rfl | hb
  ·exact .inl (by simp)
  ·rcases aA.1 hb with hb | hb
   ·have hb:=bK.1 hb
    rcases hf with hf | hf
    ·exact .inl (by have:=(mx b (by rw[←hf];exact hb)).1;simp[this])
    ·exact .inr (hf b hb)
   ·exact .inl (by simp[hb]))
 have hs:=hk.size;have zl:=(ai.1 zz).1;refine⟨⟨at2,ot2.keepY hs (g::mv.ownBlock.toList) (fun b hb=>?_) (fun b hb hx=>?_) (fun q hq hx=>hk.block q hq (fun e=>hx (by simp[e])) (fun e=>hx (by simp[e]))),rv.keepAt hs (fun _ b hb=>?_),fun b hb=>?_,⟨n',ys,ho,hl⟩,⟨n2,x2,cV od (fun q hq=>?_),by omega⟩,fun b hb=>?_,fun b hb=>by have:=dx b hb;simp[this],fun b hb=>?_,gb,by omega,(hk.block z zl zn.1 (fun e=>zn.2.2 (mx z e).1)).trans zz,⟨zn.1,zn.2.1,fun hm=>by
  rcases aA.1 hm with hm | hm
  ·have hm:=bK.1 hm
   rcases hf with hf | hf
   ·exact zn.2.2 (mx z (by rw[←hf];exact hm)).1
   ·have:=hf z hm;omega
  ·exact zn.2.2 hm⟩⟩,hk.below gb (fun q hq=>(om.lt q hq).1) bs⟩
 ·rcases aG.1 hb with rfl | hb
  ·simp
  ·have:=(mx b (bK.1 hb)).1
   simp[this]
 ·rcases aG.1 hx with rfl | hx
  ·exact ot.ne at_ (by decide) hb
  ·obtain⟨cs,f,h1⟩:=ed om (bK.1 hx)
   exact ot.ne h1 (by decide) hb
 ·obtain⟨⟨cs,f,h1⟩,h2,h3⟩:=uvt b hb
  exact hk.block b (ai.1 h1).1 (et h1 at_ (by decide)) h2
 ·obtain⟨⟨cs,f,h1⟩,h2,h3⟩:=uvt b hb
  have hlt:=(ai.1 h1).1;refine⟨⟨cs,f,(hk.block b hlt (et h1 at_ (by decide)) h2).trans h1⟩,fun e=>?_,h3⟩
  rcases hf with hf | hf
  ·exact h2 (by rw[←hf];exact e)
  ·have:=hf b e;omega
 ·obtain⟨cs,f,h1⟩:=ed od hq
  exact hk.block q (od.lt q hq).2 (et h1 at_ (by decide)) (fun e=>(mx q e).2 hq)
 ·refine⟨by simp[hb],fun e=>?_⟩
  rcases hf with hf | hf
  ·exact(mx b (by rw[←hf];exact hb)).2 e
  ·have:=hf b hb;have:=(od.lt b e).2;omega
 ·rcases aA.1 hb with hb | hb
  ·exact ho.lt b (bK.1 hb)
  ·exact⟨(exb b hb).1,by have:=(exb b hb).2;omega⟩
theorem ExSt.pushD {z:Nat} {zo:Obj} {base g:Nat} {ex:List Nat} {uq uc:Value} {now:Int} {ts:List Tk} {vs:List Int} {ut uv acc tk mv dr dr' ba:Value} {lim:Nat} {W W':World} {n n':Nat} {xs ys:List Value} (h:ExSt z zo base g ex uq uc now ts vs ut uv acc tk mv dr ba lim W) (od:W.ownsRow base 3 1 dr n xs) (hl:n'+vs.length≤lim+1) (hk:KpO g dr.ownBlock W W') (at2:AtX W' g uq uc ut now uv acc tk mv dr' ba) (ho:W'.ownsRow base 3 1 dr' n' ys) (hf:dr'.ownBlock=dr.ownBlock∨∀b,dr'.ownBlock=some b→W.heap.size≤b):ExSt z zo base g (dr'.ownBlock.toList++ex) uq uc now ts vs ut uv acc tk mv dr' ba (lim+1) W'∧Below base W W':=by
 obtain⟨at_,ot,rv,uvt,⟨n1,x1,om,l1⟩,-,mx,dx,exb,gb,bs,zz,zn⟩:=h;have ot2:OwnT W base (g::(dr'.ownBlock.toList++ex)) ut ts:=ot.exs (fun b hb=>by
  rcases aG.1 hb with rfl | hb
  ·exact .inl (by simp)
  ·rcases aA.1 hb with hb | hb
   ·have hb:=bK.1 hb
    rcases hf with hf | hf
    ·exact .inl (by have:=dx b (by rw[←hf];exact hb);simp[this])
    ·exact .inr (hf b hb)
   ·exact .inl (by simp[hb]))
 have hs:=hk.size;have zl:=(ai.1 zz).1;refine⟨⟨at2,ot2.keepY hs (g::dr.ownBlock.toList) (fun b hb=>?_) (fun b hb hx=>?_) (fun q hq hx=>hk.block q hq (fun e=>hx (by simp[e])) (fun e=>hx (by simp[e]))),rv.keepAt hs (fun _ b hb=>?_),fun b hb=>?_,⟨n1,x1,cV om (fun q hq=>?_),by omega⟩,⟨n',ys,ho,hl⟩,fun b hb=>?_,fun b hb=>by simp[hb],fun b hb=>?_,gb,by omega,(hk.block z zl zn.1 (fun e=>zn.2.2 (dx z e))).trans zz,⟨zn.1,zn.2.1,fun hm=>by
  rcases aA.1 hm with hm | hm
  ·have hm:=bK.1 hm
   rcases hf with hf | hf
   ·exact zn.2.2 (dx z (by rw[←hf];exact hm))
   ·have:=hf z hm;omega
  ·exact zn.2.2 hm⟩⟩,hk.below gb (fun q hq=>(od.lt q hq).1) bs⟩
 ·rcases aG.1 hb with rfl | hb
  ·simp
  ·have:=dx b (bK.1 hb)
   simp[this]
 ·rcases aG.1 hx with rfl | hx
  ·exact ot.ne at_ (by decide) hb
  ·obtain⟨cs,f,h1⟩:=ed od (bK.1 hx)
   exact ot.ne h1 (by decide) hb
 ·obtain⟨⟨cs,f,h1⟩,h2,h3⟩:=uvt b hb
  exact hk.block b (ai.1 h1).1 (et h1 at_ (by decide)) h3
 ·obtain⟨⟨cs,f,h1⟩,h2,h3⟩:=uvt b hb
  have hlt:=(ai.1 h1).1;refine⟨⟨cs,f,(hk.block b hlt (et h1 at_ (by decide)) h3).trans h1⟩,h2,fun e=>?_⟩
  rcases hf with hf | hf
  ·exact h3 (by rw[←hf];exact e)
  ·have:=hf b e;omega
 ·obtain⟨cs,f,h1⟩:=ed om hq
  exact hk.block q (om.lt q hq).2 (et h1 at_ (by decide)) (fun e=>(mx q hq).2 e)
 ·obtain⟨h1,h2⟩:=mx b hb
  refine⟨by simp[h1],fun e=>?_⟩
  rcases hf with hf | hf
  ·exact h2 (by rw[←hf];exact e)
  ·have:=hf b e;have:=(om.lt b hb).2;omega
 ·rcases aA.1 hb with hb | hb
  ·exact ho.lt b (bK.1 hb)
  ·exact⟨(exb b hb).1,by have:=(exb b hb).2;omega⟩
theorem ExSt.sepn {z:Nat} {zo:Obj} {base g:Nat} {ex:List Nat} {uq uc:Value} {now:Int} {ts:List Tk} {vs:List Int} {ut uv acc tk mv dr ba:Value} {lim:Nat} {W:World} (h:ExSt z zo base g ex uq uc now ts vs ut uv acc tk mv dr ba lim W) {u:Value} (hf:∀b,u.ownBlock=some b→W.heap.size≤b):(∀b,ut.ownBlock=some b→u.ownBlock≠some b)∧∀b∈g::ex,u.ownBlock≠some b:=by
 refine⟨fun b hb e=>?_,fun b hb e=>?_⟩
 ·have h1:=(h.tb b hb).2
  have h2:=hf b e;omega
 ·have h2:=hf b e
  rcases aG.1 hb with rfl | hb
  ·have:=(ai.1 h.at_).1
   omega
  ·have:=(h.exb b hb).2
   omega
theorem ExSt.pushV {z:Nat} {zo:Obj} {base g:Nat} {ex:List Nat} {uq uc:Value} {now:Int} {ts:List Tk} {vs vs':List Int} {ut uv uv' acc tk mv dr ba:Value} {lim:Nat} {W W':World} {n n':Nat} {xs ys:List Value} (h:ExSt z zo base g ex uq uc now ts vs ut uv acc tk mv dr ba lim W) (ov:W.ownsRow base 3 1 uv n xs) (hvx:∀b,uv.ownBlock=some b→b∈ex) (hl:vs'.length≤vs.length+1) (hk:KpO g uv.ownBlock W W') (at2:AtX W' g uq uc ut now uv' acc tk mv dr ba) (ho:W'.ownsRow base 3 1 uv' n' ys) (hr:RRow intC 1 W' W'.heap.size uv' vs') (hf:uv'.ownBlock=uv.ownBlock∨∀b,uv'.ownBlock=some b→W.heap.size≤b):ExSt z zo base g (uv'.ownBlock.toList++ex) uq uc now ts vs' ut uv' acc tk mv dr ba (lim+1) W'∧Below base W W':=by
 obtain⟨at_,ot,rv,uvt,⟨n1,x1,om,l1⟩,⟨n2,x2,od,l2⟩,mx,dx,exb,gb,bs,zz,zn⟩:=h;have ot2:OwnT W base (g::(uv'.ownBlock.toList++ex)) ut ts:=ot.exs (fun b hb=>by
  rcases aG.1 hb with rfl | hb
  ·exact .inl (by simp)
  ·rcases aA.1 hb with hb | hb
   ·have hb:=bK.1 hb
    rcases hf with hf | hf
    ·exact .inl (by have:=hvx b (by rw[←hf];exact hb);simp[this])
    ·exact .inr (hf b hb)
   ·exact .inl (by simp[hb]))
 have hs:=hk.size;have zl:=(ai.1 zz).1;have hmu:∀b,mv.ownBlock=some b→uv.ownBlock≠some b:=fun b hb e=>(uvt b e).2.1 hb
 have hdu:∀b,dr.ownBlock=some b→uv.ownBlock≠some b:=fun b hb e=>(uvt b e).2.2 hb
 refine⟨⟨at2,ot2.keepY hs (g::uv.ownBlock.toList) (fun b hb=>?_) (fun b hb hx=>?_) (fun q hq hx=>hk.block q hq (fun e=>hx (by simp[e])) (fun e=>hx (by simp[e]))),hr,fun b hb=>⟨ed ho hb,fun e=>?_,fun e=>?_⟩,⟨n1,x1,cV om (fun q hq=>?_),by omega⟩,⟨n2,x2,cV od (fun q hq=>?_),by omega⟩,fun b hb=>?_,fun b hb=>by have:=dx b hb;simp[this],fun b hb=>?_,gb,by omega,(hk.block z zl zn.1 (fun e=>zn.2.2 (hvx z e))).trans zz,⟨zn.1,zn.2.1,fun hm=>?_⟩⟩,hk.below gb (fun q hq=>(ov.lt q hq).1) bs⟩
 ·rcases aG.1 hb with rfl | hb
  ·simp
  ·have:=hvx b (bK.1 hb)
   simp[this]
 ·rcases aG.1 hx with rfl | hx
  ·exact ot.ne at_ (by decide) hb
  ·obtain⟨cs,f,h1⟩:=ed ov (bK.1 hx)
   exact ot.ne h1 (by decide) hb
 ·rcases hf with hf | hf
  ·exact hmu b e (by rw[←hf];exact hb)
  ·have:=hf b hb;have:=(om.lt b e).2;omega
 ·rcases hf with hf | hf
  ·exact hdu b e (by rw[←hf];exact hb)
  ·have:=hf b hb;have:=(od.lt b e).2;omega
 ·obtain⟨cs,f,h1⟩:=ed om hq
  exact hk.block q (om.lt q hq).2 (et h1 at_ (by decide)) (hmu q hq)
 ·obtain⟨cs,f,h1⟩:=ed od hq
  exact hk.block q (od.lt q hq).2 (et h1 at_ (by decide)) (hdu q hq)
 ·obtain⟨h1,h2⟩:=mx b hb
  exact⟨by simp[h1],h2⟩
 ·rcases aA.1 hb with hb | hb
  ·exact ho.lt b (bK.1 hb)
  ·exact⟨(exb b hb).1,by have:=(exb b hb).2;omega⟩
 ·rcases aA.1 hm with hm | hm
  ·have hm:=bK.1 hm
   rcases hf with hf | hf
   ·exact zn.2.2 (hvx z (by rw[←hf];exact hm))
   ·have:=hf z hm;omega
  ·exact zn.2.2 hm
theorem ExSt.say {z:Nat} {zo:Obj} {base g:Nat} {ex:List Nat} {uq uc:Value} {now:Int} {ts:List Tk} {vs:List Int} {ut uv acc acc' tk tk' mv dr ba:Value} {lim:Nat} {W:World} (h:ExSt z zo base g ex uq uc now ts vs ut uv acc tk mv dr ba lim W):ExSt z zo base g ex uq uc now ts vs ut uv acc' tk' mv dr ba lim ((W.setCell ⟨g,6,none⟩ acc').setCell ⟨g,7,none⟩ tk'):=by
 obtain⟨at_,ot,rv,uvt,⟨n1,x1,om,l1⟩,⟨n2,x2,od,l2⟩,mx,dx,exb,gb,bs,zz,zn⟩:=h;obtain⟨W',hW⟩:∃V,(W.setCell ⟨g,6,none⟩ acc').setCell ⟨g,7,none⟩ tk'=V:=⟨_,rfl⟩
 have hne:∀q,q≠g→W'.heap[q]? =W.heap[q]?:=fun q hq=>by rw[←hW];exact(heap_setCell_other _ ⟨g,7,none⟩ q _ hq).trans (heap_setCell_other W ⟨g,6,none⟩ q _ hq)
 have hsz:W'.heap.size=W.heap.size:=by rw[←hW];simp
 have ha:AtX W' g uq uc ut now uv acc' tk' mv dr ba:=by rw[←hW];exact eD (eD at_ 6 _) 7 _
 rw[hW];have ko:∀{v:Value} {n:Nat} {xs:List Value},W.ownsRow base 3 1 v n xs→W'.ownsRow base 3 1 v n xs:=fun hv=>cV hv (fun q hq=>by
  obtain⟨cs,f,h⟩:=ed hv hq;exact hne q (et h at_ (by decide)))
 refine⟨ha,ot.keepY (by rw[hsz];exact aj _) [g] (by simp) (fun b hb hx=>?_) (fun q _ hx=>hne q (fun e=>hx (by simp[e]))),rv.keepAt (by rw[hsz];exact aj _) (fun _ b hb=>?_),fun b hb=>?_,⟨n1,x1,ko om,l1⟩,⟨n2,x2,ko od,l2⟩,mx,dx,by rw[hsz];exact exb,gb,by rw[hsz];exact bs,(hne z zn.1).trans zz,zn⟩
 ·rw[aH.1 hx]at hb
  exact ot.ne at_ (by decide) hb
 ·obtain⟨⟨cs,f,h1⟩,_⟩:=uvt b hb
  exact hne b (et h1 at_ (by decide))
 ·obtain⟨⟨cs,f,h1⟩,h2⟩:=uvt b hb
  exact⟨⟨cs,f,(hne b (et h1 at_ (by decide))).trans h1⟩,h2⟩
end
section
section
variable {P:Program} {ops:Array Oper} {Q:Exit→Act→World→Prop} {md:Region.Mode} {S:World→Prop} {kd:List Nat}
theorem eQ (hB:lateB md ops kd=true) (hB2:smallB kd=true) (hsel:Region.noSelect ops=true) (hQ:∀c (a:Act) w d v,Q (.panic c) (a.put d v) w→Q (.panic c) a w):
  ∀(l:List Nat) (listed:Array Bool) (a:Act) (w:World),Closed md ops listed→planB md ops kd l listed=true→(Live kd listed→S w)→wpPlan P ops Q S kd l a w→wpAnyM P md ops Q S kd l.length listed a w
 | [],listed,a,w,_,hp,_,h=>⟨by simpa [planB]using hp,h⟩
 | i::r,listed,a,w,hc,hp,hS,h=>by
  simp only[planB,aQ]at hp;unfold wpPlan at h
  cases ho:ops[i]? with
  | none=>rw[ho]at h;exact h.elim
  | some o=>
   rw[ho]at h;simp only at h;by_cases hk:kd.getD i 2≤1
   ·rw[if_pos hk]at hp h
    obtain⟨v,hy,h'⟩:=h;have hr:i∈Region.ready md ops listed:=by have:=hp.1;simp only[aQ]at this;simpa using this.1
    have hf:Region.free md ops listed i=true:=by have:=hp.1;simp only[aQ]at this;exact this.2
    refine gk hB hB2 ho hk (Region.noSelect_spec hsel) (fun c a w=>hQ c a w _ _) r.length listed a w hc (Region.free_spec ho hf) hr hy hS ?_
    exact eQ hB hB2 hsel hQ r _ _ _ (hc.set hr) hp.2 (fun hl=>hS (gw hl)) h'
   ·rw[if_neg hk]at hp h
    have hr:Region.ready md ops listed=[i]:=by simpa using hp.1
    have hri:i∈Region.ready md ops listed:=by rw[hr];simp
    refine⟨fun h0=>(by rw[hr]at h0;cases h0),fun j hj=>?_⟩
    have hji:j=i:=by rw[hr]at hj;simpa using hj
    subst hji;by_cases hk2:kd.getD j 2=2
    ·rw[if_pos hk2]at h
     refine wpOp_mono (fun a' w' h'=>?_) h
     have ht:Turns kd S j w w':=⟨fun h1=>absurd h1 hk,fun _=>h'.1⟩
     exact⟨ht,eQ hB hB2 hsel hQ r _ _ _ (hc.set hri) hp.2 (dU hB hc hri hS ht (dQ hB2 j)) h'.2⟩
    ·rw[if_neg hk2]at h
     refine wpOp_mono (fun a' w' h'=>?_) h
     have ht:Turns kd S j w w':=⟨fun h1=>absurd h1 hk,fun h2=>absurd h2 hk2⟩
     exact⟨ht,eQ hB hB2 hsel hQ r _ _ _ (hc.set hri) hp.2 (dU hB hc hri hS ht (dQ hB2 j)) h'⟩
def Lively (ds:List Deferred) (D:List PanicEntry→World→Prop) (Q:Exit→Act→World→Prop):Exit→Act→World→Prop
 | .panic c,a,w=>a.defers=ds∧D c w
 | e,a,w=>Q e a w
theorem jH {id:Nat} {a:Act} {w:World} (ds:List Deferred) (D:List PanicEntry→World→Prop) (hD:∀c (a:Act) w,a.defers=ds→D c w→Q (.panic c) a w) (S:World→Prop) (kd l:List Nat) (hm:P.follows .mixedOrders=true) (hB:planAllB .any ops kd l=true)
  (hS:S w.drew) (h:wpPlan P ops (Lively ds D Q) S kd l a w.drew):(Code.region id ops true).wp P Q a w:=by
 simp only[planAllB,aQ,decide_eq_true_eq]at hB;obtain⟨⟨⟨⟨h1,h2⟩,h3⟩,h4⟩,h5⟩:=hB;have himp:∀(e:Exit) (a:Act) (w:World),Lively ds D Q e a w→Q e a w:=fun e a w h=>by
  cases e with
  | panic c=>exact hD c a w h.1 h.2
  | _=>exact h
 refine Code.wp_mono himp (wp_region_any hm (gj (S:=S) (kd:=kd) _ _ _ _ ?_))
 rw[←h4];refine eQ h1 h2 h3 (fun c a w d v h=>?_) l _ a _ (fun j oj _ hl=>?_) (by rw[h4];exact h5) (fun _=>hS) h
 ·refine⟨?_,h.2⟩
  have:=h.1
  cases d<;>exact this
 ·rw[getD_replicate_false]at hl;cases hl
theorem oA {ds:List Deferred} {D:List PanicEntry→World→Prop} {a:Act} {w:World} (h:Q .normal a w):wpPlan P ops (Lively ds D Q) S kd [] a w:=h
end
end
end Go.Proofs.YtfnciigbbolckaaGreat
