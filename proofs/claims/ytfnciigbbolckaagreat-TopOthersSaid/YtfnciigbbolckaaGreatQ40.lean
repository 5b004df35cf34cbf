/- Part 40 of the proof about mailboattop.TopOthers. No condition. -/
import Derived.Test.YtfnciigbbolckaaGreatQ00
import Derived.Test.YtfnciigbbolckaaGreatQ06
import Derived.Test.YtfnciigbbolckaaGreatQ07
import Derived.Test.YtfnciigbbolckaaGreatQ24
import Derived.Test.YtfnciigbbolckaaGreatQ25
import Derived.Test.YtfnciigbbolckaaGreatQ27
import Derived.Test.YtfnciigbbolckaaGreatQ31
import Derived.Test.YtfnciigbbolckaaGreatQ36
import Derived.Test.YtfnciigbbolckaaGreatQ37
import Derived.Test.YtfnciigbbolckaaGreatQ39
set_option linter.unusedVariables false
set_option linter.unusedSimpArgs false
set_option maxRecDepth 100000
set_option maxHeartbeats 64000000
namespace Go.Proofs.YtfnciigbbolckaaGreat
open Go Go.RowKit Iv
attribute [local go_sem] Oper.semAt_some
attribute [local go_sem] pw gu B_app pv B_get B_toList
section
def TryPost (qs:List Int) (cs:List Con) (uq uc:Value) (now no:Int) (w:World) (e:Ending) (w':World):Prop:=
 (∃(p:Value) (d:Bool),e= .returned (.tuple #[p,.bool d])∧(d=true→∃g ts ut uv mv dr,p= .pointer (some ⟨g,0,none⟩)∧AtX w' g uq uc ut now uv (.bool true) (.int .i64 no) mv dr (.slice none 0 0)∧RTks w' ut ts∧LedOK qs cs ts∧(∃a n c,mv= .slice a n c)∧∃a n c,dr= .slice a n c))∧Below w.heap.size w w'
theorem try_any (qs:List Int) (cs:List Con) (ts:List Tk) (q:Rq) (hsP:List Hp) (uq uc ut up:Value) (now:Int) (w:World) (hq:RRow intC 1 w w.heap.size uq qs) (hc:RRow conC 7 w w.heap.size uc cs) (ht:RTks w ut ts) (hP:RHops w up hsP) (hPl:hsP.length≤100000) (hL:LedOK qs cs ts) (hl:ts.length<64) (hcr:∀t,ts.getLast? =some t→t.no<1152921504606846976) (hn:0≤now∧now≤1099511627776):
  Calls Tryz.prog 41 #[.agg #[uq,uc,.slice none 0 0,ut],.agg #[.int .i64 q.src,.int .i64 q.dst,.int .i64 q.sz,.int .i64 q.rd,.int .i64 q.D,.int .i64 q.pr,.bool q.cu],up,.int .i64 now] w (TryPost qs cs uq uc now (nextS ts) w):=by
 have hmf:∀(fn:Fn) (first cap:Array Value) (w:World),(Instr.makeFunc fn first cap).run Tryz.prog w= .ok (.func fn first cap) w:=fun _ _ _ _=>rfl
 have HQ:=aa hq;have HC:=aa hc;have HT:=aa ht;have HP:Hid (RRow hpC 4 w w.heap.size up hsP):=aa hP;have HL:=aa (cS hL (cS hl (cS hcr hn)));obtain⟨aq,cq,rfl,-⟩:=hq;obtain⟨ca,cc,rfl,-⟩:=hc;obtain⟨pa',pc',rfl,-⟩:=hP;obtain⟨ps,-,⟨pa,pc,rfl,-⟩,-⟩:=ht;obtain⟨pn,hpn⟩:=cR ps.length
 rw[hpn]at HT;rw[hpn];clear hL hcr hn hpn;go_enter Tryz.func41,Tryz.ntmps41
 go_upto_region 1 with fail
 obtain⟨Z,hZ⟩:=cR w.heap.size
 obtain⟨w1,hw1⟩:=cR (((w.alloc (.cells #[.slice aq qs.length cq,.slice ca cs.length cc,.slice none 0 0,.slice pa pn pc] 36)).alloc (.cells #[.int .i64 q.src,.int .i64 q.dst,.int .i64 q.sz,.int .i64 q.rd,.int .i64 q.D,.int .i64 q.pr,.bool q.cu] 38)).alloc (.cells #[.int .i64 now] 3))
 rw[hw1];have B1:Below Z w w1:=by rw[←hw1,←hZ];exact cZ
 have X0:w1.heap[Z]? =some (.cells #[.slice aq qs.length cq,.slice ca cs.length cc,.slice none 0 0,.slice pa pn pc] 36 (0,0)):=by rw[←hw1,←hZ];exact(by repeat (first | exact cY (by first | rfl | (simp;done)) | refine(ak _ _ _ (by first | (simp;done) | (simp;omega))).trans ?_))
 have X1:w1.heap[Z+1]? =some (.cells #[.int .i64 q.src,.int .i64 q.dst,.int .i64 q.sz,.int .i64 q.rd,.int .i64 q.D,.int .i64 q.pr,.bool q.cu] 38 (0,0)):=by rw[←hw1,←hZ];exact(by repeat (first | exact cY (by first | rfl | (simp;done)) | refine(ak _ _ _ (by first | (simp;done) | (simp;omega))).trans ?_))
 have X2:w1.heap[Z+1+1]? =some (.cells #[.int .i64 now] 3 (0,0)):=by rw[←hw1,←hZ];exact(by repeat (first | exact cY (by first | rfl | (simp;done)) | refine(ak _ _ _ (by first | (simp;done) | (simp;omega))).trans ?_))
 have z1:Z+1+1<w1.heap.size:=(ai.1 X2).1;have z0:Z<w1.heap.size:=by omega
 have k0:=fun q_=>cU X0 q_
 have HX:=aa (cS B1 (cS X0 (cS X1 X2)));have HZ:=aa hZ;rw[hZ]at HQ HC HP ⊢;clear hw1 B1 X0 X1 X2 hZ;go_wp2_with fail
 refine(fq qs cs ts (.slice aq qs.length cq) (.slice ca cs.length cc) (.slice pa pn pc) w1 ⟨_,_,_,rfl⟩ (HC.out.below HX.out.1 (aj _) (by omega)) HL.out.1.pl (HT.out.below' (by rw[HZ.out];exact HX.out.1)) (fun t ht=>HL.out.1.wok ht) HL.out.1.len (fun t ht=>by have:=HL.out.1.hops ht;omega)).mono ?_
 unfold TabPost;rintro e w2 ⟨⟨vb,vh,B,H,rfl,hB1,hB2,hH1,hH2,hto⟩,hb2⟩;have z2:=hb2.size;have HB2:Hid (Below Z w w2):=aa (HX.out.1.trans (hb2.mono (by omega)));have HX2:=aa (cS ((hb2.block _ z0).trans HX.out.2.1) (cS ((hb2.block _ (by omega)).trans HX.out.2.2.1) ((hb2.block _ z1).trans HX.out.2.2.2)));have HTO:=aa hto;have HPM:=aa (cS hB1 (cS hH1 (cS (HL.out.1.bset hB1 hB2) (HL.out.1.hset hH1 hH2))));obtain⟨ba_,bc,hbe⟩:=dg hto.b;subst hbe;obtain⟨ha_,hc_,hhe⟩:=dg hto.h;subst hhe;clear hb2 hto hB1 hB2 hH1 hH2 k0;go_upto_region 2 with fail
 obtain⟨T,hT⟩:=cR w2.heap.size
 obtain⟨w3,hw3⟩:=cR (w2.alloc (.cells #[.slice aq qs.length cq,.slice ca cs.length cc,.slice ba_ B.length bc,.slice ha_ H.length hc_] 44))
 rw[hw3,hT];have b3:Below w2.heap.size w2 w3:=by rw[←hw3];exact de (ap _ _)
 have XT3:w3.heap[T]? =some (.cells #[.slice aq qs.length cq,.slice ca cs.length cc,.slice ba_ B.length bc,.slice ha_ H.length hc_] 44 (0,0)):=by rw[←hw3,←hT];exact cW
 have zT3:T<w3.heap.size:=(ai.1 XT3).1;have hT2:w1.heap.size≤T:=by omega
 have HB3:Hid (Below Z w w3):=aa (HB2.out.trans (b3.mono (by omega)));have HX3:=aa (cS ((b3.block _ (by omega)).trans HX2.out.1) (cS ((b3.block _ (by omega)).trans HX2.out.2.1) ((b3.block _ (by omega)).trans HX2.out.2.2)));have HOB3:=aa (cV HTO.out.b (fun q hq=>b3.block q (HTO.out.b.lt q hq).2));have HOH3:=aa (cV HTO.out.h (fun q hq=>b3.block q (HTO.out.h.lt q hq).2));have HOT:Hid ((∀b,(Value.slice ba_ B.length bc).ownBlock=some b→w1.heap.size≤b∧b<T)∧∀b,(Value.slice ha_ H.length hc_).ownBlock=some b→w1.heap.size≤b∧b<T):=aa ⟨fun b hb=>by rw[←hT];exact HTO.out.b.lt b hb,fun b hb=>by rw[←hT];exact HTO.out.h.lt b hb⟩;have HXT3:=aa XT3;have k0:=fun q_=>cU HX3.out.1 q_
 have k2:=fun q_=>cU HX3.out.2.2 q_
 have y0:Z<w3.heap.size:=by omega
 have y2:Z+1+1<w3.heap.size:=by omega
 clear hw3 b3 XT3 hT HTO HX2 HB2 z2;go_wp2_with fail
 refine(kl qs cs ts (.slice aq qs.length cq) (.slice ca cs.length cc) (.slice none 0 0) (.slice pa pn pc) now w3 ⟨_,_,_,rfl⟩ (HC.out.below HB3.out (aj _) (by omega)) HL.out.1.pl ⟨_,_,_,rfl⟩ (HT.out.below' (by rw[HZ.out];exact HB3.out)) (fun t ht=>HL.out.1.wok ht) HL.out.1.len).mono ?_
 unfold IntsPost;rintro e w4 ⟨⟨u2,rfl,hr2,hf2⟩,hb4⟩;obtain⟨wa,wcap,rfl,-⟩:=id hr2;have z4:w3.heap.size≤w4.heap.size:=hb4.size;have HB4:Hid (Below Z w w4):=aa (HB3.out.trans (hb4.mono (by omega)));obtain⟨wn,hwn⟩:=cR ((weakS cs now ts).length)
 rw[hwn]at hr2 hf2 ⊢;have hwn64:wn≤100000:=by rw[←hwn];have:=gT cs now ts;omega
 have HWN:=aa hwn;have HWF:Hid (∀b,(Value.slice wa wn wcap).ownBlock=some b→w3.heap.size≤b):=aa (fun b hb=>by
  cases wa with
  | none=>cases hb
  | some x=>
   have h1:=hf2 x wn wcap rfl;have h2:x.block=b:=Option.some.inj hb;omega)
 have HX4:=aa (cS ((hb4.block _ (by omega)).trans HX3.out.1) (cS ((hb4.block _ (by omega)).trans HX3.out.2.1) ((hb4.block _ (by omega)).trans HX3.out.2.2)));have HXT4:=aa ((hb4.block _ zT3).trans HXT3.out);have HOB4:=aa (cV HOB3.out (fun q hq=>hb4.block q (HOB3.out.lt q hq).2));have HOH4:=aa (cV HOH3.out (fun q hq=>hb4.block q (HOH3.out.lt q hq).2));have HR4:=aa hr2;clear hb4 hr2 hf2 hwn k0 k2 HX3 HXT3 HOB3 HOH3 HB3;go_upto_region 3 with fail
 obtain⟨O,hO⟩:=cR w4.heap.size
 obtain⟨w5,hw5⟩:=cR (w4.alloc (.cells #[.slice wa wn wcap] 22))
 rw[hw5,hO];have b5:Below w4.heap.size w4 w5:=by rw[←hw5];exact de (ap _ _)
 have XO5:w5.heap[O]? =some (.cells #[.slice wa wn wcap] 22 (0,0)):=by rw[←hw5,←hO];exact cW
 have zO5:O<w5.heap.size:=(ai.1 XO5).1;have HX5:=aa (cS ((b5.block _ (by omega)).trans HX4.out.1) (cS ((b5.block _ (by omega)).trans HX4.out.2.1) ((b5.block _ (by omega)).trans HX4.out.2.2)));have HXT5:=aa ((b5.block _ (by omega)).trans HXT4.out);have HOB5:=aa (cV HOB4.out (fun q hq=>b5.block q (HOB4.out.lt q hq).2));have HOH5:=aa (cV HOH4.out (fun q hq=>b5.block q (HOH4.out.lt q hq).2));have HR5:=aa (RRow.below' HR4.out b5);have HXO5:=aa XO5;have HB5:Hid (Below Z w w5):=aa (HB4.out.trans (b5.mono (by omega)));have z5:w4.heap.size≤w5.heap.size:=b5.size;have hO3:w3.heap.size≤O:=by omega
 have kT:=fun q_=>cU HXT5.out q_
 have yT:T<w5.heap.size:=by omega
 clear hw5 hO b5 XO5 HX4 HXT4 HOB4 HOH4 HR4 HB4 y0 y2;have HPD:Hid (PredDO 85 #[.pointer (some ⟨O,0,none⟩),.pointer (some ⟨Z+1+1,0,none⟩)] (fun b=> !kp (weakS cs now ts) now b) (.slice ba_ B.length bc) w5 B):=aa ⟨fun _ _=>by kernel_rfl,fun x W _ hs hk=>by
  have hno:∀b,b<w1.heap.size∨T≤b→(Value.slice ba_ B.length bc).ownBlock≠some b:=fun b hb e=>by have:=HOT.out.1 b e;omega
  refine try1_any x O (Z+1+1) (.slice wa wn wcap) now (weakS cs now ts) W ((hk O (by omega) (hno O (.inr (by omega)))).trans HXO5.out) ((hk _ (by omega) (hno _ (.inl (by omega)))).trans HX5.out.2.2) (HR5.out.keepAt hs (fun hn b hb=>hk b (HR5.out.blk hn hb) (hno b (.inr (by have:=HWF.out b hb;omega))))) (by rw[HWN.out];exact hwn64)⟩
 have hB512:B.length≤1000000000000:=by have:=HPM.out.2.2.1.1;omega
 go_wp2_with fail
 refine(m9 B w1.heap.size (.slice ba_ B.length bc) 85 #[.pointer (some ⟨O,0,none⟩),.pointer (some ⟨Z+1+1,0,none⟩)] (fun b=> !kp (weakS cs now ts) now b) w5 HOB5.out HPD.out hB512 (by omega)).mono ?_
 rintro e w6 ⟨⟨v',rfl,ho6,hob⟩,hk6,hb6⟩;have hfn:(fun x=> !(fun b=> !kp (weakS cs now ts) now b) x)=kp (weakS cs now ts) now:=by funext x;simp
 rw[hfn]at ho6;obtain⟨M,hM⟩:=cR (B.filter (kp (weakS cs now ts) now))
 rw[hM]at ho6;have HM:=aa hM;obtain⟨va6,vc6,hve⟩:=dg ho6;subst hve;have z6:w5.heap.size≤w6.heap.size:=hb6.size;have hno:∀b,b<w1.heap.size∨T≤b→(Value.slice ba_ B.length bc).ownBlock≠some b:=fun b hb e=>by have:=HOT.out.1 b e;omega
 have X6T:=(hk6 T yT (hno T (.inr (aj _)))).trans HXT5.out;have HX6:=aa (cS ((hk6 Z (by omega) (hno Z (.inl z0))).trans HX5.out.1) (cS ((hk6 (Z+1) (by omega) (hno _ (.inl (by omega)))).trans HX5.out.2.1) ((hk6 (Z+1+1) (by omega) (hno _ (.inl (by omega)))).trans HX5.out.2.2)));have HOH6:Hid (w6.ownsRow w1.heap.size 75 5 (.slice ha_ H.length hc_) H.length (H.flatMap hldC)):=aa (cV HOH5.out (fun q hq=>hk6 q (HOH5.out.lt q hq).2 (fT HOH5.out HOB5.out (by decide) hq)));have HO6:=aa ho6;have HB6:Hid (Below Z w w6):=aa (HB5.out.trans (hb6.mono (by omega)));have HXT6:=aa X6T;have k6:=fun q_=>cU X6T q_
 have f6:=fun q_=>dC X6T q_
 have yT6:T<w6.heap.size:=by omega
 clear hM ho6 hob hk6 hb6 hfn X6T kT hno HX5 HXT5 HOB5 HOH5 HR5 HXO5 HB5 HPD;go_upto_region 4 with fail
 obtain⟨w7,hw7⟩:=cR (w6.setCell ⟨T,2,none⟩ (.slice va6 M.length vc6))
 rw[hw7];have X7:w7.heap[T]? =some (.cells #[.slice aq qs.length cq,.slice ca cs.length cc,.slice va6 M.length vc6,.slice ha_ H.length hc_] 44 (0,0)):=by rw[←hw7];exact eD HXT6.out 2 _
 have hne7:∀q,q≠T→w7.heap[q]? =w6.heap[q]?:=fun q h=>by rw[←hw7];exact heap_setCell_other w6 ⟨T,2,none⟩ q _ h
 have hs7:w7.heap.size=w6.heap.size:=by rw[←hw7];simp
 have HX7:=aa (cS ((hne7 Z (by omega)).trans HX6.out.1) (cS ((hne7 (Z+1) (by omega)).trans HX6.out.2.1) ((hne7 (Z+1+1) (by omega)).trans HX6.out.2.2)));have HOM7:Hid (w7.ownsRow w1.heap.size 53 4 (.slice va6 M.length vc6) M.length (M.flatMap bkgC)):=aa (cV HO6.out (fun q hq=>hne7 q (fun e=>by
  obtain⟨cs',f,h1⟩:=ed HO6.out hq;exact et h1 HXT6.out (by decide) e)))
 have HOH7:Hid (w7.ownsRow w1.heap.size 75 5 (.slice ha_ H.length hc_) H.length (H.flatMap hldC)):=aa (cV HOH6.out (fun q hq=>hne7 q (fun e=>by
  obtain⟨cs',f,h1⟩:=ed HOH6.out hq;exact et h1 HXT6.out (by decide) e)))
 have HB7:Hid (Below Z w w7):=aa (by rw[←hw7];exact bset HB6.out (by show Z≤T;omega));have y7:T<w7.heap.size:=by omega
 have y71:Z+1<w7.heap.size:=by omega
 have hz67:w6.heap.size≤w7.heap.size:=by omega
 have k7:=fun q_=>cU X7 q_
 have k71:=fun q_=>cU HX7.out.2.1 q_
 clear hw7 X7 hne7 hs7 k6 f6 HX6 HOH6 HO6 HB6 HXT6;go_wp2_with fail
 refine(iX qs cs M H q (.slice aq qs.length cq) (.slice ca cs.length cc) (.slice va6 M.length vc6) (.slice ha_ H.length hc_) w7 (HQ.out.below HB7.out (aj _) (by omega)) (HC.out.below HB7.out (aj _) (by omega)) (dF (by decide) dL HOM7.out) (dF (by decide) dO HOH7.out) HL.out.1.pl (by rw[←HM.out];exact HPM.out.2.2.1.filter _) HPM.out.2.2.2).mono ?_
 unfold EarPost;rintro e w8 ⟨⟨v,er,rfl,hres⟩,hb8⟩;have z8:w7.heap.size≤w8.heap.size:=hb8.size;have HB8:Hid (Below Z w w8):=aa (HB7.out.trans (hb8.mono (by omega)));have HX8:=aa (cS ((hb8.block _ (by omega)).trans HX7.out.1) (cS ((hb8.block _ (by omega)).trans HX7.out.2.1) ((hb8.block _ (by omega)).trans HX7.out.2.2)));clear hb8 k7 k71 HX7 HOM7 HOH7 HB7;rcases hres with⟨he,rfl⟩ | ⟨rfl,hs,hE,hR⟩
 ·have d1:(er==0)=false:=by rw[beq_eq_false_iff_ne];exact he
  have d2:(er != 0)=true:=by rw[bne_iff_ne];exact he
  clear he;go_wp2
  refine bodyPost_ret (v:=.tuple #[.pointer none,.bool false]) (by simp[results,Tryz.results41,go_sem]) rfl ?_
  unfold TryPost;rw[HZ.out];exact⟨⟨_,_,rfl,fun h=>by cases h⟩,HB8.out⟩
 ·obtain⟨ha8,hc8,rfl,-⟩:=id hR
  have HE:=aa hE;have HR8:Hid (RRow hpC 4 w8 w8.heap.size (.slice ha8 hs.length hc8) hs):=aa hR;obtain⟨l0,h0,hs0⟩:∃l h,hs=l++[h]:=⟨_,_,(List.dropLast_concat_getLast hE.ne).symm⟩
  have HS0:=aa hs0;have hl8:=hE.len;clear hE hR hs0;have hcase:(0<hsP.length∧∃l h,hsP=l++[h])∨hsP.length=0:=by
   cases hsP with
   | nil=>exact .inr rfl
   | cons x r=>exact .inl ⟨by simp,_,_,(List.dropLast_concat_getLast (by simp)).symm⟩
  rcases hcase with⟨hp0,lP,hP,hsP0⟩ | hp0
  case' inl=>
   have HSP:=aa hsP0;have d3:decide ((hsP.length:Int)>0)=true:=decide_eq_true (by omega);clear hsP0;go_wp2_with fail
   refine(nf l0 h0 (.slice ha8 hs.length hc8) w8 (by rw[←HS0.out];exact HR8.out) (by have:=congrArg List.length HS0.out;simp at this;omega)).mono ?_
   rintro e w81 ⟨rfl,hb81⟩;have HB81:Hid (Below Z w w81):=aa (HB8.out.trans (hb81.mono (by omega)));have z81:w8.heap.size≤w81.heap.size:=hb81.size;have HX81:=aa (cS ((hb81.block _ (by omega)).trans HX8.out.1) (cS ((hb81.block _ (by omega)).trans HX8.out.2.1) ((hb81.block _ (by omega)).trans HX8.out.2.2)));have HR81:=aa (RRow.below' HR8.out hb81);clear hb81;go_wp2_with fail
   refine(nf lP hP (.slice pa' hsP.length pc') w81 (by rw[←HSP.out];exact HP.out.below HB81.out (aj _) (by omega)) (by have:=congrArg List.length HSP.out;simp at this;omega)).mono ?_
   rintro e w9 ⟨rfl,hb9⟩;have HB9:Hid (Below Z w w9):=aa (HB81.out.trans (hb9.mono (by omega)));have z9:w8.heap.size≤w9.heap.size:=by have:=hb9.size;omega
   have HX9:=aa (cS ((hb9.block _ (by omega)).trans HX81.out.1) (cS ((hb9.block _ (by omega)).trans HX81.out.2.1) ((hb9.block _ (by omega)).trans HX81.out.2.2)));have HR9:=aa (RRow.below' HR81.out hb9);clear hb9 HX81 HR81 HB81 z81;obtain⟨r,hr⟩:=cR (decide (h0.ar≥hP.ar))
   cases r
   case true=>
    go_wp2
    refine bodyPost_ret (v:=.tuple #[.pointer none,.bool false]) (by simp[results,Tryz.results41,go_sem]) rfl ?_
    unfold TryPost;rw[HZ.out];exact⟨⟨_,_,rfl,fun h=>by cases h⟩,HB9.out⟩
   case' false=>
    go_upto_region 7 with fail
    clear hr
  case' inr=>
   have d3:decide ((hsP.length:Int)>0)=false:=decide_eq_false (by omega);go_upto_region 7 with fail
   obtain⟨w9,hw9⟩:∃q,q=w8:=⟨_,rfl⟩
   have z9:w8.heap.size≤w9.heap.size:=by rw[hw9];exact aj _
   have HB9:=HB8;have HX9:=HX8;have HR9:=HR8;rw[←hw9]at HB9 HX9 HR9 ⊢;clear hw9
  all_goals
   clear d3
   (try clear HSP)
   have y0:Z<w9.heap.size:=by omega
   have y1:Z+1<w9.heap.size:=by omega
   have y2:Z+1+1<w9.heap.size:=by omega
   have k0:=fun q_=>cU HX9.out.1 q_
   have k2:=fun q_=>cU HX9.out.2.2 q_
   have hd9:Below w9.heap.size w9 w9.drew:=bdrew (ap _ _);have HTD:Hid (RTks w9.drew (.slice pa pn pc) ts):=aa (HT.out.below' (by rw[HZ.out];exact bdrew HB9.out));refine dd (fun V=>Below (w9).heap.size (w9) V) [1,2,1,0,3,0] [0,2,1,3,4,5] (by kernel_rfl) (by kernel_rfl) ?_ ?_
   case refine_1=>exact cZ
   (iterate 2 (first | (refine cX rfl (by decide) (by rfl) (fun w1 hS=>by(try(obtain⟨_,_⟩:=bcell (hS rfl)));go_simp;rfl) ?_;simp only[Act.put,ae,af,ag]) | (refine dm rfl (by decide) (by rfl) ?_;simp only[Act.put,ae,af,ag])))
   (refine dA rfl rfl (by rfl) (fun K hK=>?_);go_simp)
   refine(mQ ts (.slice aq qs.length cq) (.slice ca cs.length cc) (.slice none 0 0) (.slice pa pn pc) w9.drew ⟨_,_,_,rfl⟩ ⟨_,_,_,rfl⟩ ⟨_,_,_,rfl⟩ HTD.out (by omega)).mono ?_
   rintro e wc46 hop;obtain⟨⟨u10,rfl,hot10⟩,hbc46⟩:=hop;obtain⟨ps10,hps10,hown10,hh10⟩:=id hot10;obtain⟨pa10,pc10,hue10⟩:=dg hown10;subst hue10
   (refine hK _ _ (by exact cZ) ?_;clear hK K;(try simp only[Act.put,ae,af,ag]))
   (iterate 1 (first | (refine cX rfl (by decide) (by rfl) (fun w1 hS=>by(try(obtain⟨_,_⟩:=bcell (hS rfl)));go_simp;rfl) ?_;simp only[Act.put,ae,af,ag]) | (refine dm rfl (by decide) (by rfl) ?_;simp only[Act.put,ae,af,ag])))
   (refine di rfl rfl (by rfl) (fun K hK=>?_);go_simp)
   (refine hK _ _ ?_;clear hK K;(try simp only[Act.put,ae,af,ag]))
   (iterate 1 (first | (refine cX rfl (by decide) (by rfl) (fun w1 hS=>by(try(obtain⟨_,_⟩:=bcell (hS rfl)));go_simp;rfl) ?_;simp only[Act.put,ae,af,ag]) | (refine dm rfl (by decide) (by rfl) ?_;simp only[Act.put,ae,af,ag])))
   refine du ?_
   obtain⟨base,hbase⟩:=cR w9.heap.size
   have hds:w9.drew.heap.size=base:=by rw[←hbase];simp
   rw[hds]at hot10 hown10;have b10:Below base w9 wc46:=by rw[←hbase];exact hd9.trans (hbc46.mono (by simp))
   have z10:base≤wc46.heap.size:=by rw[←hbase];have:=hbc46.size;simp at this;omega
   obtain⟨g,hg⟩:=cR wc46.heap.size
   obtain⟨pn10,hpn10⟩:=cR ps10.length
   rw[hpn10]at hot10 ⊢;obtain⟨w11,hw11⟩:=cR (wc46.alloc (.cells #[.slice aq qs.length cq,.slice ca cs.length cc,.slice none 0 0,.slice pa10 pn10 pc10,.int .i64 now,.slice none 0 0,.bool false,.int .i64 0,.slice none 0 0,.slice none 0 0,.slice none 0 0] 107))
   rw[hw11,hg];have b11:Below wc46.heap.size wc46 w11:=by rw[←hw11];exact de (ap _ _)
   have XG:w11.heap[g]? =some (.cells #[.slice aq qs.length cq,.slice ca cs.length cc,.slice none 0 0,.slice pa10 pn10 pc10,.int .i64 now,.slice none 0 0,.bool false,.int .i64 0,.slice none 0 0,.slice none 0 0,.slice none 0 0] 107 (0,0)):=by rw[←hw11,←hg];exact cW
   have HXG:Hid (AtX w11 g (.slice aq qs.length cq) (.slice ca cs.length cc) (.slice pa10 pn10 pc10) now (.slice none 0 0) (.bool false) (.int .i64 0) (.slice none 0 0) (.slice none 0 0) (.slice none 0 0)):=aa XG;have HO11:Hid (OwnT w11 base [g] (.slice pa10 pn10 pc10) ts):=aa (hot10.more b11 (by omega));have B911:Below base w9 w11:=b10.trans (b11.mono (by omega));have HB11:Hid (Below Z w w11):=aa (HB9.out.trans (B911.mono (by omega)));have HQ11:Hid (RRow intC 1 w11 base (.slice aq qs.length cq) qs):=aa (HQ.out.below HB11.out (aj _) (by omega));have HC11:Hid (RRow conC 7 w11 base (.slice ca cs.length cc) cs):=aa (HC.out.below HB11.out (aj _) (by omega));have HR11:Hid (RRow hpC 4 w11 base (.slice ha8 hs.length hc8) hs):=aa (RRow.below HR9.out B911 (by omega) (by omega));have X1:=(B911.block (Z+1) (by omega)).trans HX9.out.2.1;have k1:=fun q_=>cU X1 q_
   have hgb:base≤g:=by omega
   have z11:g<w11.heap.size:=(ai.1 XG).1;have y11:Z+1<w11.heap.size:=by omega
   have hb11:base≤w11.heap.size:=by omega
   clear hw11 b11 XG hot10 hown10 hps10 hh10 hpn10 hbc46 b10 hd9 k0 k2 HTD B911 X1 HX9 HR9 HB9 hds y0 y1 y2;go_wp2_with fail
   refine(make_any qs cs base g (.slice aq qs.length cq) (.slice ca cs.length cc) (.slice pa10 pn10 pc10) (.slice ha8 hs.length hc8) now ts q hs M H w11 HXG.out HO11.out hgb hb11 HQ11.out HC11.out HR11.out HL.out.1 HE.out (by rw[←HM.out];exact HPM.out.1.filter _) HPM.out.2.1 HL.out.2.1 HL.out.2.2.1 HL.out.2.2.2).mono ?_
   rintro e w12 ⟨⟨d,rfl,hd⟩,hb12⟩;have HB12:Hid (Below Z w w12):=aa (HB11.out.trans (hb12.mono (by omega)));have HD:=aa hd;clear hb12 hd k1;go_wp2
   refine bodyPost_ret (v:=.tuple #[.pointer (some ⟨g,0,none⟩),.bool d]) (by simp[results,Tryz.results41,go_sem]) rfl ?_
   unfold TryPost;rw[HZ.out];refine⟨⟨_,d,rfl,fun h=>?_⟩,HB12.out⟩
   obtain⟨ts',ut',uv',mv',dr',h1,h2,h3,h4⟩:=HD.out h;exact⟨g,ts',ut',uv',mv',dr',rfl,h1,h2,h3,h4⟩
end
section
def SlPost (w:World) (e:Ending) (w':World):Prop:=(∃(a:Option Addr) (n c:Nat) (er:Int),e= .returned (.tuple #[.slice a n c,.int .i64 er]))∧Below w.heap.size w w'
theorem nM (qs:List Int) (cs:List Con) (B:List Bkg) (H:List Hld) (src dst:Int) (s:Nat) (rd D pr:Int) (cu:Bool) (uq uc ub uh:Value) (w:World) (hq:RRow intC 1 w w.heap.size uq qs) (hc:RRow conC 7 w w.heap.size uc cs) (hl:RRow bkgC 4 w w.heap.size ub B) (hh:RRow hldC 5 w w.heap.size uh H) (hp:PlanOK qs cs) (hb:BkOK cs B) (hk:HkOK qs H) (hr:ReqOK qs.length src dst (s:Int) rd D pr):
  Calls Tryz.prog 91 #[.agg #[uq,uc,ub,uh],.agg #[.int .i64 src,.int .i64 dst,.int .i64 (s:Int),.int .i64 rd,.int .i64 D,.int .i64 pr,.bool cu]] w (SlPost w):=by
 have HQ:=aa hq;have HC:=aa hc;have HL:=aa hl;have HK:=aa hh;have HH:=aa (cS hp (cS hb (cS hk hr)));clear hq hc hl hh hp hb hk hr;go_enter Tryz.func91,Tryz.ntmps91
 go_upto_region 1 with fail
 obtain⟨Z,hZ⟩:=cR w.heap.size
 obtain⟨w1,hw1⟩:=cR ((w.alloc (.cells #[uq,uc,ub,uh] 44)).alloc (.cells #[.int .i64 src,.int .i64 dst,.int .i64 (s:Int),.int .i64 rd,.int .i64 D,.int .i64 pr,.bool cu] 38))
 rw[hw1];have B1:Below Z w w1:=by rw[←hw1,←hZ];exact cZ
 have X0:w1.heap[Z]? =some (.cells #[uq,uc,ub,uh] 44 (0,0)):=by rw[←hw1,←hZ];exact(by repeat (first | exact cY (by first | rfl | (simp;done)) | refine(ak _ _ _ (by first | (simp;done) | (simp;omega))).trans ?_))
 have X1:w1.heap[Z+1]? =some (.cells #[.int .i64 src,.int .i64 dst,.int .i64 (s:Int),.int .i64 rd,.int .i64 D,.int .i64 pr,.bool cu] 38 (0,0)):=by rw[←hw1,←hZ];exact(by repeat (first | exact cY (by first | rfl | (simp;done)) | refine(ak _ _ _ (by first | (simp;done) | (simp;omega))).trans ?_))
 have z1:Z+1<w1.heap.size:=(ai.1 X1).1;have z0:Z<w1.heap.size:=by omega
 have k0:=fun q_=>cU X0 q_
 have k1:=fun q_=>cU X1 q_
 have HZ:=aa hZ;have HX:=aa (cS B1 (cS X0 X1));rw[hZ]at HQ HC HL HK ⊢;clear hw1 B1 X0 X1 hZ;go_wp2_with fail
 refine(jq qs cs B H src dst s rd D pr cu uq uc _ _ w1 (HQ.out.below HX.out.1 (aj _) (by omega)) (HC.out.below HX.out.1 (aj _) (by omega)) (HL.out.below HX.out.1 (aj _) (by omega)) (HK.out.below HX.out.1 (aj _) (by omega)) HH.out.1 HH.out.2.1 HH.out.2.2.2).mono ?_
 unfold BuildPost;rintro e w2 ⟨hres,hb2⟩;rcases hres with⟨R,gB,rfl,hR,hgr⟩ | ⟨hn,rfl⟩
 case inr=>exact absurd HH.out.2.2.1 hn
 have z2:=hb2.size;have HB2:Hid (Below Z w w2):=aa (HX.out.1.trans (hb2.mono (by omega)));have HGO:=aa (oy cu HH.out.1 HH.out.2.1 HH.out.2.2.2 hR);have HGR:=aa hgr;clear k0 k1 hb2 hR hgr;go_wp2_with fail
 refine(ig _ HGO.out gB w2 HGR.out HH.out.2.2.2.2.1).mono ?_
 rintro e w4 ⟨l,vl,rfl,hrl,-,hb4⟩;obtain⟨la,lc,rfl,-⟩:=hrl;have HW:Hid (Below Z w w4):=aa (HB2.out.trans (hb4.mono (by have:=HB2.out.size;omega)));clear hb4;go_wp2
 refine bodyPost_ret (v:=.tuple #[.slice la l.length lc,.int .i64 0]) (by simp[results,Tryz.results91,go_sem]) rfl ?_
 unfold SlPost;rw[HZ.out];exact⟨⟨_,_,_,_,rfl⟩,HW.out⟩
theorem qp (qs:List Int) (cs:List Con) (B:List Bkg) (H:List Hld) (src dst:Int) (s:Nat) (rd D pr:Int) (cu:Bool) (uq uc ub uh:Value) (w:World) (hq:RRow intC 1 w w.heap.size uq qs) (hc:RRow conC 7 w w.heap.size uc cs) (hl:RRow bkgC 4 w w.heap.size ub B) (hh:RRow hldC 5 w w.heap.size uh H) (hp:PlanOK qs cs) (hb:BkOK cs B) (hk:HkOK qs H) (hr:ReqOK qs.length src dst (s:Int) rd D pr):
  Calls Tryz.prog 89 #[.agg #[uq,uc,ub,uh],.agg #[.int .i64 src,.int .i64 dst,.int .i64 (s:Int),.int .i64 rd,.int .i64 D,.int .i64 pr,.bool cu]] w fun e w'=>e= .returned (.int .i64 0)∧Below w.heap.size w w':=by
 have HQ:=aa hq;have HC:=aa hc;have HL:=aa hl;have HK:=aa hh;have HH:=aa (cS hp (cS hb (cS hk hr)));clear hq hc hl hh hp hb hk hr;go_enter Tryz.func89,Tryz.ntmps89
 go_upto_region 1 with fail
 obtain⟨Z,hZ⟩:=cR w.heap.size
 obtain⟨w1,hw1⟩:=cR ((w.alloc (.cells #[uq,uc,ub,uh] 44)).alloc (.cells #[.int .i64 src,.int .i64 dst,.int .i64 (s:Int),.int .i64 rd,.int .i64 D,.int .i64 pr,.bool cu] 38))
 rw[hw1];have B1:Below Z w w1:=by rw[←hw1,←hZ];exact cZ
 have X0:w1.heap[Z]? =some (.cells #[uq,uc,ub,uh] 44 (0,0)):=by rw[←hw1,←hZ];exact(by repeat (first | exact cY (by first | rfl | (simp;done)) | refine(ak _ _ _ (by first | (simp;done) | (simp;omega))).trans ?_))
 have X1:w1.heap[Z+1]? =some (.cells #[.int .i64 src,.int .i64 dst,.int .i64 (s:Int),.int .i64 rd,.int .i64 D,.int .i64 pr,.bool cu] 38 (0,0)):=by rw[←hw1,←hZ];exact(by repeat (first | exact cY (by first | rfl | (simp;done)) | refine(ak _ _ _ (by first | (simp;done) | (simp;omega))).trans ?_))
 have z1:Z+1<w1.heap.size:=(ai.1 X1).1;have z0:Z<w1.heap.size:=by omega
 have k0:=fun q_=>cU X0 q_
 have k1:=fun q_=>cU X1 q_
 have HZ:=aa hZ;have HX:=aa (cS B1 (cS X0 X1));rw[hZ]at HQ HC HL HK ⊢;clear hw1 B1 X0 X1 hZ;go_wp2_with fail
 refine(gJ qs cs B H uq uc _ _ w1 (HQ.out.below HX.out.1 (aj _) (by omega)) (HC.out.below HX.out.1 (aj _) (by omega)) (HL.out.below HX.out.1 (aj _) (by omega)) (HK.out.below HX.out.1 (aj _) (by omega))).mono ?_
 unfold CtPost;rintro e w2 ⟨⟨r,rfl,hr0⟩,hb2⟩;obtain rfl:r=0:=hr0.2 ⟨HH.out.1,HH.out.2.1,HH.out.2.2.1⟩;have z2:=hb2.size;have HX2:=aa (cS (HX.out.1.trans (hb2.mono (by omega))) (cS ((hb2.block _ z0).trans HX.out.2.1) ((hb2.block _ z1).trans HX.out.2.2)));have k0:=fun q_=>cU HX2.out.2.1 q_
 have k1:=fun q_=>cU HX2.out.2.2 q_
 have y0:Z<w2.heap.size:=by omega
 have y1:Z+1<w2.heap.size:=by omega
 clear hr0 hb2;go_wp2_with fail
 refine(fC qs cs uq uc src dst (s:Int) rd D pr cu w2 (HQ.out.below HX2.out.1 (aj _) (by omega)) (HC.out.below HX2.out.1 (aj _) (by omega))).mono ?_
 unfold CrPost;rintro e w3 ⟨⟨r,rfl,-,hr0⟩,hb3⟩;obtain rfl:r=0:=hr0 HH.out.1 HH.out.2.2.2;have HW:Hid (Below Z w w3):=aa (HX2.out.1.trans (hb3.mono (by omega)));clear hr0 hb3 k0 k1;go_wp2
 go_ret
 rw[HZ.out];exact⟨rfl,HW.out⟩
theorem qq (qs:List Int) (cs:List Con) (B:List Bkg) (H:List Hld) (src dst:Int) (s:Nat) (rd D pr:Int) (cu:Bool) (uq uc ub uh:Value) (w:World) (hq:RRow intC 1 w w.heap.size uq qs) (hc:RRow conC 7 w w.heap.size uc cs) (hl:RRow bkgC 4 w w.heap.size ub B) (hh:RRow hldC 5 w w.heap.size uh H) (hp:PlanOK qs cs) (hb:BkOK cs B) (hk:HkOK qs H) (hr:ReqOK qs.length src dst (s:Int) rd D pr):
  Calls Tryz.prog 42 #[.agg #[uq,uc,ub,uh],.agg #[.int .i64 src,.int .i64 dst,.int .i64 (s:Int),.int .i64 rd,.int .i64 D,.int .i64 pr,.bool cu]] w (SlPost w):=by
 have HQ:=aa hq;have HC:=aa hc;have HL:=aa hl;have HK:=aa hh;have HH:=aa (cS hp (cS hb (cS hk hr)));clear hq hc hl hh hp hb hk hr;go_enter Tryz.func42,Tryz.ntmps42
 go_upto_region 1 with fail
 obtain⟨Z,hZ⟩:=cR w.heap.size
 obtain⟨w1,hw1⟩:=cR ((w.alloc (.cells #[uq,uc,ub,uh] 44)).alloc (.cells #[.int .i64 src,.int .i64 dst,.int .i64 (s:Int),.int .i64 rd,.int .i64 D,.int .i64 pr,.bool cu] 38))
 rw[hw1];have B1:Below Z w w1:=by rw[←hw1,←hZ];exact cZ
 have X0:w1.heap[Z]? =some (.cells #[uq,uc,ub,uh] 44 (0,0)):=by rw[←hw1,←hZ];exact(by repeat (first | exact cY (by first | rfl | (simp;done)) | refine(ak _ _ _ (by first | (simp;done) | (simp;omega))).trans ?_))
 have X1:w1.heap[Z+1]? =some (.cells #[.int .i64 src,.int .i64 dst,.int .i64 (s:Int),.int .i64 rd,.int .i64 D,.int .i64 pr,.bool cu] 38 (0,0)):=by rw[←hw1,←hZ];exact(by repeat (first | exact cY (by first | rfl | (simp;done)) | refine(ak _ _ _ (by first | (simp;done) | (simp;omega))).trans ?_))
 have z1:Z+1<w1.heap.size:=(ai.1 X1).1;have z0:Z<w1.heap.size:=by omega
 have k0:=fun q_=>cU X0 q_
 have k1:=fun q_=>cU X1 q_
 have HZ:=aa hZ;have HX:=aa (cS B1 (cS X0 X1));rw[hZ]at HQ HC HL HK ⊢;clear hw1 B1 X0 X1 hZ;go_wp2_with fail
 refine(qp qs cs B H src dst s rd D pr cu uq uc _ _ w1 (HQ.out.below HX.out.1 (aj _) (by omega)) (HC.out.below HX.out.1 (aj _) (by omega)) (HL.out.below HX.out.1 (aj _) (by omega)) (HK.out.below HX.out.1 (aj _) (by omega)) HH.out.1 HH.out.2.1 HH.out.2.2.1 HH.out.2.2.2).mono ?_
 rintro e w2 ⟨rfl,hb2⟩;have z2:=hb2.size;have HX2:=aa (cS (HX.out.1.trans (hb2.mono (by omega))) (cS ((hb2.block _ z0).trans HX.out.2.1) ((hb2.block _ z1).trans HX.out.2.2)));have k0:=fun q_=>cU HX2.out.2.1 q_
 have k1:=fun q_=>cU HX2.out.2.2 q_
 have y0:Z<w2.heap.size:=by omega
 have y1:Z+1<w2.heap.size:=by omega
 clear hb2;go_wp2_with fail
 refine(nJ qs cs B H src dst s rd D pr cu uq uc _ _ w2 (HQ.out.below HX2.out.1 (aj _) (by omega)) (HC.out.below HX2.out.1 (aj _) (by omega)) (HL.out.below HX2.out.1 (aj _) (by omega)) (HK.out.below HX2.out.1 (aj _) (by omega)) HH.out.1 HH.out.2.1 HH.out.2.2.2).mono ?_
 unfold ArrPost;rintro e w3 ⟨⟨x,f,rfl⟩,hb3⟩;have z3:=hb3.size;have HX3:=aa (cS (HX2.out.1.trans (hb3.mono (by omega))) (cS ((hb3.block _ y0).trans HX2.out.2.1) ((hb3.block _ y1).trans HX2.out.2.2)));have k0:=fun q_=>cU HX3.out.2.1 q_
 have k1:=fun q_=>cU HX3.out.2.2 q_
 have y0:Z<w3.heap.size:=by omega
 have y1:Z+1<w3.heap.size:=by omega
 clear hb3;by_cases hf:f=0
 ·have df:(f==0)=true:=by rw[beq_iff_eq];exact hf
  have HW:Hid (Below Z w w3):=aa HX3.out.1;clear hf k0 k1;go_wp2
  refine bodyPost_ret (v:=.tuple #[.slice none 0 0,.int .i64 6]) (by simp[results,Tryz.results42,go_sem]) rfl ?_
  unfold SlPost;rw[HZ.out];exact⟨⟨_,_,_,_,rfl⟩,HW.out⟩
 ·have df:(f==0)=false:=by rw[beq_eq_false_iff_ne];exact hf
  clear hf;go_wp2_with fail
  refine(nM qs cs B H src dst s rd D pr cu uq uc _ _ w3 (HQ.out.below HX3.out.1 (aj _) (by omega)) (HC.out.below HX3.out.1 (aj _) (by omega)) (HL.out.below HX3.out.1 (aj _) (by omega)) (HK.out.below HX3.out.1 (aj _) (by omega)) HH.out.1 HH.out.2.1 HH.out.2.2.1 HH.out.2.2.2).mono ?_
  unfold SlPost;rintro e w4 ⟨⟨a,n,c,er,rfl⟩,hb4⟩;have HW:Hid (Below Z w w4):=aa (HX3.out.1.trans (hb4.mono (by omega)));clear hb4 k0 k1;go_wp2
  refine bodyPost_ret (v:=.tuple #[.slice a n c,.int .i64 er]) (by simp[results,Tryz.results42,go_sem]) rfl ?_
  unfold SlPost;rw[HZ.out];exact⟨⟨_,_,_,_,rfl⟩,HW.out⟩
end
end Go.Proofs.YtfnciigbbolckaaGreat
