/- Part 6 of the proof about mailboattop.TopOthers. No condition. -/
import Derived.Test.YtfnciigbbolckaaGreatQ00
import Derived.Test.YtfnciigbbolckaaGreatQ02
import Derived.Test.YtfnciigbbolckaaGreatQ03
set_option linter.unusedVariables false
set_option linter.unusedSimpArgs false
set_option maxRecDepth 100000
set_option maxHeartbeats 64000000
namespace Go.Proofs.YtfnciigbbolckaaGreat
open Go Go.RowKit Iv
attribute [local go_sem] Oper.semAt_some
attribute [local go_sem] pw gu B_app pv B_get B_toList
section
def PlanPost (qs:List Int) (cs:List Con) (w:World) (e:Ending) (w':World):Prop:=(∃r:Int,e= .returned (.int .i64 r)∧(r=0→PlanOK qs cs)∧(PlanOK qs cs→r=0))∧Below w.heap.size w w'
theorem eV (qs:List Int) (cs:List Con) (uq uc:Value) (w:World) (hq:RRow intC 1 w w.heap.size uq qs) (hc:RRow conC 7 w w.heap.size uc cs):
  Calls Tryz.prog 36 #[.agg #[uq,uc]] w (PlanPost qs cs w):=by
 have HC:=aa hc;obtain⟨aq,cq,rfl,q1,q2,q3,q4⟩:=hq;obtain⟨ac,cc,rfl,c1,c2,c3,c4⟩:=hc;unfold maxLen at q2 c2;have hlq:qs.length≤9223372036854775807:=by omega
 have hlc:cs.length≤9223372036854775807:=by omega
 have HQ:=aa q4;have HD:=aa c4;clear q3 q4 c3 c4;by_cases y1:qs.length<1
 ·have HN:Hid (¬PlanOK qs cs):=aa (fun h=>by have:=h.1.1;omega)
  obtain rfl:qs=[]:=aF (by omega);clear y1;go_enter Tryz.func36,Tryz.ntmps36
  go_wp2
  go_ret
  exact⟨⟨4,rfl,fun h=>absurd h (by decide),fun h=>absurd h HN.out⟩,cZ⟩
 have n0:¬qs.length=0:=by omega
 have n1:0<qs.length:=by omega
 have n2:(1:Int)≤(qs.length:Int):=by omega
 have d1:decide ((qs.length:Int)<1)=false:=by rw[decide_eq_false_iff_not];omega
 by_cases y2:16<qs.length
 ·have HN:Hid (¬PlanOK qs cs):=aa (fun h=>by have:=h.1.2.1;omega)
  have d2:decide ((16:Int)<(qs.length:Int))=true:=by rw[decide_eq_true_eq];omega
  have d2':(16:Int)<(qs.length:Int):=by omega
  clear y1;go_enter Tryz.func36,Tryz.ntmps36
  go_wp2
  go_ret
  exact⟨⟨4,rfl,fun h=>absurd h (by decide),fun h=>absurd h HN.out⟩,cZ⟩
 have d2:decide ((16:Int)<(qs.length:Int))=false:=by rw[decide_eq_false_iff_not];omega
 have d2':(qs.length:Int)≤16:=by omega
 by_cases y3:64<cs.length
 ·have HN:Hid (¬PlanOK qs cs):=aa (fun h=>by have:=h.1.2.2;omega)
  have d3:decide ((64:Int)<(cs.length:Int))=true:=by rw[decide_eq_true_eq];omega
  have d3':(64:Int)<(cs.length:Int):=by omega
  clear y1 y2;go_enter Tryz.func36,Tryz.ntmps36
  go_wp2
  go_ret
  exact⟨⟨4,rfl,fun h=>absurd h (by decide),fun h=>absurd h HN.out⟩,cZ⟩
 have d3:decide ((64:Int)<(cs.length:Int))=false:=by rw[decide_eq_false_iff_not];omega
 have d3':(cs.length:Int)≤64:=by omega
 have HB3:Hid (1≤qs.length∧qs.length≤16∧cs.length≤64):=aa ⟨by omega,by omega,by omega⟩;clear y1 y2 y3;go_enter Tryz.func36,Tryz.ntmps36
 go_wp2
 go_loopw [27] (fun i wr=>∃k:Nat,k≤qs.length∧i= .int .i64 k∧Hid (∀x∈qs.take k,qOK x)∧Hid (wr.heap[w.heap.size]? =some (.cells #[.slice aq qs.length cq,.slice ac cs.length cc] 25 (0,0)))∧Below w.heap.size w wr) (fun i _=>qs.length-(intOf i).toNat)
 case atStart=>exact⟨0,aE _,rfl,aa (by simp),aa cW,cZ⟩
 case round=>
  obtain⟨k,hk,rfl,HV,HBX,hB⟩:=hrel;have hsz:w.heap.size<wr.heap.size:=(ai.1 HBX.out).1;have cp:=fun o=>cU HBX.out o
  by_cases hlt:k<qs.length
  ·obtain⟨bb,o,rfl,hbn,hcell⟩:=HQ.out (by omega)
   obtain⟨x,hx⟩:∃x,qs[k]? =some x:=⟨_,am hlt⟩
   have q0:wr.cell? ⟨bb,o+k,none⟩=some (.int .i64 x):=(hB.cell (p:=⟨bb,o+k,none⟩) hbn).trans (by have:=hcell k x hx 0 _ rfl;simpa using this);have k0:(0:Int)≤(k:Int):=by omega
   have k1:(k:Int)<(qs.length:Int):=by omega
   have HX:=aa hx;clear hx hcell;by_cases z1:x<0
   ·have e1:decide (x<0)=true:=decide_eq_true z1
    have HN:Hid (¬PlanOK qs cs):=aa (fun h=>by have:=(h.2.1 x (az HX.out)).1;omega);go_wp2
    go_ret
    exact⟨⟨2,rfl,fun h=>absurd h (by decide),fun h=>absurd h HN.out⟩,hB⟩
   have e1:decide (x<0)=false:=decide_eq_false z1;by_cases z2:1073741824<x
   ·have e2:decide (1073741824<x)=true:=decide_eq_true z2
    have HN:Hid (¬PlanOK qs cs):=aa (fun h=>by have:=(h.2.1 x (az HX.out)).2;omega);clear z1;go_wp2
    go_ret
    exact⟨⟨2,rfl,fun h=>absurd h (by decide),fun h=>absurd h HN.out⟩,hB⟩
   have e2:decide (1073741824<x)=false:=decide_eq_false z2;have HOK:Hid (qOK x):=aa ⟨by omega,by omega⟩;clear z1 z2;go_wp2
   go_roundw
   case rel=>
    refine⟨k+1,by omega,by go_num,aa ?_,HBX,hB⟩
    intro y hy;rw[aN,HX.out]at hy;rcases aA.1 hy with hy | hy
    ·exact HV.out y hy
    ·simp at hy;subst hy;exact HOK.out
   case measure=>simp[intOf];omega
  ·obtain rfl:k=qs.length:=by omega
   have HQS:Hid (∀q∈qs,qOK q):=aa (by have:=HV.out;rwa [aL]at this);obtain⟨wA,hwA⟩:=cR wr
   subst hwA;clear HV;go_wp2
   go_loopw [41] (fun i wr=>∃k:Nat,k≤cs.length∧i= .int .i64 k∧Hid (∀j c,j<k→cs[j]? =some c→cOK qs.length cs j c)∧Hid (wr.heap[w.heap.size]? =some (.cells #[.slice aq qs.length cq,.slice ac cs.length cc] 25 (0,0)))∧Below w.heap.size w wr) (fun i _=>cs.length-(intOf i).toNat)
   case atStart=>exact⟨0,aE _,rfl,aa (fun j c h=>by omega),HBX,hB⟩
   case round=>
    clear cp hsz;obtain⟨k,hk,rfl,HV,HBX,hB⟩:=hrel;have hsz:w.heap.size<wr.heap.size:=(ai.1 HBX.out).1;have cp:=fun o=>cU HBX.out o
    by_cases hlt:k<cs.length
    ·obtain⟨bb,o,rfl,hbn,hcell⟩:=HD.out (by omega)
     obtain⟨x,hx⟩:∃x,cs[k]? =some x:=⟨_,am hlt⟩
     have q0:wr.cell? ⟨bb,o+k*7,none⟩=some (.int .i64 x.fr):=(hB.cell (p:=⟨bb,o+k*7+0,none⟩) hbn).trans (hcell k x hx 0 _ rfl);have q1:wr.cell? ⟨bb,o+k*7+1,none⟩=some (.int .i64 x.tt):=(hB.cell (p:=⟨bb,o+k*7+1,none⟩) hbn).trans (hcell k x hx 1 _ rfl);have q2:wr.cell? ⟨bb,o+k*7+2,none⟩=some (.int .i64 x.st):=(hB.cell (p:=⟨bb,o+k*7+2,none⟩) hbn).trans (hcell k x hx 2 _ rfl);have q3:wr.cell? ⟨bb,o+k*7+3,none⟩=some (.int .i64 x.en):=(hB.cell (p:=⟨bb,o+k*7+3,none⟩) hbn).trans (hcell k x hx 3 _ rfl);have q4:wr.cell? ⟨bb,o+k*7+4,none⟩=some (.int .i64 x.ra):=(hB.cell (p:=⟨bb,o+k*7+4,none⟩) hbn).trans (hcell k x hx 4 _ rfl);have q5:wr.cell? ⟨bb,o+k*7+5,none⟩=some (.int .i64 x.rg):=(hB.cell (p:=⟨bb,o+k*7+5,none⟩) hbn).trans (hcell k x hx 5 _ rfl);have q6:wr.cell? ⟨bb,o+k*7+6,none⟩=some (.int .i64 x.lo):=(hB.cell (p:=⟨bb,o+k*7+6,none⟩) hbn).trans (hcell k x hx 6 _ rfl);have k0:(0:Int)≤(k:Int):=by omega
     have k1:(k:Int)<(cs.length:Int):=by omega
     have HX:=aa hx;clear hx hcell;obtain⟨E,hE⟩:=cR (chkCon x)
     have HE:=aa hE;by_cases z:E=0
     case neg=>
      have z':(E != 0)=true:=by simpa using z
      have HN:Hid (¬PlanOK qs cs):=aa (fun h=>z (hE.symm.trans (h.2.2 k x HX.out).1));have HZ:=aa z;clear hE z;go_wp2_with fail
      refine(eH x _).mono ?_
      rw[HE.out];rintro e w2 ⟨rfl,hb2⟩;go_wp2
      go_ret
      exact⟨⟨E,rfl,fun h=>absurd h HZ.out,fun h=>absurd h HN.out⟩,cZ⟩
     subst z;have h3:=hE;clear hE;by_cases z1:x.fr≥(qs.length:Int)
     ·have e1:decide (x.fr≥(qs.length:Int))=true:=decide_eq_true z1
      have HN:Hid (¬PlanOK qs cs):=aa (fun h=>by have:=(h.2.2 k x HX.out).2.1;omega);clear h3;go_wp2_with fail
      refine(eH x _).mono ?_
      rw[HE.out];rintro e w2 ⟨rfl,hb2⟩;have hB2:Hid (Below w.heap.size w w2):=aa (dq (de hB) hb2);have hz2:wr.heap.size<w2.heap.size:=by have:=hb2.size;simp at this;omega
      have GX:w2.heap[wr.heap.size]? =some (.cells #[.int .i64 x.fr,.int .i64 x.tt,.int .i64 x.st,.int .i64 x.en,.int .i64 x.ra,.int .i64 x.rg,.int .i64 x.lo] 95 (0,0)):=(hb2.block _ (by simp)).trans cW;have GP:w2.heap[w.heap.size]? =some (.cells #[.slice aq qs.length cq,.slice (some ⟨bb,o,none⟩) cs.length cc] 25 (0,0)):=(hb2.block _ (by simp;omega)).trans ((ak _ _ _ (by omega)).trans HBX.out);have hsz2:w.heap.size<w2.heap.size:=by omega
      have hB2':Below w.heap.size w w2:=hB2.out;clear cp hb2;have cx:=fun o=>cU GX o
      have cp:=fun o=>cU GP o
      go_wp2
      go_ret
      exact⟨⟨2,rfl,fun h=>absurd h (by decide),fun h=>absurd h HN.out⟩,cZ⟩
     have e1:decide (x.fr≥(qs.length:Int))=false:=decide_eq_false z1;by_cases z2:x.tt≥(qs.length:Int)
     ·have e2:decide (x.tt≥(qs.length:Int))=true:=decide_eq_true z2
      have HN:Hid (¬PlanOK qs cs):=aa (fun h=>by have:=(h.2.2 k x HX.out).2.2.1;omega);clear h3 z1;go_wp2_with fail
      refine(eH x _).mono ?_
      rw[HE.out];rintro e w2 ⟨rfl,hb2⟩;have hB2:Hid (Below w.heap.size w w2):=aa (dq (de hB) hb2);have hz2:wr.heap.size<w2.heap.size:=by have:=hb2.size;simp at this;omega
      have GX:w2.heap[wr.heap.size]? =some (.cells #[.int .i64 x.fr,.int .i64 x.tt,.int .i64 x.st,.int .i64 x.en,.int .i64 x.ra,.int .i64 x.rg,.int .i64 x.lo] 95 (0,0)):=(hb2.block _ (by simp)).trans cW;have GP:w2.heap[w.heap.size]? =some (.cells #[.slice aq qs.length cq,.slice (some ⟨bb,o,none⟩) cs.length cc] 25 (0,0)):=(hb2.block _ (by simp;omega)).trans ((ak _ _ _ (by omega)).trans HBX.out);have hsz2:w.heap.size<w2.heap.size:=by omega
      have hB2':Below w.heap.size w w2:=hB2.out;clear cp hb2;have cx:=fun o=>cU GX o
      have cp:=fun o=>cU GP o
      go_wp2
      go_ret
      exact⟨⟨2,rfl,fun h=>absurd h (by decide),fun h=>absurd h HN.out⟩,cZ⟩
     have e2:decide (x.tt≥(qs.length:Int))=false:=decide_eq_false z2;have HZ:Hid (x.fr<(qs.length:Int)∧x.tt<(qs.length:Int)):=aa ⟨by omega,by omega⟩;clear h3 z1 z2;go_wp2_with fail
     refine(eH x _).mono ?_
     rw[HE.out];rintro e w2 ⟨rfl,hb2⟩;have hB2:Hid (Below w.heap.size w w2):=aa (dq (de hB) hb2);have hz2:wr.heap.size<w2.heap.size:=by have:=hb2.size;simp at this;omega
     have GX:w2.heap[wr.heap.size]? =some (.cells #[.int .i64 x.fr,.int .i64 x.tt,.int .i64 x.st,.int .i64 x.en,.int .i64 x.ra,.int .i64 x.rg,.int .i64 x.lo] 95 (0,0)):=(hb2.block _ (by simp)).trans cW;have GP:w2.heap[w.heap.size]? =some (.cells #[.slice aq qs.length cq,.slice (some ⟨bb,o,none⟩) cs.length cc] 25 (0,0)):=(hb2.block _ (by simp;omega)).trans ((ak _ _ _ (by omega)).trans HBX.out);have hsz2:w.heap.size<w2.heap.size:=by omega
     have hB2':Below w.heap.size w w2:=hB2.out;clear cp hb2;have cx:=fun o=>cU GX o
     have cp:=fun o=>cU GP o
     have kcap:(k:Int)≤(cc:Int):=by omega
     have kcap':k≤cc:=by omega
     obtain⟨A,hA⟩:=cR ((cs.take k).any (ovl x))
     have HA:=aa hA;clear hA;go_wp2_with fail
     refine(jU (cs.take k) _ 74 #[.pointer (some ⟨wr.heap.size,0,none⟩)] (ovl x) w2 (((HC.out.take k hk)).below hB2.out (aj _) hB2.out.size) ⟨fun _ _=>by kernel_rfl,fun d V hd hV=>?hclos⟩).mono ?_
     case hclos=>
      obtain⟨j,hj,hjd⟩:=List.getElem_of_mem hd;rw[aS]at hj;rw[List.getElem_take]at hjd;exact pD x d wr.heap.size V HE.out (HV.out j d (by omega) (by rw[am (by omega),hjd])).1 ((hV.block _ hz2).trans GX)
     rw[HA.out];rintro e w3 ⟨rfl,hb3⟩;have HB3':Hid (w3.heap[w.heap.size]? =some (.cells #[.slice aq qs.length cq,.slice (some ⟨bb,o,none⟩) cs.length cc] 25 (0,0))):=aa ((hb3.block _ (by omega)).trans GP);have hB3:Below w.heap.size w w3:=dq hB2.out hb3;clear hb3 GX GP cx cp hz2
     cases A with
     | true=>
      have HN:Hid (¬PlanOK qs cs):=aa (fun h=>by have:=(h.2.2 k x HX.out).2.2.2;rw[HA.out]at this;cases this);go_wp2
      go_ret
      exact⟨⟨14,rfl,fun h=>absurd h (by decide),fun h=>absurd h HN.out⟩,hB3⟩
     | false=>
      go_wp2
      go_roundw
      case rel=>
       refine⟨k+1,by omega,by go_num,aa ?_,HB3',hB3⟩
       intro j c hj hc;rcases bq j k with hjk | hjk
       ·exact HV.out j c hjk hc
       ·obtain rfl:j=k:=by omega
        rw[HX.out]at hc
        cases hc
        exact⟨HE.out,HZ.out.1,HZ.out.2,HA.out⟩
      case measure=>simp[intOf];omega
    ·obtain rfl:k=cs.length:=by omega
     have HN:Hid (PlanOK qs cs):=aa ⟨HB3.out,HQS.out,fun j c hj=>HV.out j c (aw.1 hj).1 hj⟩;go_wp2
     go_ret
     exact⟨⟨0,rfl,fun _=>HN.out,fun _=>rfl⟩,hB⟩
end
section
def ReqOK (n:Nat) (src dst sz rd D pr:Int):Prop:=(0≤src∧src<n∧0≤dst∧dst<n)∧src≠dst∧(1≤sz∧sz≤65536∧0≤rd∧rd≤D∧D≤1099511627776)∧0≤pr∧pr≤2
def CrPost (qs:List Int) (cs:List Con) (src dst sz rd D pr:Int) (w:World) (e:Ending) (w':World):Prop:=(∃r:Int,e= .returned (.int .i64 r)∧(r=0→PlanOK qs cs∧ReqOK qs.length src dst sz rd D pr)∧(PlanOK qs cs→ReqOK qs.length src dst sz rd D pr→r=0))∧Below w.heap.size w w'
theorem fC (qs:List Int) (cs:List Con) (uq uc:Value) (src dst sz rd D pr:Int) (cu:Bool) (w:World) (hq:RRow intC 1 w w.heap.size uq qs) (hc:RRow conC 7 w w.heap.size uc cs):
  Calls Tryz.prog 38 #[.agg #[uq,uc],.agg #[.int .i64 src,.int .i64 dst,.int .i64 sz,.int .i64 rd,.int .i64 D,.int .i64 pr,.bool cu]] w (CrPost qs cs src dst sz rd D pr w):=by
 have HQ:=aa hq;have HC:=aa hc;obtain⟨aq,cq,rfl,-⟩:=hq;obtain⟨ac,cc,rfl,-⟩:=hc;go_enter Tryz.func38,Tryz.ntmps38
 go_wp2_with fail
 refine(eV qs cs _ _ _ (HQ.out.below' (by exact cZ)) (HC.out.below' (by exact cZ))).mono ?_
 unfold PlanPost;rintro e w1 ⟨⟨r,rfl,hr1,hr2⟩,hb1⟩;have HR2:=aa hr2;clear hr2;have hB1:Below w.heap.size w w1:=dq (by exact cZ) hb1;have GQ_:w1.heap[w.heap.size+1]? =some (.cells #[.int .i64 src,.int .i64 dst,.int .i64 sz,.int .i64 rd,.int .i64 D,.int .i64 pr,.bool cu] 38 (0,0)):=(hb1.block _ (by simp)).trans (by repeat (first | exact cY (by first | rfl | (simp;done)) | refine(ak _ _ _ (by first | (simp;done) | (simp;omega))).trans ?_));have cq_:=fun o=>cU GQ_ o
 have HR1:=aa hr1;clear hb1 hr1 GQ_;by_cases zr:r=0
 case neg=>
  have d0:(r != 0)=true:=by simpa using zr
  have HZR:=aa zr;clear zr;go_wp2
  go_ret
  exact⟨⟨1,rfl,fun h=>(by cases h),fun h _=>absurd (HR2.out h) HZR.out⟩,hB1⟩
 subst zr;have HP:=aa (HR1.out rfl);by_cases z1:0≤src∧src<qs.length∧0≤dst∧dst<qs.length
 case neg=>
  have HZ:=aa z1;clear z1;go_wp2
  all_goals(first | (go_ret;exact⟨⟨2,rfl,fun h=>(by cases h),fun _ h=>absurd h.1 HZ.out⟩,hB1⟩) | (exfalso;have:=HZ.out;simp at*;omega) | (exfalso;have:=HZ.out;omega))
 obtain⟨a1,a2,a3,a4⟩:=z1;have b1:decide (src<0)=false:=decide_eq_false (by omega);have b2:decide (src≥(qs.length:Int))=false:=decide_eq_false (by omega);have b3:decide (dst<0)=false:=decide_eq_false (by omega);have b4:decide (dst≥(qs.length:Int))=false:=decide_eq_false (by omega);by_cases z2:src=dst
 case pos=>
  have d2:(src==dst)=true:=by simpa using z2
  have HZ:=aa z2;clear z2;go_wp2
  go_ret
  exact⟨⟨10,rfl,fun h=>(by cases h),fun _ h=>absurd HZ.out h.2.1⟩,hB1⟩
 have d2:(src==dst)=false:=by simpa using z2
 have HZ2:=aa z2;clear z2;by_cases z3:1≤sz∧sz≤65536∧0≤rd∧rd≤D∧D≤1099511627776
 case neg=>
  have HZ:=aa z3;clear z3;go_wp2
  all_goals(first | (go_ret;exact⟨⟨2,rfl,fun h=>(by cases h),fun _ h=>absurd h.2.2.1 HZ.out⟩,hB1⟩) | (exfalso;have:=HZ.out;simp at*;omega) | (exfalso;have:=HZ.out;omega))
 have HZ3:=aa z3;obtain⟨c1,c2,c3,c4,c5⟩:=z3;have e1:decide (sz<1)=false:=decide_eq_false (by omega);have e2:decide (sz>65536)=false:=decide_eq_false (by omega);have e3:decide (rd<0)=false:=decide_eq_false (by omega);have e4:decide (rd>D)=false:=decide_eq_false (by omega);have e5:decide (D>1099511627776)=false:=decide_eq_false (by omega);by_cases z4:0≤pr∧pr≤2
 case neg=>
  have HZ:=aa z4;clear z4;go_wp2
  all_goals(first | (go_ret;exact⟨⟨8,rfl,fun h=>(by cases h),fun _ h=>absurd h.2.2.2 HZ.out⟩,hB1⟩) | (exfalso;have:=HZ.out;simp at*;omega) | (exfalso;have:=HZ.out;omega))
 obtain⟨g1,g2⟩:=z4;have f1:decide (pr<0)=false:=decide_eq_false (by omega);have f2:decide (pr>2)=false:=decide_eq_false (by omega);go_wp2
 go_ret
 exact⟨⟨0,rfl,fun _=>⟨HP.out,⟨a1,a2,a3,a4⟩,HZ2.out,HZ3.out,g1,g2⟩,fun _ _=>rfl⟩,hB1⟩
end
section
def hVal (h:Hld):Prop:=0≤h.fr∧h.fr<h.tt∧h.tt≤1099511627776
def hValN (n:Nat) (h:Hld):Prop:=(0≤h.nd∧h.nd<n)∧hVal h∧(1≤h.sz∧h.sz≤65536)∧0≤h.tk∧h.tk≤1152921504606846976
def HvPost (qs:List Int) (h:Hld) (w:World) (e:Ending) (w':World):Prop:=(∃r:Bool,e= .returned (.bool r)∧(r=true↔hValN qs.length h))∧Below w.heap.size w w'
theorem mC (qs:List Int) (uq uc:Value) (h:Hld) (w:World) (hq:RRow intC 1 w w.heap.size uq qs) (hc:∃a k c,uc= .slice a k c):
  Calls Tryz.prog 59 #[.agg #[uq,uc],.agg #[.int .i64 h.nd,.int .i64 h.fr,.int .i64 h.tt,.int .i64 h.sz,.int .i64 h.tk]] w (HvPost qs h w):=by
 obtain⟨nd,fr,tt,sz,tk⟩:=h;obtain⟨aq,cq,rfl,-,-⟩:=hq;obtain⟨ac,kc,cc,rfl⟩:=hc;simp only;by_cases z0:nd≥0
 case neg=>
  have d0:decide (nd≥0)=false:=decide_eq_false z0;have HNV:Hid (¬hValN qs.length ⟨nd,fr,tt,sz,tk⟩):=aa (fun h=>by unfold hValN hVal at h;simp only at h;omega);clear z0;go_enter Tryz.func59,Tryz.ntmps59
  go_wp2
  go_ret
  exact⟨⟨false,rfl,(fun h=>by cases h),fun h=>absurd h HNV.out⟩,cZ⟩
 have d0:decide (nd≥0)=true:=decide_eq_true z0;by_cases z1:nd<(qs.length:Int)
 case neg=>
  have d1:decide (nd<(qs.length:Int))=false:=decide_eq_false z1;have HNV:Hid (¬hValN qs.length ⟨nd,fr,tt,sz,tk⟩):=aa (fun h=>by unfold hValN hVal at h;simp only at h;omega);clear z0 z1;go_enter Tryz.func59,Tryz.ntmps59
  go_wp2
  go_ret
  exact⟨⟨false,rfl,(fun h=>by cases h),fun h=>absurd h HNV.out⟩,cZ⟩
 have d1:decide (nd<(qs.length:Int))=true:=decide_eq_true z1;by_cases z2:fr≥0
 case neg=>
  have d2:decide (fr≥0)=false:=decide_eq_false z2;have HNV:Hid (¬hValN qs.length ⟨nd,fr,tt,sz,tk⟩):=aa (fun h=>by unfold hValN hVal at h;simp only at h;omega);clear z0 z1 z2;go_enter Tryz.func59,Tryz.ntmps59
  go_wp2
  go_ret
  exact⟨⟨false,rfl,(fun h=>by cases h),fun h=>absurd h HNV.out⟩,cZ⟩
 have d2:decide (fr≥0)=true:=decide_eq_true z2;by_cases z3:fr<tt
 case neg=>
  have d3:decide (fr<tt)=false:=decide_eq_false z3;have HNV:Hid (¬hValN qs.length ⟨nd,fr,tt,sz,tk⟩):=aa (fun h=>by unfold hValN hVal at h;simp only at h;omega);clear z0 z1 z2 z3;go_enter Tryz.func59,Tryz.ntmps59
  go_wp2
  go_ret
  exact⟨⟨false,rfl,(fun h=>by cases h),fun h=>absurd h HNV.out⟩,cZ⟩
 have d3:decide (fr<tt)=true:=decide_eq_true z3;by_cases z4:tt≤1099511627776
 case neg=>
  have d4:decide (tt≤1099511627776)=false:=decide_eq_false z4;have HNV:Hid (¬hValN qs.length ⟨nd,fr,tt,sz,tk⟩):=aa (fun h=>by unfold hValN hVal at h;simp only at h;omega);clear z0 z1 z2 z3 z4;go_enter Tryz.func59,Tryz.ntmps59
  go_wp2
  go_ret
  exact⟨⟨false,rfl,(fun h=>by cases h),fun h=>absurd h HNV.out⟩,cZ⟩
 have d4:decide (tt≤1099511627776)=true:=decide_eq_true z4;by_cases z5:sz≥1
 case neg=>
  have d5:decide (sz≥1)=false:=decide_eq_false z5;have HNV:Hid (¬hValN qs.length ⟨nd,fr,tt,sz,tk⟩):=aa (fun h=>by unfold hValN hVal at h;simp only at h;omega);clear z0 z1 z2 z3 z4 z5;go_enter Tryz.func59,Tryz.ntmps59
  go_wp2
  go_ret
  exact⟨⟨false,rfl,(fun h=>by cases h),fun h=>absurd h HNV.out⟩,cZ⟩
 have d5:decide (sz≥1)=true:=decide_eq_true z5;by_cases z6:sz≤65536
 case neg=>
  have d6:decide (sz≤65536)=false:=decide_eq_false z6;have HNV:Hid (¬hValN qs.length ⟨nd,fr,tt,sz,tk⟩):=aa (fun h=>by unfold hValN hVal at h;simp only at h;omega);clear z0 z1 z2 z3 z4 z5 z6;go_enter Tryz.func59,Tryz.ntmps59
  go_wp2
  go_ret
  exact⟨⟨false,rfl,(fun h=>by cases h),fun h=>absurd h HNV.out⟩,cZ⟩
 have d6:decide (sz≤65536)=true:=decide_eq_true z6;by_cases z7:tk≥0
 case neg=>
  have d7:decide (tk≥0)=false:=decide_eq_false z7;have HNV:Hid (¬hValN qs.length ⟨nd,fr,tt,sz,tk⟩):=aa (fun h=>by unfold hValN hVal at h;simp only at h;omega);clear z0 z1 z2 z3 z4 z5 z6 z7;go_enter Tryz.func59,Tryz.ntmps59
  go_wp2
  go_ret
  exact⟨⟨false,rfl,(fun h=>by cases h),fun h=>absurd h HNV.out⟩,cZ⟩
 have d7:decide (tk≥0)=true:=decide_eq_true z7;by_cases z8:tk≤1152921504606846976
 case neg=>
  have d8:decide (tk≤1152921504606846976)=false:=decide_eq_false z8;have HNV:Hid (¬hValN qs.length ⟨nd,fr,tt,sz,tk⟩):=aa (fun h=>by unfold hValN hVal at h;simp only at h;omega);clear z0 z1 z2 z3 z4 z5 z6 z7 z8;go_enter Tryz.func59,Tryz.ntmps59
  go_wp2
  go_ret
  exact⟨⟨false,rfl,(fun h=>by cases h),fun h=>absurd h HNV.out⟩,cZ⟩
 have d8:decide (tk≤1152921504606846976)=true:=decide_eq_true z8;have HN:Hid (hValN qs.length ⟨nd,fr,tt,sz,tk⟩):=aa ⟨⟨z0,z1⟩,⟨z2,z3,z4⟩,⟨z5,z6⟩,z7,z8⟩;clear z0 z1 z2 z3 z4 z5 z6 z7 z8;go_enter Tryz.func59,Tryz.ntmps59
 go_wp2
 go_ret
 exact⟨⟨true,rfl,(fun _=>HN.out),fun _=>rfl⟩,cZ⟩
end
section
def levC (h:Hld) (n t:Int):Int:=if h.nd=n∧h.fr≤t∧t<h.tt then h.sz else 0
def lev:List Hld→Int→Int→Int
 | [],_,_=>0
 | h::l,n,t=>levC h n t+lev l n t
theorem dJ (l k:List Hld) (n t:Int):lev (l++k) n t=lev l n t+lev k n t:=by
 induction l with
 | nil=>simp[lev]
 | cons h l ih=>rw[a8];simp only[lev];omega
theorem iw {l k:List Hld} (h:l.Perm k) (n t:Int):lev l n t=lev k n t:=by
 induction h with
 | nil=>rfl
 | cons x _ ih=>simp only[lev];omega
 | swap x y l=>simp only[lev];omega
 | trans _ _ h1 h2=>omega
theorem mD {h:Hld} (hs:0≤h.sz) (n t:Int):0≤levC h n t:=by unfold levC;split<;>omega
theorem fk:∀{l:List Hld},(∀h∈l,0≤h.sz)→∀n t,0≤lev l n t
 | [],_,_,_=>aR _
 | h::l,hs,n,t=>by
  have h1:=fk (l:=l) (fun x hx=>hs x (by simp[hx])) n t;have h2:=mD (hs h (by simp)) n t;simp only[lev];omega
theorem lev_le:∀{l:List Hld},(∀h∈l,0≤h.sz∧h.sz≤65536)→∀n t,lev l n t≤l.length*65536
 | [],_,_,_=>by simp[lev]
 | h::l,hs,n,t=>by
  have h1:=lev_le (l:=l) (fun x hx=>hs x (by simp[hx])) n t;have h2:levC h n t≤65536:=by have:=hs h (by simp);unfold levC;split<;>omega
  simp only[lev,aI];omega
def chgC (h:Hld) (n x:Int):Int:=if h.nd=n then(if h.fr=x then h.sz else 0)-(if h.tt=x then h.sz else 0)else 0
def chg:List Hld→Int→Int→Int
 | [],_,_=>0
 | h::l,n,x=>chgC h n x+chg l n x
theorem j6 (l k:List Hld) (n x:Int):chg (l++k) n x=chg l n x+chg k n x:=by
 induction l with
 | nil=>simp[chg]
 | cons h l ih=>rw[a8];simp only[chg];omega
def sumTo (f:Int→Int) (t:Int):List Int→Int
 | []=>0
 | x::ss=>(if x≤t then f x else 0)+sumTo f t ss
theorem ll (f g:Int→Int) (t:Int) (ss:List Int):sumTo (fun x=>f x+g x) t ss=sumTo f t ss+sumTo g t ss:=by
 induction ss with
 | nil=>rfl
 | cons x ss ih=>simp only[sumTo];split<;>omega
theorem j7 (t:Int) (ss:List Int):sumTo (fun _=>0) t ss=0:=by
 induction ss with
 | nil=>rfl
 | cons x ss ih=>simp only[sumTo,ih];split<;>rfl
theorem nU (f:Int→Int) (t:Int) {ss:List Int} (h:∀x∈ss,f x=0):sumTo f t ss=0:=by
 induction ss with
 | nil=>rfl
 | cons x ss ih=>
  simp only[sumTo];rw[ih (fun y hy=>h y (by simp[hy])),h x (by simp)];split<;>rfl
theorem lm {ss:List Int} (hn:ss.Nodup) {a:Int} (ha:a∈ss) (s t:Int):sumTo (fun x=>if a=x then s else 0) t ss=if a≤t then s else 0:=by
 induction ss with
 | nil=>cases ha
 | cons x ss ih=>
  obtain⟨h1,h2⟩:=cL.1 hn;simp only[sumTo];rcases aG.1 ha with rfl | ha
  ·rw[nU _ t (fun y hy=>if_neg (fun e=>h1 (by rw[e];exact hy))),if_pos rfl]
   omega
  ·rw[ih h2 ha,if_neg (fun e:a=x=>h1 (by rw[←e];exact ha))]
   split<;>split<;>omega
theorem pG (f:Int→Int) (t:Int) (ss:List Int):sumTo (fun x=>-f x) t ss= - sumTo f t ss:=by
 induction ss with
 | nil=>rfl
 | cons x ss ih=>simp only[sumTo];split<;>omega
theorem ln {ss:List Int} (hn:ss.Nodup) (n t:Int):∀{l:List Hld},(∀h∈l,h.fr<h.tt)→(∀h∈l,h.nd=n→h.fr∈ss∧h.tt∈ss)→sumTo (chg l n) t ss=lev l n t
 | [],_,_=>j7 t ss
 | h::l,h1,h2=>by
  have ih:=ln hn n t (l:=l) (fun x hx=>h1 x (by simp[hx])) (fun x hx=>h2 x (by simp[hx]));have hlt:=h1 h (by simp);show sumTo (fun x=>chgC h n x+chg l n x) t ss=_
  rw[ll,ih];simp only[lev];congr 1
  unfold chgC levC;by_cases hnd:h.nd=n
  ·obtain⟨m1,m2⟩:=h2 h (by simp) hnd
   simp only[hnd,if_true];have e:(fun x=>(if h.fr=x then h.sz else 0)-(if h.tt=x then h.sz else 0))=(fun x=>(if h.fr=x then h.sz else 0)+ - (if h.tt=x then h.sz else 0)):=by funext x;omega
   rw[e,ll,pG,lm hn m1,lm hn m2];simp only[true_and];split<;>split<;>split<;>omega
  ·simp only[hnd,if_false,false_and]
   exact j7 t ss
def stepV:List Sp→Int→Int→Int
 | [],_,v=>v
 | x::P,t,v=>if x.1≤t then stepV P t x.2 else v
def LevOK (qs:List Int) (H:List Hld):Prop:=∀(n:Nat) (q:Int),qs[n]? =some q→∀t,lev H (n:Int) t≤q
def leH (x y:Hld):Prop:=x.nd<y.nd∨(x.nd=y.nd∧(x.fr<y.fr∨(x.fr=y.fr∧(x.tt<y.tt∨(x.tt=y.tt∧(x.tk<y.tk∨(x.tk=y.tk∧x.sz≤y.sz)))))))
def HkOK (qs:List Int) (H:List Hld):Prop:=H.length≤512∧(∀h∈H,hValN qs.length h)∧H.Pairwise leH∧LevOK qs H
theorem mE (f:Int→Int) {t:Int}:∀{ss:List Int},(∀x∈ss,t<x)→sumTo f t ss=0
 | [],_=>rfl
 | x::ss,h=>by
  have h1:=h x (by simp);simp only[sumTo];rw[if_neg (by omega),mE f (fun y hy=>h y (by simp[hy]))];rfl
def lvF (f:Int→Int):List Int→Int→List Sp
 | [],_=>[]
 | t::ts,S=>if f t=0 then lvF f ts S else(t,S+f t)::lvF f ts (S+f t)
def sumF (f:Int→Int):List Int→Int
 | []=>0
 | t::ts=>f t+sumF f ts
theorem i8 (f:Int→Int) (t:Int):∀a:List Int,sumF f (a++[t])=sumF f a+f t
 | []=>by simp[sumF]
 | x::a=>by rw[a8];simp only[sumF];rw[i8 f t a];omega
theorem ix (f:Int→Int) (t:Int):∀(a:List Int) (S:Int),lvF f (a++[t]) S=if f t=0 then lvF f a S else lvF f a S++[(t,S+sumF f a+f t)]
 | [],S=>by simp only[br,lvF,sumF];split<;>simp
 | x::a,S=>by
  rw[a8];simp only[lvF,sumF];by_cases h:f x=0
  ·rw[if_pos h,if_pos h,ix f t a,h]
   simp
  ·rw[if_neg h,if_neg h,ix f t a]
   split
   ·rfl
   ·rw[a8];congr 4;omega
theorem mF {f:Int→Int} {M:Int} (h:∀t,-M≤f t∧f t≤M):∀l:List Int,-(l.length*M)≤sumF f l∧sumF f l≤l.length*M
 | []=>by simp[sumF]
 | t::l=>by
  have h1:=h t;have h2:=mF h l;have e:((t::l).length:Int)*M=(l.length:Int)*M+M:=by
   rw[aI,Int.natCast_add,Int.add_mul];simp
  rw[e];simp only[sumF];omega
theorem jL (f:Int→Int) {x:Sp}:∀{ss:List Int} {S:Int},x∈lvF f ss S→x.1∈ss
 | [],_,h=>by cases h
 | t::ts,S,h=>by
  simp only[lvF]at h;split at h
  ·exact List.mem_cons_of_mem _ (jL f h)
  ·rcases aG.1 h with rfl | h
   ·simp
   ·exact List.mem_cons_of_mem _ (jL f h)
theorem lU (f:Int→Int):∀{ss:List Int} {S:Int},ss.Pairwise (· < ·)→(lvF f ss S).Pairwise (fun a b=>a.1<b.1)
 | [],_,_=>List.Pairwise.nil
 | t::ts,S,h=>by
  obtain⟨h1,h2⟩:=aM.1 h;simp only[lvF];split
  ·exact lU f h2
  ·exact aM.2 ⟨fun x hx=>h1 x.1 (jL f hx),lU f h2⟩
theorem i9 (f:Int→Int) (t:Int):∀{ss:List Int} (S:Int),ss.Pairwise (· < ·)→stepV (lvF f ss S) t S=S+sumTo f t ss
 | [],S,_=>by simp[lvF,stepV,sumTo]
 | x::ss,S,h=>by
  obtain⟨h1,h2⟩:=aM.1 h;simp only[lvF,sumTo];by_cases h0:f x=0
  ·rw[if_pos h0,i9 f t S h2,h0]
   split<;>omega
  ·rw[if_neg h0]
   simp only[stepV];by_cases hx:x≤t
   ·rw[if_pos hx,if_pos hx,i9 f t _ h2];omega
   ·rw[if_neg hx,if_neg hx,mE f (fun y hy=>by have:=h1 y hy;omega)];omega
structure LvlOK (l:List Hld) (n:Int) (P:List Sp):Prop where
 val:∀t,stepV P t 0=lev l n t
 asc:P.Pairwise (fun a b=>a.1<b.1)
 bnd:∀x∈P,0≤x.1∧x.1≤1099511627776
theorem LvlOK.mk' {l:List Hld} {n:Int} {ss:List Int} (h1:∀h∈l,h.fr<h.tt) (h2:ss.Pairwise (· < ·)) (h3:∀h∈l,h.nd=n→h.fr∈ss∧h.tt∈ss) (h4:∀x∈ss,0≤x∧x≤1099511627776):LvlOK l n (lvF (chg l n) ss 0) where
 val t:=by
  rw[i9 _ _ _ h2,ln (h2.imp (fun h e=>by omega)) n t h1 h3];omega
 asc:=lU _ h2
 bnd x hx:=h4 _ (jL _ hx)
theorem jy (t:Int):∀(P:List Sp) (v:Int),stepV P t v=v∨∃x∈P,stepV P t v=x.2
 | [],v=>.inl rfl
 | x::P,v=>by
  simp only[stepV];split
  ·rcases jy t P x.2 with h | ⟨y,hy,h⟩
   ·exact .inr ⟨x,by simp,h⟩
   ·exact .inr ⟨y,by simp[hy],h⟩
  ·exact .inl rfl
theorem j9 {x:Sp}:∀{P:List Sp} {v:Int},P.Pairwise (fun a b=>a.1<b.1)→x∈P→stepV P x.1 v=x.2
 | y::P,v,h,hx=>by
  obtain⟨h1,h2⟩:=aM.1 h;simp only[stepV];rcases aG.1 hx with rfl | hx
  ·rw[if_pos (aR _)]
   cases P with
   | nil=>rfl
   | cons z P=>
    have:=h1 z (by simp);simp only[stepV];rw[if_neg (by omega)]
  ·have:=h1 x hx
   rw[if_pos (by omega)];exact j9 h2 hx
theorem LvlOK.most {l:List Hld} {n:Int} {P:List Sp} (h:LvlOK l n P) {q:Int} (h0:0≤q):(∀x∈P,x.2≤q)↔∀t,lev l n t≤q:=by
 constructor
 ·intro hx t
  rw[←h.val];rcases jy t P 0 with e | ⟨x,hm,e⟩
  ·omega
  ·have:=hx x hm;omega
 ·intro ht x hx
  have:=ht x.1;rw[←h.val,j9 h.asc hx]at this;exact this
theorem lr {x:Sp} {t:Int} {B:List Sp}:∀{A:List Sp} {v:Int},(A++x::B).Pairwise (fun a b=>a.1<b.1)→x.1≤t→(∀y∈B,t<y.1)→stepV (A++x::B) t v=x.2
 | [],v,h,h1,h2=>by
  simp only[br,stepV];rw[if_pos h1]
  cases B with
  | nil=>rfl
  | cons z B=>
   have:=h2 z (by simp);simp only[stepV];rw[if_neg (by omega)]
 | y::A,v,h,h1,h2=>by
  obtain⟨k1,k2⟩:=aM.1 h;have:=k1 x (by simp);simp only[a8,stepV];rw[if_pos (by omega)];exact lr k2 h1 h2
theorem mG {t v:Int}:∀{P:List Sp},(∀y∈P,t<y.1)→stepV P t v=v
 | [],_=>rfl
 | y::P,h=>by
  have:=h y (by simp);simp only[stepV];rw[if_neg (by omega)]
def RmS (hs:List Hld) (n q sz:Int) (l:List Sp):Prop:=l.Pairwise (fun a b=>a.2≤b.1)∧(∀x∈l,∀t,x.1≤t→t<x.2→lev hs n t+sz≤q)∧(hs=[]→l=if q<sz then[]else[(0,1099511627776)])
structure FrI (P:List Sp) (q sz T:Int) (L:List Sp) (a:Int):Prop where
 ok:∀x∈L,x.1<x.2∧x.2≤T
 sep:L.Pairwise (fun a b=>a.2≤b.1)
 rm:∀x∈L,∀t,x.1≤t→t<x.2→stepV P t 0+sz≤q
 op:0≤a→(∀x∈L,x.2≤a)∧a≤T∧∀t,a≤t→t<T→stepV P t 0+sz≤q
 ng:a<0→a= -1
def endL' (L:List Sp) (a t:Int):List Sp:=if 0≤a∧a<t then L++[(a,t)]else L
def nextT (P:List Sp):Int:=match P with
 | []=>1099511627776
 | x::_=>x.1
theorem FrI.end {P:List Sp} {q sz T:Int} {L:List Sp} {a:Int} (h:FrI P q sz T L a):(∀x∈endL' L a T,x.1<x.2∧x.2≤T)∧(endL' L a T).Pairwise (fun a b=>a.2≤b.1)∧∀x∈endL' L a T,∀t,x.1≤t→t<x.2→stepV P t 0+sz≤q:=by
 unfold endL';split
 ·rename_i hc
  obtain⟨o1,o2,o3⟩:=h.op hc.1;refine⟨fun x hx=>?_,aT.2 ⟨h.sep,by simp,fun x hx y hy=>?_⟩,fun x hx t h1 h2=>?_⟩
  ·rcases aA.1 hx with hx | hx
   ·exact h.ok x hx
   ·rw[aH.1 hx];exact⟨hc.2,aR _⟩
  ·rw[aH.1 hy];exact o1 x hx
  ·rcases aA.1 hx with hx | hx
   ·exact h.rm x hx t h1 h2
   ·rw[aH.1 hx]at h1 h2;exact o3 t h1 h2
 ·exact⟨h.ok,h.sep,h.rm⟩
theorem FrI.step {A B:List Sp} {x:Sp} {q sz:Int} {L:List Sp} {a:Int} (hasc:(A++x::B).Pairwise (fun a b=>a.1<b.1)) (hb:∀y∈B,y.1≤1099511627776) (hx:x.1<1099511627776) (hx0:0≤x.1) (h:FrI (A++x::B) q sz x.1 L a):
  FrI (A++x::B) q sz (nextT B) (if q-x.2<sz then endL' L a x.1 else L) (if q-x.2<sz then -1 else if a<0 then x.1 else a):=by
 have hn:x.1≤nextT B:=by
  cases B with
  | nil=>exact Int.le_of_lt hx
  | cons z B=>
   have:=(aM.1 (aT.1 hasc).2.1).1 z (by simp);exact Int.le_of_lt this
 have hv:∀t,x.1≤t→t<nextT B→stepV (A++x::B) t 0=x.2:=fun t h1 h2=>lr hasc h1 (fun y hy=>by
  cases B with
  | nil=>cases hy
  | cons z B=>
   have h2:t<z.1:=h2;rcases aG.1 hy with rfl | hy
   ·exact h2
   ·have:=(aM.1 (aM.1 (aT.1 hasc).2.1).2).1 y hy
    omega)
 obtain⟨e1,e2,e3⟩:=h.end;by_cases hc:q-x.2<sz
 ·rw[if_pos hc,if_pos hc]
  exact⟨fun y hy=>⟨(e1 y hy).1,Int.le_trans (e1 y hy).2 hn⟩,e2,e3,fun h=>absurd h (by omega),fun _=>rfl⟩
 ·rw[if_neg hc,if_neg hc]
  refine⟨fun y hy=>⟨(h.ok y hy).1,Int.le_trans (h.ok y hy).2 hn⟩,h.sep,h.rm,fun h0=>?_,fun h0=>?_⟩
  ·by_cases ha:a<0
   ·rw[if_pos ha]
    exact⟨fun y hy=>(h.ok y hy).2,hn,fun t h1 h2=>by rw[hv t h1 h2];omega⟩
   ·rw[if_neg ha]
    obtain⟨o1,o2,o3⟩:=h.op (by omega);refine⟨o1,by omega,fun t h1 h2=>?_⟩
    by_cases ht:t<x.1
    ·exact o3 t h1 ht
    ·rw[hv t (by omega) h2];omega
  ·split at h0
   ·omega
   ·omega
theorem FrI.start {P:List Sp} {q sz:Int} (hasc:P.Pairwise (fun a b=>a.1<b.1)) (hb:∀y∈P,0≤y.1):FrI P q sz (nextT P) [] (if q<sz then -1 else 0):=by
 refine⟨(fun x h=>by cases h),List.Pairwise.nil,(fun x h=>by cases h),fun h=>?_,fun h=>?_⟩
 ·split at h
  ·omega
  ·rename_i hc
   rw[if_neg hc];refine⟨(fun x h=>by cases h),?_,fun t h1 h2=>?_⟩
   ·cases P with
    | nil=>exact(by decide:(0:Int)≤1099511627776)
    | cons z P=>exact hb z (by simp)
   ·rw[mG]
    ·omega
    ·intro y hy
     cases P with
     | nil=>cases hy
     | cons z P=>
      have h2:t<z.1:=h2;rcases aG.1 hy with rfl | hy
      ·exact h2
      ·have:=(aM.1 hasc).1 y hy
       omega
 ·split at h
  ·rename_i hc;rw[if_pos hc]
  ·omega
theorem ja {α:Type} {R:α→α→Prop} (ht:∀a b c,R a b→R b c→R a c):∀{l:List α},(∀(k:Nat) a b,l[k]? =some a→l[k+1]? =some b→R a b)→l.Pairwise R
 | [],_=>List.Pairwise.nil
 | [a],_=>by simp
 | a::b::l,h=>by
  have ih:=ja ht (l:=b::l) (fun k x y hx hy=>h (k+1) x y (by simpa using hx) (by simpa using hy));have hab:=h 0 a b rfl rfl;refine aM.2 ⟨fun x hx=>?_,ih⟩
  rcases aG.1 hx with rfl | hx
  ·exact hab
  ·exact ht _ _ _ hab ((aM.1 ih).1 x hx)
theorem jb {α:Type} {R:α→α→Prop} {l:List α} (h:l.Pairwise R) {k:Nat} {a b:α} (ha:l[k]? =some a) (hb:l[k+1]? =some b):R a b:=by
 obtain⟨h1,rfl⟩:=aw.1 ha;obtain⟨h2,rfl⟩:=aw.1 hb;exact(cJ.1 h) k (k+1) h1 h2 (by omega)
end
end Go.Proofs.YtfnciigbbolckaaGreat
