/- Part 24 of the proof about mailboattop.TopOthers. No condition. -/
import Derived.Test.YtfnciigbbolckaaGreatQ00
import Derived.Test.YtfnciigbbolckaaGreatQ04
import Derived.Test.YtfnciigbbolckaaGreatQ06
import Derived.Test.YtfnciigbbolckaaGreatQ23
set_option linter.unusedVariables false
set_option linter.unusedSimpArgs false
set_option maxRecDepth 100000
set_option maxHeartbeats 64000000
namespace Go.Proofs.YtfnciigbbolckaaGreat
open Go Go.RowKit Iv
attribute [local go_sem] Oper.semAt_some
attribute [local go_sem] pw gu B_app pv B_get B_toList
section
theorem me (a b:Hld):cmpH a b≤0↔leH a b:=by
 unfold cmpH leH;have h:∀x y:Int,(cmpI x y=0↔x=y)∧(cmpI x y≤0↔x≤y):=fun x y=>⟨dV,by unfold cmpI;split<;>(try split)<;>omega⟩
 have h0:=h a.nd b.nd;have h1:=h a.fr b.fr;have h2:=h a.tt b.tt;have h3:=h a.tk b.tk;have h4:=h a.sz b.sz;generalize cmpI a.nd b.nd=c0 at*
 generalize cmpI a.fr b.fr=c1 at*
 generalize cmpI a.tt b.tt=c2 at*
 generalize cmpI a.tk b.tk=c3 at*
 generalize cmpI a.sz b.sz=c4 at*
 simp only[orL]
 repeat' split
 all_goals omega
def MostRet (P:List Sp) (w:World) (e:Ending) (w':World):Prop:=(∃r:Int,e= .returned (.int .i64 r)∧∀q,0≤q→(r≤q↔∀x∈P,x.2≤q))∧Below w.heap.size w w'
def SchRet (qs:List Int) (cs:List Con) (l:List Hld) (w:World) (e:Ending) (w':World):Prop:=(∃r:Int,e= .returned (.int .i64 r)∧(r=0↔PlanOK qs cs∧HkOK qs l))∧Below w.heap.size w w'
theorem mZ (P:List Sp) (u:Value) (w:World) (h:RSps w w.heap.size u P):
  Calls Tryz.prog 64 #[u] w (MostRet P w):=by
 obtain⟨a,c,rfl,h1,h2,h3,h4⟩:=h;unfold maxLen at h2;have hlen:P.length≤9223372036854775807:=by omega
 have H4:=aa h4;clear h3 h4;go_enter Tryz.func64,Tryz.ntmps64
 go_wp2
 go_loopw [3,8] (fun sv iv wr=>∃(k:Nat) (S:Int),k≤P.length∧iv= .int .i64 k∧sv= .int .i64 S∧Hid (∀q,0≤q→(S≤q↔∀x∈P.take k,x.2≤q))∧Below w.heap.size w wr) (fun _ iv _=>P.length-(intOf iv).toNat)
 case atStart=>exact⟨0,0,aE _,rfl,rfl,aa (fun q hq=>⟨fun _ x h=>by simp at h,fun _=>hq⟩),ap _ _⟩
 case round=>
  obtain⟨k,S,hk,rfl,rfl,HP0,hB⟩:=hrel;by_cases hlt:k<P.length
  ·obtain⟨bb,o,rfl,hbn,hcell⟩:=H4.out (by omega)
   obtain⟨x,hx⟩:∃x,P[k]? =some x:=⟨_,am (by omega)⟩
   have q0:wr.cell? ⟨bb,o+k*2,none⟩=some (.int .i64 x.1):=(hB.cell (p:=⟨bb,o+k*2,none⟩) hbn).trans (sp0 hcell hx);have q1:wr.cell? ⟨bb,o+k*2+1,none⟩=some (.int .i64 x.2):=(hB.cell (p:=⟨bb,o+k*2+1,none⟩) hbn).trans (sp1 hcell hx);have k0:(0:Int)≤(k:Int):=by omega
   have k1:(k:Int)<(P.length:Int):=by omega
   have HTK:Hid (P.take (k+1)=P.take k++[x]):=aa (by rw[aN,hx];rfl);clear hx hcell;go_wp2
   go_roundw
   case rel=>exact⟨k+1,_,by omega,by go_num,rfl,aa (fun q hq=>by
    have h:=HP0.out q hq;rw[HTK.out];constructor
    ·intro hm y hy
     rcases aA.1 hy with hy | hy
     ·exact h.1 (by first | omega | (split at hm<;>omega)) y hy
     ·rw[aH.1 hy];first | omega | (split at hm<;>omega)
    ·intro hm
     have h1:=h.2 (fun y hy=>hm y (by simp[hy]));have h2:=hm x (by simp)
     first | omega | (split<;>omega)),cZ⟩
   case measure=>simp[intOf];omega
  ·obtain rfl:k=P.length:=by omega
   go_wp2
   go_ret
   exact⟨⟨S,rfl,by have:=HP0.out;rwa [aL]at this⟩,hB⟩
theorem kw (qs:List Int) (cs:List Con) (l:List Hld) (uq uc ul:Value) (w:World) (hq:RRow intC 1 w w.heap.size uq qs) (hc:RRow conC 7 w w.heap.size uc cs) (hl:RRow hldC 5 w w.heap.size ul l):
  Calls Tryz.prog 53 #[.agg #[uq,uc],ul] w (SchRet qs cs l w):=by
 have HQ:=aa hq;have HC:=aa hc;have HLR:=aa hl;obtain⟨aq,cq,rfl,q1,q2,q3,q4⟩:=hq;obtain⟨ac,cc,rfl,-⟩:=hc;obtain⟨al,cl,rfl,l1,l2,l3,l4⟩:=hl;unfold maxLen at l2 q2;have hll:l.length≤9223372036854775807:=by omega
 have hql:qs.length≤9223372036854775807:=by omega
 have HL:=aa l4;have HQ4:=aa q4;clear l3 l4 q3 q4;go_enter Tryz.func53,Tryz.ntmps53
 go_wp2_with fail
 refine(eV qs cs _ _ _ (HQ.out.below' cZ) (HC.out.below' cZ)).mono ?_
 rintro e w1 hpp;obtain⟨⟨r,rfl,hr1,hr2⟩,hb1⟩:=hpp;have hB1:Below w.heap.size w w1:=dq (de (ap _ _)) hb1;have GP:w1.heap[w.heap.size]? =some (.cells #[.slice aq qs.length cq,.slice ac cs.length cc] 25 (0,0)):=(hb1.block _ (by simp)).trans cW;have HGP:=aa GP;by_cases zr:r=0
 case neg=>
  have d0:(r != 0)=true:=by simpa using zr
  have HNP:Hid (¬PlanOK qs cs):=aa (fun h=>zr (hr2 h));clear zr hr1 hr2 GP hb1;go_wp2
  go_ret
  exact⟨⟨1,rfl,fun h=>absurd h (by decide),fun h=>absurd h.1 HNP.out⟩,hB1⟩
 subst zr;have HPO:=aa (hr1 rfl);clear hr1 hr2 hb1 GP;by_cases y1:512<l.length
 ·have d1:decide ((512:Int)<(l.length:Int))=true:=by rw[decide_eq_true_eq];omega
  have d1':(512:Int)<(l.length:Int):=by omega
  clear y1;go_wp2
  go_ret
  exact⟨⟨4,rfl,fun h=>absurd h (by decide),fun h=>by have:=h.2.1;omega⟩,hB1⟩
 have d1:decide ((512:Int)<(l.length:Int))=false:=by rw[decide_eq_false_iff_not];omega
 have d1':(l.length:Int)≤512:=by omega
 have hl5:l.length≤512:=by omega
 clear y1;go_wp2
 go_loopw [17] (fun i wr=>∃k:Nat,k≤l.length∧i= .int .i64 k∧Hid (∀h∈l.take k,hValN qs.length h)∧Hid (∀(j:Nat) a b,l[j]? =some a→l[j+1]? =some b→j+1<k→leH a b)∧Hid (wr.heap[w.heap.size]? =some (.cells #[.slice aq qs.length cq,.slice ac cs.length cc] 25 (0,0)))∧Below w.heap.size w wr) (fun i _=>l.length-(intOf i).toNat)
 case atStart=>exact⟨0,aE _,rfl,aa (by simp),aa (fun j a b _ _ h=>by omega),HGP,hB1⟩
 case round=>
  obtain⟨k,hk,rfl,HV,HO,HBX,hB⟩:=hrel;have hsz:w.heap.size<wr.heap.size:=(ai.1 HBX.out).1;have cp:=fun o=>cU HBX.out o
  by_cases hlt:k<l.length
  ·obtain⟨bb,o,rfl,hbn,hcell⟩:=HL.out (by omega)
   obtain⟨x,hx⟩:∃x,l[k]? =some x:=⟨_,am hlt⟩
   have q0:wr.cell? ⟨bb,o+k*5,none⟩=some (.int .i64 x.nd):=(hB.cell (p:=⟨bb,o+k*5+0,none⟩) hbn).trans (hcell k x hx 0 _ rfl);have q1:wr.cell? ⟨bb,o+k*5+1,none⟩=some (.int .i64 x.fr):=(hB.cell (p:=⟨bb,o+k*5+1,none⟩) hbn).trans (hcell k x hx 1 _ rfl);have q2:wr.cell? ⟨bb,o+k*5+2,none⟩=some (.int .i64 x.tt):=(hB.cell (p:=⟨bb,o+k*5+2,none⟩) hbn).trans (hcell k x hx 2 _ rfl);have q3:wr.cell? ⟨bb,o+k*5+3,none⟩=some (.int .i64 x.sz):=(hB.cell (p:=⟨bb,o+k*5+3,none⟩) hbn).trans (hcell k x hx 3 _ rfl);have q4:wr.cell? ⟨bb,o+k*5+4,none⟩=some (.int .i64 x.tk):=(hB.cell (p:=⟨bb,o+k*5+4,none⟩) hbn).trans (hcell k x hx 4 _ rfl);have k0:(0:Int)≤(k:Int):=by omega
   have k1:(k:Int)<(l.length:Int):=by omega
   have HX:=aa hx;have HCELL:=aa hcell;clear hx hcell;go_wp2_with fail
   refine(mC qs _ _ x _ (HQ.out.below (C:=w.heap.size) cZ (aj _) (by simp;omega)) ⟨_,_,_,rfl⟩).mono ?_
   rintro e w2 hvv;obtain⟨⟨v,rfl,hv1⟩,hb2⟩:=hvv;have hB2:Below w.heap.size w w2:=dq (de hB) hb2;have hz2:wr.heap.size<w2.heap.size:=by have:=hb2.size;simp at this;omega
   have GX:w2.heap[wr.heap.size]? =some (.cells #[.int .i64 x.nd,.int .i64 x.fr,.int .i64 x.tt,.int .i64 x.sz,.int .i64 x.tk] 75 (0,0)):=(hb2.block _ (by simp)).trans cW;have HBX2:Hid (w2.heap[w.heap.size]? =some (.cells #[.slice aq qs.length cq,.slice ac cs.length cc] 25 (0,0))):=aa ((hb2.block _ (by simp;omega)).trans ((ak _ _ _ (by omega)).trans HBX.out));have hsz2:w.heap.size<w2.heap.size:=by omega
   clear cp hb2 hB;clear q0 q1 q2 q3 q4
   cases v with
   | false=>
    have HNV:Hid (¬hValN qs.length x):=aa (fun h=>by have:=hv1.2 h;cases this);clear hv1;go_wp2
    go_ret
    exact⟨⟨2,rfl,fun h=>absurd h (by decide),fun h=>absurd (h.2.2.1 x (az HX.out)) HNV.out⟩,hB2⟩
   | true=>
    have HVX:Hid (hValN qs.length x):=aa (hv1.1 rfl);clear hv1;have HV1:Hid (∀b∈l.take (k+1),hValN qs.length b):=aa (by
     intro y hy;rw[aN,HX.out]at hy;rcases aA.1 hy with hy | hy
     ·exact HV.out y hy
     ·simp at hy;subst hy;exact HVX.out)
    rcases bC k with hk0 | hk0
    ·subst hk0
     go_upto_region 10 with fail
     go_quiet (fail)
     go_wp2
     go_roundw
     case rel=>exact⟨1,by omega,by go_num,HV1,aa (fun j a b _ _ h=>by omega),aa HBX2.out,cZ⟩
     case measure=>simp[intOf];omega
    ·obtain⟨j,rfl⟩:∃j,k=j+1:=⟨k-1,by omega⟩
     obtain⟨y,hy⟩:∃y,l[j]? =some y:=⟨_,am (by omega)⟩
     have HY:=aa hy;have hkp:decide ((0:Int)<((j:Int)+1))=true:=decide_eq_true (by omega);have hkp2:(0:Int)<(j:Int)+1:=by omega
     have hj1:(j:Int)<(l.length:Int):=by omega
     have hj0:(0:Int)≤(j:Int):=by omega
     have hwj:IntKind.i64.wrap ((j:Int)+1-1)=(j:Int):=by rw[ax];omega
     have hwj2:IntKind.i64.wrap (j:Int)=(j:Int):=by rw[ax];omega
     have HPY:Hid (∀V:World,Below w.heap.size w V→V.cell? ⟨bb,o+j*5,none⟩=some (.int .i64 y.nd)∧V.cell? ⟨bb,o+j*5+1,none⟩=some (.int .i64 y.fr)∧V.cell? ⟨bb,o+j*5+2,none⟩=some (.int .i64 y.tt)∧V.cell? ⟨bb,o+j*5+3,none⟩=some (.int .i64 y.sz)∧V.cell? ⟨bb,o+j*5+4,none⟩=some (.int .i64 y.tk)):=aa (fun V hV=>⟨(hV.cell (p:=⟨bb,o+j*5+0,none⟩) hbn).trans (HCELL.out j y HY.out 0 _ rfl),(hV.cell (p:=⟨bb,o+j*5+1,none⟩) hbn).trans (HCELL.out j y HY.out 1 _ rfl),(hV.cell (p:=⟨bb,o+j*5+2,none⟩) hbn).trans (HCELL.out j y HY.out 2 _ rfl),(hV.cell (p:=⟨bb,o+j*5+3,none⟩) hbn).trans (HCELL.out j y HY.out 3 _ rfl),(hV.cell (p:=⟨bb,o+j*5+4,none⟩) hbn).trans (HCELL.out j y HY.out 4 _ rfl)⟩);obtain⟨p0,p1,p2,p3,p4⟩:=HPY.out w2 hB2;have cx:=fun o=>cU GX o
     obtain⟨c,hc⟩:=cR (cmpH y x)
     have HCM:=aa hc;clear hy hk0 hc;have hbb2:bb<w2.heap.size:=by omega
     go_upto_region 10 with fail
     refine dd (fun V=>Below (w2).heap.size (w2) V) [0,0,0,0,0,0,0,1,1,3,0,0] [0,1,2,3,4,5,6,7,8,9,10,11] (by kernel_rfl) (by kernel_rfl) ?_ ?_
     case refine_1=>exact cZ
     (iterate 9 (first | (refine cX rfl (by decide) (by rfl) (fun w1 hS=>by(try(obtain⟨_,_⟩:=bcell (hS rfl)));go_simp;rfl) ?_;simp only[Act.put,ae,af,ag]) | (refine dm rfl (by decide) (by rfl) ?_;simp only[Act.put,ae,af,ag])))
     (refine di rfl rfl (by rfl) (fun K hK=>?_);go_simp)
     refine(jZ y x _).mono ?_
     rw[HCM.out];rintro e wc35 ⟨rfl,hbc35⟩
     (refine hK _ _ ?_;clear hK K;(try simp only[Act.put,ae,af,ag]))
     (iterate 2 (first | (refine cX rfl (by decide) (by rfl) (fun w1 hS=>by(try(obtain⟨_,_⟩:=bcell (hS rfl)));go_simp;rfl) ?_;simp only[Act.put,ae,af,ag]) | (refine dm rfl (by decide) (by rfl) ?_;simp only[Act.put,ae,af,ag])))
     refine du ?_
     have hbd:Below w2.heap.size w2 wc35:=dq (bdrew (ap _ w2):Below w2.heap.size w2 w2.drew) hbc35;have HBX3:Hid (wc35.heap[w.heap.size]? =some (.cells #[.slice aq qs.length cq,.slice ac cs.length cc] 25 (0,0))):=aa ((hbd.block _ hsz2).trans HBX2.out);have hB3:Below w.heap.size w wc35:=dq hB2 hbd;clear hbc35 hbd cx GX p0 p1 p2 p3 p4;by_cases zc:0<c
     ·have dc2:decide (0<c)=true:=decide_eq_true zc
      rw[dc2];have HZC:Hid (¬leH y x):=aa (fun h=>by have:=(me y x).2 h;rw[HCM.out]at this;omega);clear zc;go_wp2
      go_ret
      exact⟨⟨9,rfl,fun h=>absurd h (by decide),fun h=>absurd (jb h.2.2.2.1 HY.out HX.out) HZC.out⟩,hB3⟩
     ·have dc2:decide (0<c)=false:=decide_eq_false zc
      rw[dc2];have HZC:Hid (leH y x):=aa ((me y x).1 (by rw[HCM.out];omega));clear zc;go_wp2
      go_roundw
      case rel=>exact⟨j+1+1,by omega,by go_num,HV1,aa (fun i a b ha hb h=>by
       by_cases e:i=j
       ·subst e
        have h1:=ha.symm.trans HY.out;have h2:=hb.symm.trans HX.out;injection h1 with h1
        injection h2 with h2
        rw[h1,h2];exact HZC.out
       ·exact HO.out i a b ha hb (by omega)),HBX3,hB3⟩
      case measure=>simp[intOf];omega
  ·obtain rfl:k=l.length:=by omega
   have HVA:Hid (∀h∈l,hValN qs.length h):=aa (by have:=HV.out;rwa [aL]at this);have HOA:Hid (l.Pairwise leH):=aa (ja (fun a b c h k=>by unfold leH at*;omega) fun j a b ha hb=>HO.out j a b ha hb (aw.1 hb).1);clear HV;go_wp2
   go_loopw [42] (fun i wr=>∃k:Nat,k≤qs.length∧i= .int .i64 k∧Hid (∀(n:Nat) q,qs[n]? =some q→n<k→∀t,lev l (n:Int) t≤q)∧Below w.heap.size w wr) (fun i _=>qs.length-(intOf i).toNat)
   case atStart=>exact⟨0,aE _,rfl,aa (fun n q _ h=>by omega),hB⟩
   case round=>
    clear cp hsz hB;obtain⟨k,hk,rfl,HLV,hB⟩:=hrel;by_cases hlt:k<qs.length
    ·obtain⟨bb,o,rfl,hbn,hcell⟩:=HQ4.out (by omega)
     obtain⟨x,hx⟩:∃x,qs[k]? =some x:=⟨_,am hlt⟩
     have q0:wr.cell? ⟨bb,o+k,none⟩=some (.int .i64 x):=(hB.cell (p:=⟨bb,o+k,none⟩) hbn).trans (by have:=hcell k x hx 0 _ rfl;simpa using this);have k0:(0:Int)≤(k:Int):=by omega
     have k1:(k:Int)<(qs.length:Int):=by omega
     have HXQ:=aa (az hx);have HXE:=aa hx;have HX0:Hid (0≤x):=aa (HPO.out.2.1 x (az hx)).1;clear hx hcell;go_wp2_with fail
     refine(ic l k _ _ (HLR.out.below' hB) hl5 (fun h hh=>⟨(HVA.out h hh).2.1,(HVA.out h hh).2.2.1⟩)).mono ?_
     rintro e w2 hvv;obtain⟨u2,P2,rfl,hr2,hp2,-,hlv,hb2⟩:=hvv;have HLK:=aa hlv;clear hlv;have hB2:Below w.heap.size w w2:=dq hB hb2;have HR2:=aa hr2;obtain⟨a2,c2,rfl,-⟩:=id hr2;clear hr2 hb2 q0;go_wp2_with fail
     refine(mZ P2 _ _ HR2.out).mono ?_
     rintro e w3 hvv;obtain⟨⟨r3,rfl,hr30⟩,hb3⟩:=hvv;have HR30:Hid (r3≤x↔∀t,lev l (k:Int) t≤x):=aa ((hr30 x HX0.out).trans (HLK.out.most HX0.out));clear hr30;have hB3:Below w.heap.size w w3:=dq hB2 hb3;clear hb3;by_cases z:r3>x
     ·have dz:decide (r3>x)=true:=decide_eq_true z
      have HZ:=aa z;clear z;go_wp2
      go_ret
      exact⟨⟨15,rfl,fun h=>absurd h (by decide),fun h=>by have h1:=HR30.out.2 (h.2.2.2.2 k x HXE.out);have h3:=HZ.out;omega⟩,hB3⟩
     ·have dz:decide (r3>x)=false:=decide_eq_false z
      have HZ:Hid (∀t,lev l (k:Int) t≤x):=aa (HR30.out.1 (by omega));clear z;go_wp2
      go_roundw
      case rel=>exact⟨k+1,by omega,by go_num,aa (fun n q hq hn=>by
       by_cases e:n=k
       ·subst e
        have:=hq.symm.trans HXE.out;injection this with this
        rw[this];exact HZ.out
       ·exact HLV.out n q hq (by omega)),hB3⟩
      case measure=>simp[intOf];omega
    ·obtain rfl:k=qs.length:=by omega
     go_wp2
     go_ret
     exact⟨⟨0,rfl,(fun _=>⟨HPO.out,hl5,HVA.out,HOA.out,fun n q hq=>HLV.out n q hq (aw.1 hq).1⟩),fun _=>rfl⟩,hB⟩
end
section
def BvPost (cs:List Con) (b:Bkg) (w:World) (e:Ending) (w':World):Prop:=(∃r:Bool,e= .returned (.bool r)∧(r=true→bVal cs b)∧(bVal cs b→r=true))∧Below w.heap.size w w'
theorem m5 (qs:List Int) (cs:List Con) (uq uc:Value) (b:Bkg) (w:World) (hq:RRow intC 1 w w.heap.size uq qs) (hc:RRow conC 7 w w.heap.size uc cs):
  Calls Tryz.prog 28 #[.agg #[uq,uc],.agg #[.int .i64 b.ct,.int .i64 b.bg,.int .i64 b.en,.int .i64 b.tk]] w (BvPost cs b w):=by
 obtain⟨ct,bg,en,tk⟩:=b;obtain⟨aq,cq,rfl,-⟩:=hq;obtain⟨ac,cc,rfl,c1,c2,c3,c4⟩:=hc;unfold maxLen at c2;have hlc:cs.length≤9223372036854775807:=by omega
 have HD:=aa c4;clear c3 c4;simp only;by_cases z1:ct<0
 ·have d1:decide (ct<0)=true:=decide_eq_true z1
  have HN:Hid (¬bVal cs ⟨ct,bg,en,tk⟩):=aa (fun h=>by have:0≤ct:=h.1.1;omega);clear z1;go_enter Tryz.func28,Tryz.ntmps28
  go_wp2
  go_ret
  exact⟨⟨false,rfl,(fun h=>by cases h),fun h=>absurd h HN.out⟩,cZ⟩
 obtain⟨n,rfl⟩:∃n:Nat,ct=(n:Int):=⟨ct.toNat,by omega⟩
 have d1:decide ((n:Int)<0)=false:=decide_eq_false z1;have n0:(0:Int)≤(n:Int):=by omega
 by_cases z2:n<cs.length
 case neg=>
  have d2:decide ((n:Int)≥(cs.length:Int))=true:=decide_eq_true (by omega);have d2':(cs.length:Int)≤(n:Int):=by omega
  have HN:Hid (¬bVal cs ⟨n,bg,en,tk⟩):=aa (fun h=>by have:(n:Int)<cs.length:=h.1.2;omega);clear z1;go_enter Tryz.func28,Tryz.ntmps28
  go_wp2
  go_ret
  exact⟨⟨false,rfl,(fun h=>by cases h),fun h=>absurd h HN.out⟩,cZ⟩
 have d2:decide ((n:Int)≥(cs.length:Int))=false:=decide_eq_false (by omega);have d2':(n:Int)<(cs.length:Int):=by omega
 clear z1;by_cases z3:tk<0
 ·have d3:decide (tk<0)=true:=decide_eq_true z3
  have HN:Hid (¬bVal cs ⟨n,bg,en,tk⟩):=aa (fun h=>by have:0≤tk:=h.2.1.1;omega);clear z3;go_enter Tryz.func28,Tryz.ntmps28
  go_wp2
  go_ret
  exact⟨⟨false,rfl,(fun h=>by cases h),fun h=>absurd h HN.out⟩,cZ⟩
 have d3:decide (tk<0)=false:=decide_eq_false z3;by_cases z4:tk>1152921504606846976
 ·have d4:decide (tk>1152921504606846976)=true:=decide_eq_true z4
  have HN:Hid (¬bVal cs ⟨n,bg,en,tk⟩):=aa (fun h=>by have:tk≤1152921504606846976:=h.2.1.2;omega);clear z3 z4;go_enter Tryz.func28,Tryz.ntmps28
  go_wp2
  go_ret
  exact⟨⟨false,rfl,(fun h=>by cases h),fun h=>absurd h HN.out⟩,cZ⟩
 have d4:decide (tk>1152921504606846976)=false:=decide_eq_false z4;have HTK:Hid (0≤tk∧tk≤1152921504606846976):=aa ⟨by omega,by omega⟩;clear z3 z4;obtain⟨bb,o,rfl,hbn,hcell⟩:=HD.out (by omega);obtain⟨x,hx⟩:∃x,cs[n]? =some x:=⟨_,am z2⟩
 have q0:w.cell? ⟨bb,o+n*7,none⟩=some (.int .i64 x.fr):=hcell n x hx 0 _ rfl;have q1:w.cell? ⟨bb,o+n*7+1,none⟩=some (.int .i64 x.tt):=hcell n x hx 1 _ rfl;have q2:w.cell? ⟨bb,o+n*7+2,none⟩=some (.int .i64 x.st):=hcell n x hx 2 _ rfl;have q3:w.cell? ⟨bb,o+n*7+3,none⟩=some (.int .i64 x.en):=hcell n x hx 3 _ rfl;have q4:w.cell? ⟨bb,o+n*7+4,none⟩=some (.int .i64 x.ra):=hcell n x hx 4 _ rfl;have q5:w.cell? ⟨bb,o+n*7+5,none⟩=some (.int .i64 x.rg):=hcell n x hx 5 _ rfl;have q6:w.cell? ⟨bb,o+n*7+6,none⟩=some (.int .i64 x.lo):=hcell n x hx 6 _ rfl;have HX:=aa hx;clear hx hcell;by_cases z5:bg≥x.st
 case neg=>
  have d5:decide (bg≥x.st)=false:=decide_eq_false z5;have HN:Hid (¬bVal cs ⟨n,bg,en,tk⟩):=aa (fun h=>by have:x.st≤bg:=(h.2.2 x (by simpa using HX.out)).1;omega);clear z5;go_enter Tryz.func28,Tryz.ntmps28
  go_wp2
  go_ret
  exact⟨⟨false,rfl,(fun h=>by cases h),fun h=>absurd h HN.out⟩,cZ⟩
 have d5:decide (bg≥x.st)=true:=decide_eq_true z5;by_cases z6:bg<en
 case neg=>
  have d6:decide (bg<en)=false:=decide_eq_false z6;have HN:Hid (¬bVal cs ⟨n,bg,en,tk⟩):=aa (fun h=>by have:bg<en:=(h.2.2 x (by simpa using HX.out)).2.1;omega);clear z5 z6;go_enter Tryz.func28,Tryz.ntmps28
  go_wp2
  go_ret
  exact⟨⟨false,rfl,(fun h=>by cases h),fun h=>absurd h HN.out⟩,cZ⟩
 have d6:decide (bg<en)=true:=decide_eq_true z6;by_cases z7:en≤x.en
 case neg=>
  have d7:decide (en≤x.en)=false:=decide_eq_false z7;have HN:Hid (¬bVal cs ⟨n,bg,en,tk⟩):=aa (fun h=>by have:en≤x.en:=(h.2.2 x (by simpa using HX.out)).2.2;omega);clear z5 z6 z7;go_enter Tryz.func28,Tryz.ntmps28
  go_wp2
  go_ret
  exact⟨⟨false,rfl,(fun h=>by cases h),fun h=>absurd h HN.out⟩,cZ⟩
 have d7:decide (en≤x.en)=true:=decide_eq_true z7;have HN:Hid (bVal cs ⟨n,bg,en,tk⟩):=aa ⟨⟨n0,d2'⟩,HTK.out,fun c hc=>by
  have hc:cs[n]? =some c:=by simpa using hc
  rw[HX.out]at hc;cases hc;exact⟨z5,z6,z7⟩⟩
 clear z5 z6 z7;go_enter Tryz.func28,Tryz.ntmps28
 go_wp2
 go_ret
 exact⟨⟨true,rfl,fun _=>HN.out,fun _=>rfl⟩,cZ⟩
end
section
def BkPost (qs:List Int) (cs:List Con) (l:List Bkg) (w:World) (e:Ending) (w':World):Prop:=(∃r:Int,e= .returned (.int .i64 r)∧(r=0→PlanOK qs cs∧BkOK cs l)∧(PlanOK qs cs∧BkOK cs l→r=0))∧Below w.heap.size w w'
theorem iO (qs:List Int) (cs:List Con) (l:List Bkg) (uq uc ub:Value) (w:World) (hq:RRow intC 1 w w.heap.size uq qs) (hc:RRow conC 7 w w.heap.size uc cs) (hl:RRow bkgC 4 w w.heap.size ub l):
  Calls Tryz.prog 27 #[.agg #[uq,uc],ub] w (BkPost qs cs l w):=by
 have HQ:=aa hq;have HC:=aa hc;obtain⟨aq,cq,rfl,-⟩:=hq;obtain⟨ac,cc,rfl,-⟩:=hc;obtain⟨al,cl,rfl,l1,l2,l3,l4⟩:=hl;unfold maxLen at l2;have hll:l.length≤9223372036854775807:=by omega
 have HL:=aa l4;clear l3 l4;go_enter Tryz.func27,Tryz.ntmps27
 go_wp2_with fail
 refine(eV qs cs _ _ _ (HQ.out.below' cZ) (HC.out.below' cZ)).mono ?_
 unfold PlanPost;rintro e w1 ⟨⟨r,rfl,hr1,hr2⟩,hb1⟩;have hB1:Below w.heap.size w w1:=dq (de (ap _ _)) hb1;have GP:w1.heap[w.heap.size]? =some (.cells #[.slice aq qs.length cq,.slice ac cs.length cc] 25 (0,0)):=(hb1.block _ (by simp)).trans cW;have HGP:=aa GP;by_cases zr:r=0
 case neg=>
  have d0:(r != 0)=true:=by simpa using zr
  have HN:Hid (¬PlanOK qs cs):=aa (fun h=>zr (hr2 h));clear zr hr1 hr2 GP hb1;go_wp2
  go_ret
  exact⟨⟨1,rfl,fun h=>absurd h (by decide),fun h=>absurd h.1 HN.out⟩,hB1⟩
 subst zr;have HPL:Hid (PlanOK qs cs):=aa (hr1 rfl);clear hr1 hr2 hb1 GP;by_cases y1:512<l.length
 ·have d1:decide ((512:Int)<(l.length:Int))=true:=by rw[decide_eq_true_eq];omega
  have d1':(512:Int)<(l.length:Int):=by omega
  have HN:Hid (¬BkOK cs l):=aa (fun h=>by have:=h.1;omega);clear y1;go_wp2
  go_ret
  exact⟨⟨4,rfl,fun h=>absurd h (by decide),fun h=>absurd h.2 HN.out⟩,hB1⟩
 have d1:decide ((512:Int)<(l.length:Int))=false:=by rw[decide_eq_false_iff_not];omega
 have d1':(l.length:Int)≤512:=by omega
 have hl5:l.length≤512:=by omega
 clear y1;go_wp2
 go_loopw [15] (fun i wr=>∃k:Nat,k≤l.length∧i= .int .i64 k∧Hid ((∀b∈l.take k,bVal cs b)∧∀j a b,j+1<k→l[j]? =some a→l[j+1]? =some b→bNext a b)∧Hid (wr.heap[w.heap.size]? =some (.cells #[.slice aq qs.length cq,.slice ac cs.length cc] 25 (0,0)))∧Below w.heap.size w wr) (fun i _=>l.length-(intOf i).toNat)
 case atStart=>exact⟨0,aE _,rfl,aa ⟨by simp,fun j a b h=>by omega⟩,HGP,hB1⟩
 case round=>
  obtain⟨k,hk,rfl,HV,HBX,hB⟩:=hrel;have hsz:w.heap.size<wr.heap.size:=(ai.1 HBX.out).1;have cp:=fun o=>cU HBX.out o
  by_cases hlt:k<l.length
  ·obtain⟨bb,o,rfl,hbn,hcell⟩:=HL.out (by omega)
   obtain⟨x,hx⟩:∃x,l[k]? =some x:=⟨_,am hlt⟩
   have q0:wr.cell? ⟨bb,o+k*4,none⟩=some (.int .i64 x.ct):=(hB.cell (p:=⟨bb,o+k*4+0,none⟩) hbn).trans (hcell k x hx 0 _ rfl);have q1:wr.cell? ⟨bb,o+k*4+1,none⟩=some (.int .i64 x.bg):=(hB.cell (p:=⟨bb,o+k*4+1,none⟩) hbn).trans (hcell k x hx 1 _ rfl);have q2:wr.cell? ⟨bb,o+k*4+2,none⟩=some (.int .i64 x.en):=(hB.cell (p:=⟨bb,o+k*4+2,none⟩) hbn).trans (hcell k x hx 2 _ rfl);have q3:wr.cell? ⟨bb,o+k*4+3,none⟩=some (.int .i64 x.tk):=(hB.cell (p:=⟨bb,o+k*4+3,none⟩) hbn).trans (hcell k x hx 3 _ rfl);have k0:(0:Int)≤(k:Int):=by omega
   have k1:(k:Int)<(l.length:Int):=by omega
   have HX:=aa hx;have HCELL:=aa hcell;clear hx hcell;go_wp2_with fail
   refine(m5 qs cs _ _ x _ (HQ.out.below (C:=w.heap.size) cZ (aj _) (by simp;omega)) (HC.out.below (C:=w.heap.size) cZ (aj _) (by simp;omega))).mono ?_
   unfold BvPost;rintro e w2 ⟨⟨v,rfl,hv1,hv2⟩,hb2⟩;have hB2:Below w.heap.size w w2:=dq (de hB) hb2;have hz2:wr.heap.size<w2.heap.size:=by have:=hb2.size;simp at this;omega
   have GX:w2.heap[wr.heap.size]? =some (.cells #[.int .i64 x.ct,.int .i64 x.bg,.int .i64 x.en,.int .i64 x.tk] 53 (0,0)):=(hb2.block _ (by simp)).trans cW;have HBX2:Hid (w2.heap[w.heap.size]? =some (.cells #[.slice aq qs.length cq,.slice ac cs.length cc] 25 (0,0))):=aa ((hb2.block _ (by simp;omega)).trans ((ak _ _ _ (by omega)).trans HBX.out));have hsz2:w.heap.size<w2.heap.size:=by omega
   clear cp hb2 hB;clear q0 q1 q2 q3
   cases v with
   | false=>
    have HN:Hid (¬BkOK cs l):=aa (fun h=>by have:=hv2 (h.2.1 x (az HX.out));cases this);clear hv1 hv2;go_wp2
    go_ret
    exact⟨⟨2,rfl,fun h=>absurd h (by decide),fun h=>absurd h.2 HN.out⟩,hB2⟩
   | true=>
    have HVX:Hid (bVal cs x):=aa (hv1 rfl);clear hv1 hv2;have HV1:Hid (∀b∈l.take (k+1),bVal cs b):=aa (by
     intro y hy;rw[aN,HX.out]at hy;rcases aA.1 hy with hy | hy
     ·exact HV.out.1 y hy
     ·simp at hy;subst hy;exact HVX.out)
    rcases bC k with hk0 | hk0
    ·subst hk0
     go_wp2
     go_roundw
     case rel=>exact⟨1,by omega,by go_num,aa ⟨HV1.out,fun j a b h=>by omega⟩,HBX2,hB2⟩
     case measure=>simp[intOf];omega
    ·obtain⟨j,rfl⟩:∃j,k=j+1:=⟨k-1,by omega⟩
     obtain⟨y,hy⟩:∃y,l[j]? =some y:=⟨_,am (by omega)⟩
     have HY:=aa hy;have hkz:(((j:Int)+1)==0)=false:=by rw[beq_eq_false_iff_ne];omega
     have hkz':¬((j:Int)+1=0):=by omega
     have hj1:(j:Int)<(l.length:Int):=by omega
     have hj0:(0:Int)≤(j:Int):=by omega
     have hwj:IntKind.i64.wrap ((j:Int)+1-1)=(j:Int):=by rw[ax];omega
     have hwj2:IntKind.i64.wrap (j:Int)=(j:Int):=by rw[ax];omega
     have HPY:Hid (∀V:World,Below w.heap.size w V→V.cell? ⟨bb,o+j*4,none⟩=some (.int .i64 y.ct)∧V.cell? ⟨bb,o+j*4+1,none⟩=some (.int .i64 y.bg)∧V.cell? ⟨bb,o+j*4+2,none⟩=some (.int .i64 y.en)∧V.cell? ⟨bb,o+j*4+3,none⟩=some (.int .i64 y.tk)):=aa (fun V hV=>⟨(hV.cell (p:=⟨bb,o+j*4+0,none⟩) hbn).trans (HCELL.out j y HY.out 0 _ rfl),(hV.cell (p:=⟨bb,o+j*4+1,none⟩) hbn).trans (HCELL.out j y HY.out 1 _ rfl),(hV.cell (p:=⟨bb,o+j*4+2,none⟩) hbn).trans (HCELL.out j y HY.out 2 _ rfl),(hV.cell (p:=⟨bb,o+j*4+3,none⟩) hbn).trans (HCELL.out j y HY.out 3 _ rfl)⟩);obtain⟨p0,p1,p2,p3⟩:=HPY.out w2 hB2;have cx:=fun o=>cU GX o
     obtain⟨c,hc⟩:=cR (cmpB y x)
     have HCM:=aa hc;clear hy hk0 hc;have hbb2:bb<w2.heap.size:=by omega
     go_upto_region 11 with fail
     refine dd (fun V=>Below (w2).heap.size (w2) V) [0,0,0,0,1,1,3,0] [0,1,2,3,4,5,6,7] (by kernel_rfl) (by kernel_rfl) ?_ ?_
     case refine_1=>exact cZ
     (iterate 6 (first | (refine cX rfl (by decide) (by rfl) (fun w1 hS=>by(try(obtain⟨_,_⟩:=bcell (hS rfl)));go_simp;rfl) ?_;simp only[Act.put,ae,af,ag]) | (refine dm rfl (by decide) (by rfl) ?_;simp only[Act.put,ae,af,ag])))
     (refine di rfl rfl (by rfl) (fun K hK=>?_);go_simp)
     refine(jY y x _).mono ?_
     rw[HCM.out];rintro e wc32 ⟨rfl,hbc32⟩
     (refine hK _ _ ?_;clear hK K;(try simp only[Act.put,ae,af,ag]))
     (iterate 1 (first | (refine cX rfl (by decide) (by rfl) (fun w1 hS=>by(try(obtain⟨_,_⟩:=bcell (hS rfl)));go_simp;rfl) ?_;simp only[Act.put,ae,af,ag]) | (refine dm rfl (by decide) (by rfl) ?_;simp only[Act.put,ae,af,ag])))
     refine du ?_
     have hbd:Below w2.heap.size w2 wc32:=dq (bdrew (ap _ w2):Below w2.heap.size w2 w2.drew) hbc32;clear hbc32;by_cases zc:0≤c
     ·have dc:decide (c≥0)=true:=decide_eq_true zc
      have dc2:decide (0≤c)=true:=decide_eq_true zc;rw[dc2];have HN:Hid (¬BkOK cs l):=aa (fun h=>by have:=(h.2.2 j y x HY.out HX.out).1;rw[HCM.out]at this;omega);clear zc;go_wp2
      go_ret
      exact⟨⟨9,rfl,fun h=>absurd h (by decide),fun h=>absurd h.2 HN.out⟩,cZ⟩
     have dc:decide (c≥0)=false:=decide_eq_false zc;have dc2:decide (0≤c)=false:=decide_eq_false zc;rw[dc2];have HCL:Hid (cmpB y x<0):=aa (by rw[HCM.out];omega);clear zc;have hB3:Below w.heap.size w wc32:=dq hB2 hbd;have hbb3:bb<wc32.heap.size:=by have:=hbd.size;omega
     have GX3:wc32.heap[wr.heap.size]? =some (.cells #[.int .i64 x.ct,.int .i64 x.bg,.int .i64 x.en,.int .i64 x.tk] 53 (0,0)):=(hbd.block _ hz2).trans GX;have HBX3:Hid (wc32.heap[w.heap.size]? =some (.cells #[.slice aq qs.length cq,.slice ac cs.length cc] 25 (0,0))):=aa ((hbd.block _ hsz2).trans HBX2.out);have hz3:wr.heap.size<wc32.heap.size:=by have:=hbd.size;omega
     clear cx GX p0 p1 p2 p3;obtain⟨p0,p1,p2,p3⟩:=HPY.out wc32 hB3;have cx:=fun o=>cU GX3 o
     clear hbd;by_cases e1:y.ct=x.ct
     ·have f1:(y.ct==x.ct)=true:=by rw[beq_iff_eq];exact e1
      by_cases e2:x.bg<y.en
      ·have f2:decide (x.bg<y.en)=true:=decide_eq_true e2
       have HN:Hid (¬BkOK cs l):=aa (fun h=>(h.2.2 j y x HY.out HX.out).2 ⟨e1,e2⟩);clear e1 e2;go_upto_region 13 with fail
       go_quiet (fail)
       go_wp2
       go_ret
       exact⟨⟨14,rfl,fun h=>absurd h (by decide),fun h=>absurd h.2 HN.out⟩,cZ⟩
      have f2:decide (x.bg<y.en)=false:=decide_eq_false e2;have HNX:Hid (bNext y x):=aa ⟨HCL.out,fun h=>e2 h.2⟩;clear e1 e2;go_upto_region 13 with fail
      go_quiet (fail)
      go_wp2
      go_roundw
      case rel=>exact⟨j+1+1,by omega,by go_num,aa ⟨HV1.out,fun i a b hi ha hb=>by
       rcases bq (i+1) (j+1)with h | h
       ·exact HV.out.2 i a b h ha hb
       ·obtain rfl:i=j:=by omega
        rw[HY.out]at ha;rw[HX.out]at hb
        cases ha;cases hb
        exact HNX.out⟩,HBX3,cZ⟩
      case measure=>simp[intOf];omega
     ·have f1:(y.ct==x.ct)=false:=by rw[beq_eq_false_iff_ne];exact e1
      have HNX:Hid (bNext y x):=aa ⟨HCL.out,fun h=>e1 h.1⟩;clear e1;go_upto_region 13 with fail
      go_quiet (fail)
      go_wp2
      go_roundw
      case rel=>exact⟨j+1+1,by omega,by go_num,aa ⟨HV1.out,fun i a b hi ha hb=>by
       rcases bq (i+1) (j+1)with h | h
       ·exact HV.out.2 i a b h ha hb
       ·obtain rfl:i=j:=by omega
        rw[HY.out]at ha;rw[HX.out]at hb
        cases ha;cases hb
        exact HNX.out⟩,HBX3,cZ⟩
      case measure=>simp[intOf];omega
  ·obtain rfl:k=l.length:=by omega
   have HN:Hid (BkOK cs l):=aa ⟨hl5,by have:=HV.out.1;rwa [aL]at this,fun j a b ha hb=>HV.out.2 j a b (aw.1 hb).1 ha hb⟩;go_wp2
   go_ret
   exact⟨⟨0,rfl,fun _=>⟨HPL.out,HN.out⟩,fun _=>rfl⟩,hB⟩
end
section
def CtPost (qs:List Int) (cs:List Con) (l:List Bkg) (hs:List Hld) (w:World) (e:Ending) (w':World):Prop:=(∃r:Int,e= .returned (.int .i64 r)∧(r=0↔PlanOK qs cs∧BkOK cs l∧HkOK qs hs))∧Below w.heap.size w w'
theorem gJ (qs:List Int) (cs:List Con) (l:List Bkg) (hs:List Hld) (uq uc ub uh:Value) (w:World) (hq:RRow intC 1 w w.heap.size uq qs) (hc:RRow conC 7 w w.heap.size uc cs) (hl:RRow bkgC 4 w w.heap.size ub l) (hh:RRow hldC 5 w w.heap.size uh hs):
  Calls Tryz.prog 19 #[.agg #[uq,uc,ub,uh]] w (CtPost qs cs l hs w):=by
 have HQ:=aa hq;have HC:=aa hc;have HL:=aa hl;have HH:=aa hh;obtain⟨aq,cq,rfl,-⟩:=hq;obtain⟨ac,cc,rfl,-⟩:=hc;obtain⟨ab,cb,rfl,-⟩:=hl;obtain⟨ah,ch,rfl,-⟩:=hh;go_enter Tryz.func19,Tryz.ntmps19
 go_wp2_with fail
 refine(eV qs cs _ _ _ (HQ.out.below' cZ) (HC.out.below' cZ)).mono ?_
 rintro e w1 hpp;obtain⟨⟨r,rfl,hr1,hr2⟩,hb1⟩:=hpp;have HR2:=aa hr2;have hB1:Below w.heap.size w w1:=dq (de (ap _ _)) hb1;have GP:w1.heap[w.heap.size]? =some (.cells #[.slice aq qs.length cq,.slice ac cs.length cc,.slice ab l.length cb,.slice ah hs.length ch] 44 (0,0)):=(hb1.block _ (by simp)).trans cW;have hz1:w.heap.size<w1.heap.size:=(ai.1 GP).1;have HGP:=aa GP;clear hr1 hr2 hb1 GP;by_cases zr:r=0
 case neg=>
  have d0:(r != 0)=true:=by simpa using zr
  have HZ:=aa zr;clear zr;go_wp2
  go_ret
  exact⟨⟨r,rfl,fun h=>absurd h HZ.out,fun h=>absurd (HR2.out h.1) HZ.out⟩,hB1⟩
 subst zr;have cp:=fun o=>cU HGP.out o
 go_wp2_with fail
 refine(iO qs cs l _ _ _ _ (HQ.out.below' hB1) (HC.out.below' hB1) (HL.out.below' hB1)).mono ?_
 rintro e w2 hpp;obtain⟨⟨r,rfl,hr1,hr2⟩,hb2⟩:=hpp;have HR3:=aa hr2;have hB2:Below w.heap.size w w2:=dq hB1 hb2;have HGP2:Hid (w2.heap[w.heap.size]? =some (.cells #[.slice aq qs.length cq,.slice ac cs.length cc,.slice ab l.length cb,.slice ah hs.length ch] 44 (0,0))):=aa ((hb2.block _ hz1).trans HGP.out);have hz2:w.heap.size<w2.heap.size:=by have:=hb2.size;omega
 clear hr2 hb2 cp;by_cases zr:r=0
 case neg=>
  have d0:(r != 0)=true:=by simpa using zr
  have HZ:=aa zr;clear zr hr1;go_wp2
  go_ret
  exact⟨⟨r,rfl,fun h=>absurd h HZ.out,fun h=>absurd (HR3.out ⟨h.1,h.2.1⟩) HZ.out⟩,hB2⟩
 subst zr;have HOK:=aa (hr1 rfl);clear hr1;have cp:=fun o=>cU HGP2.out o
 go_wp2_with fail
 refine(kw qs cs hs _ _ _ _ (HQ.out.below' hB2) (HC.out.below' hB2) (HH.out.below' hB2)).mono ?_
 rintro e w3 hpp;obtain⟨⟨r,rfl,hr5⟩,hb3⟩:=hpp;have HR5:=aa hr5;clear hr5;go_wp2
 go_ret
 exact⟨⟨r,rfl,(fun h=>⟨HOK.out.1,HOK.out.2,(HR5.out.1 h).2⟩),fun h=>HR5.out.2 ⟨h.1,h.2.2⟩⟩,dq hB2 hb3⟩
end
end Go.Proofs.YtfnciigbbolckaaGreat
