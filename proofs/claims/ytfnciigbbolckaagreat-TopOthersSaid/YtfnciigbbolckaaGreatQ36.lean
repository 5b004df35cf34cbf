/- Part 36 of the proof about mailboattop.TopOthers. No condition. -/
import Derived.Test.YtfnciigbbolckaaGreatQ00
import Derived.Test.YtfnciigbbolckaaGreatQ19
import Derived.Test.YtfnciigbbolckaaGreatQ25
import Derived.Test.YtfnciigbbolckaaGreatQ27
import Derived.Test.YtfnciigbbolckaaGreatQ28
import Derived.Test.YtfnciigbbolckaaGreatQ29
import Derived.Test.YtfnciigbbolckaaGreatQ31
import Derived.Test.YtfnciigbbolckaaGreatQ35
set_option linter.unusedVariables false
set_option linter.unusedSimpArgs false
set_option maxRecDepth 100000
set_option maxHeartbeats 64000000
namespace Go.Proofs.YtfnciigbbolckaaGreat
open Go Go.RowKit Iv
attribute [local go_sem] Oper.semAt_some
attribute [local go_sem] pw gu B_app pv B_get B_toList
section
def ArrPost (w:World) (e:Ending) (w':World):Prop:=(∃x f:Int,e= .returned (.tuple #[.int .i64 x,.int .i64 f]))∧Below w.heap.size w w'
theorem nJ (qs:List Int) (cs:List Con) (l:List Bkg) (hs:List Hld) (src dst:Int) (s:Nat) (rd D pr:Int) (cu:Bool) (uq uc ub uh:Value) (w:World) (hq:RRow intC 1 w w.heap.size uq qs) (hc:RRow conC 7 w w.heap.size uc cs) (hl:RRow bkgC 4 w w.heap.size ub l) (hh:RRow hldC 5 w w.heap.size uh hs)
  (hp:PlanOK qs cs) (hb:BkOK cs l) (hr:ReqOK qs.length src dst (s:Int) rd D pr):
  Calls Tryz.prog 90 #[.agg #[uq,uc,ub,uh],.agg #[.int .i64 src,.int .i64 dst,.int .i64 (s:Int),.int .i64 rd,.int .i64 D,.int .i64 pr,.bool cu]] w (ArrPost w):=by
 have HQ:=aa hq;have HC:=aa hc;have HL:=aa hl;have HH:=aa hh;have HP:=aa hp;have HB:=aa hb;have HR:=aa hr;obtain⟨aq,cq,rfl,-⟩:=hq;obtain⟨ac,cc,rfl,-⟩:=hc;obtain⟨al,cl,rfl,-⟩:=hl;obtain⟨ah,ch,rfl,-⟩:=hh;clear hp hb hr;unfold ArrPost;go_enter Tryz.func90,Tryz.ntmps90
 go_upto_region 1 with fail
 obtain⟨w1,hw1⟩:=cR ((w.alloc (.cells #[.slice aq qs.length cq,.slice ac cs.length cc,.slice al l.length cl,.slice ah hs.length ch] 44)).alloc (.cells #[.int .i64 src,.int .i64 dst,.int .i64 (s:Int),.int .i64 rd,.int .i64 D,.int .i64 pr,.bool cu] 38))
 rw[hw1];have hb1:Below w.heap.size w w1:=by rw[←hw1];exact cZ
 have X0:w1.heap[w.heap.size]? =some (.cells #[.slice aq qs.length cq,.slice ac cs.length cc,.slice al l.length cl,.slice ah hs.length ch] 44 (0,0)):=by rw[←hw1];exact(ak _ _ _ (by simp)).trans cW
 have X1:w1.heap[w.heap.size+1]? =some (.cells #[.int .i64 src,.int .i64 dst,.int .i64 (s:Int),.int .i64 rd,.int .i64 D,.int .i64 pr,.bool cu] 38 (0,0)):=by rw[←hw1];exact cY (by simp)
 have z1:w.heap.size+1<w1.heap.size:=(ai.1 X1).1;have z1':w.heap.size<w1.heap.size:=by omega
 clear hw1;have HB1:=aa hb1;have c0:=fun q=>cU X0 q
 have c1_:=fun q=>cU X1 q
 clear X0 X1 hb1;go_wp2_with fail
 refine(jq qs cs l hs src dst s rd D pr cu _ _ _ _ _ (HQ.out.below' HB1.out) (HC.out.below' HB1.out) (HL.out.below' HB1.out) (HH.out.below' HB1.out) HP.out HB.out HR.out).mono ?_
 unfold BuildPost;rintro e w2 ⟨hcase,hb2⟩;have HB2:=aa (dq HB1.out hb2);clear hb2 c0 c1_;rcases hcase with⟨R,gB,rfl,hR,hgr⟩ | ⟨hne,rfl⟩
 ·have HG:=aa hgr
  have HRO:=aa hR;have HOK:=aa (oy cu HP.out HB.out HR.out hR);obtain⟨g,hg⟩:=cR (gOf cs l R src dst s rd D pr cu)
  have HNE:Hid (g.src≠g.dst):=aa (by rw[←hg];exact HR.out.2.1);rw[hg]at HG HOK;have HGE:=aa hg;have zg:=HG.out.lt;clear hgr hR hg;go_wp2_with fail
  refine(ig g HOK.out gB _ HG.out HNE.out).mono ?_
  rintro e w3 ⟨O,v,rfl,hro,hlo,hb3⟩;have HRO3:=aa hro;have HLO:=aa hlo;have HG3:=aa (HG.out.below hb3);have HB3:=aa (dq HB2.out hb3);obtain⟨va,vc,rfl,-⟩:=id hro;clear hro hlo hb3;go_wp2_with fail
  refine(o8 g HOK.out gB O _ _ HG3.out HRO3.out (fun x hx=>by obtain⟨_,_,_,_,h1,h2⟩:=HLO.out.vd x hx;have:=HOK.out.d1;unfold lOK;omega)).mono ?_
  obtain⟨p,hp⟩:=cR (arrL g O)
  have HPP:=aa hp;rw[hp];obtain⟨p1,p2⟩:=p;clear hp;rintro e w4 ⟨rfl,hb4⟩;have HB4:=aa (dq HB3.out hb4);clear hb4
  cases p2 with
  | true=>
   go_wp2
   refine bodyPost_ret (results_tmp2 rfl _ _ _) rfl ?_
   exact⟨⟨_,_,rfl⟩,HB4.out⟩
  | false=>
   go_wp2
   refine bodyPost_ret (results_tmp2 rfl _ _ _) rfl ?_
   exact⟨⟨_,_,rfl⟩,HB4.out⟩
 ·have HNE:=aa hne
  clear hne;go_wp2
  refine bodyPost_ret (results_tmp2 rfl _ _ _) rfl ?_
  exact⟨⟨_,_,rfl⟩,HB2.out⟩
end
section
open Go.Shelf
def EarPost (qs:List Int) (cs:List Con) (q:Rq) (B:List Bkg) (H:List Hld) (w:World) (e:Ending) (w':World):Prop:=(∃(v:Value) (er:Int),e= .returned (.tuple #[v,.int .i64 er])∧((er≠0∧v= .slice none 0 0)∨(er=0∧∃hs,EOK qs cs q B H hs∧RHops w' v hs)))∧Below w.heap.size w w'
def EarX (qs:List Int) (cs:List Con) (q:Rq) (B:List Bkg) (H:List Hld) (er:Int) (hs:List Hp):Prop:=ReqO qs.length q→∃R l,RoomsOK qs qs H q.sz R∧LabOK (gQ cs B R q) l∧(er≠0→(arrL (gQ cs B R q) l).2=false∨1000<(univ (gQ cs B R q)).length)∧(er=0→hs.length≤(univ (gQ cs B R q)).length∧∀h,hs.getLast? =some h→h.ar=(arrL (gQ cs B R q) l).1)
def EarPostX (qs:List Int) (cs:List Con) (q:Rq) (B:List Bkg) (H:List Hld) (w:World) (e:Ending) (w':World):Prop:=(∃(v:Value) (er:Int) (hs:List Hp),e= .returned (.tuple #[v,.int .i64 er])∧((er≠0∧v= .slice none 0 0)∨(er=0∧EOK qs cs q B H hs∧RHops w' v hs))∧EarX qs cs q B H er hs)∧Below w.heap.size w w'
theorem arrL_bnd {g:Gp} {l:List Lbl} (h:∀x∈l,∀m∈movesL g x,0≤m.1.tm):0≤(arrL g l).1:=by
 by_cases hb:(arrL g l).2=true
 ·rcases ii _ _ _ hb with⟨h1,_⟩ | ⟨m,hm,_,h2⟩
  ·cases h1
  ·obtain⟨x,hx,hm⟩:=cw.1 hm
   have:=h x hx m hm;show 0≤(List.foldl (stepA g) (0,false) (movesAll g l)).1
   omega
 ·have hk:∀(l:List Mv) (p:Int×Bool),p.2=false→(l.foldl (stepA g) p).2=false→(l.foldl (stepA g) p).1=p.1:=by
   intro l;induction l with
   | nil=>intro p _ _;rfl
   | cons m r ih=>
    intro p hp hr;rw[List.foldl_cons]at hr ⊢;have h2:∀(l:List Mv) (p:Int×Bool),p.2=true→(l.foldl (stepA g) p).2=true:=by
     intro l;induction l with
     | nil=>intro p hp;exact hp
     | cons m r ih=>intro p hp;rw[List.foldl_cons];refine ih _ ?_;unfold stepA;split;rfl;exact hp
    by_cases hs:(stepA g p m).2=true
    ·rw[h2 r _ hs]at hr;cases hr
    ·have hs':(stepA g p m).2=false:=by simpa using hs
     rw[ih _ hs' hr];unfold stepA at hs ⊢;split
     ·rename_i hc;rw[if_pos hc]at hs;exact absurd rfl hs
     ·rfl
  have:=hk (movesAll g l) (0,false) rfl (by simpa [arrL,foldA]using hb);show 0≤(List.foldl (stepA g) (0,false) (movesAll g l)).1
  rw[this];exact aR _
def tmAt (tv:Value) (w:World):Nat:=match tv with
 | .pointer (some a)=>(match w.cell? ⟨a.block,3,none⟩with
  | some (.int _ t)=>t.toNat
  | _=>0)
 | _=>0
theorem mg {w:World} {zB:Nat} {z:Lbl} (h:w.heap[zB]? =some (.cells #[.int .i64 z.nd,.int .i64 z.fr,.int .i64 z.tt,.int .i64 z.tm] 153 (0,0))):tmAt (.pointer (some ⟨zB,0,none⟩)) w=z.tm.toNat:=by
 unfold tmAt;simp only;rw[cU h 3];rfl
theorem rr_new {α:Type} {enc:α→List Value} {k:Nat} (x:α) (w:World) (T:TypeId):RRow enc k (w.alloc (.cells (enc x).toArray T)) (w.alloc (.cells (enc x).toArray T)).heap.size (.slice (some ⟨w.heap.size,0,none⟩) 1 1) [x]:=by
 refine⟨_,_,rfl,aj _,by unfold maxLen;omega,(fun e=>by cases e),fun _=>⟨w.heap.size,0,rfl,by simp,fun i y hy j u hu=>?_⟩⟩
 obtain rfl:i=0:=by have:=(aw.1 hy).1;simp at this;omega
 obtain rfl:x=y:=by simpa using hy
 rw[cU (cW (W:=w))];simpa using hu
structure EaI (cs:List Con) (B:List Bkg) (q:Rq) (l:List Lbl) (at_:Int) (w6:World) (out:Value) (hs:List Hp) (xs:List Lbl) (z:Lbl) (zB:Nat) (W:World):Prop where
 bi:BI cs B q l hs xs z
 nl:hs=[]→z=⟨q.dst,0,1099511627776,at_⟩
 ns:hs≠[]→¬(z.nd=q.src∧z.tm=q.rd)
 len:xs.length=hs.length
 lst:∀h,hs.getLast? =some h→h.ar=at_
 t0:0≤z.tm
 own:W.ownsRow w6.heap.size 68 4 out hs.length (hs.reverse.flatMap hpC)
 box:W.heap[zB]? =some (.cells #[.int .i64 z.nd,.int .i64 z.fr,.int .i64 z.tt,.int .i64 z.tm] 153 (0,0))
 zb:w6.heap.size≤zB
 bel:Below w6.heap.size w6 W
theorem kR {cs:List Con} {B:List Bkg} {q:Rq} {g:Gp} {l:List Lbl} (hg:GOK g) (hl:LabOK g l) {hs:List Hp} {xs:List Lbl} {z:Lbl} (h:BI cs B q l hs xs z):xs.length≤(univ g).length:=by
 have hn:(xs.map keyL).Nodup:=by
  refine(List.pairwise_map (f:=keyL) (R:=(· ≠ ·))).2 (h.inc.imp_of_mem ?_)
  intro a b ha hb hab e;have:=lK hl.nod (h.mem a ha) (h.mem b hb) e;subst this;omega
 have h1:=fx _ (univ g) hn (fun k hk=>by
  obtain⟨x,hx,rfl⟩:=bu.1 hk;exact(hl.vd x (h.mem x hx)).univ)
 simpa using h1
theorem way_len {cs:List Con} {B:List Bkg} {q:Rq} {g:Gp} {l:List Lbl} (hg:GOK g) (hl:LabOK g l) {hs:List Hp} {xs:List Lbl} {z:Lbl} (h:BI cs B q l hs xs z):xs.length≤17600:=by
 have h1:=kR hg hl h;have h2:=iT hg;omega
theorem kS (qs:List Int) (cs:List Con) (B:List Bkg) (H:List Hld) (q:Rq) (uq uc ub uh:Value) (w:World) (hq:RRow intC 1 w w.heap.size uq qs) (hc:RRow conC 7 w w.heap.size uc cs) (hl:RRow bkgC 4 w w.heap.size ub B) (hh:RRow hldC 5 w w.heap.size uh H) (hp:PlanOK qs cs) (hb:BkOK cs B) (hk:HkOK qs H):
  Calls Tryz.prog 40 #[.agg #[uq,uc,ub,uh],.agg #[.int .i64 q.src,.int .i64 q.dst,.int .i64 q.sz,.int .i64 q.rd,.int .i64 q.D,.int .i64 q.pr,.bool q.cu]] w (EarPostX qs cs q B H w):=by
 have HQ:=aa hq;have HC:=aa hc;have HL:=aa hl;have HK:=aa hh;have HH:=aa (cS hp (cS hb hk));clear hq hc hl hh hp hb hk;by_cases hreq:ReqO qs.length q
 case neg=>
  have HN:=aa hreq;clear hreq;go_enter Tryz.func40,Tryz.ntmps40
  go_upto_region 1 with fail
  obtain⟨Z,hZ⟩:=cR w.heap.size
  obtain⟨w1,hw1⟩:=cR ((w.alloc (.cells #[uq,uc,ub,uh] 44)).alloc (.cells #[.int .i64 q.src,.int .i64 q.dst,.int .i64 q.sz,.int .i64 q.rd,.int .i64 q.D,.int .i64 q.pr,.bool q.cu] 38))
  rw[hw1];have B1:Below Z w w1:=by rw[←hw1,←hZ];exact cZ
  have X0:w1.heap[Z]? =some (.cells #[uq,uc,ub,uh] 44 (0,0)):=by rw[←hw1,←hZ];exact(by repeat (first | exact cY (by first | rfl | (simp;done)) | refine(ak _ _ _ (by first | (simp;done) | (simp;omega))).trans ?_))
  have X1:w1.heap[Z+1]? =some (.cells #[.int .i64 q.src,.int .i64 q.dst,.int .i64 q.sz,.int .i64 q.rd,.int .i64 q.D,.int .i64 q.pr,.bool q.cu] 38 (0,0)):=by rw[←hw1,←hZ];exact(by repeat (first | exact cY (by first | rfl | (simp;done)) | refine(ak _ _ _ (by first | (simp;done) | (simp;omega))).trans ?_))
  have z1:Z+1<w1.heap.size:=(ai.1 X1).1;have z0:Z<w1.heap.size:=by omega
  have k0:=fun q_=>cU X0 q_
  have k1:=fun q_=>cU X1 q_
  have HZ:=aa hZ;have HB1:=aa B1;rw[hZ]at HQ HC HL HK ⊢;clear hw1 B1 X0 X1 hZ;go_wp2_with fail
  refine(oz qs cs B H q uq uc _ _ w1 (HQ.out.below HB1.out (aj _) (by omega)) (HC.out.below HB1.out (aj _) (by omega)) (HL.out.below HB1.out (aj _) (by omega)) (HK.out.below HB1.out (aj _) (by omega)) HH.out.1 HH.out.2.1 HH.out.2.2 HN.out).mono ?_
  rintro e w2 ⟨rfl,hb2⟩;have HW:Hid (Below Z w w2):=aa (HB1.out.trans (hb2.mono (by omega)));have hz2:=hb2.size;clear hb2 k0 k1;go_wp2
  refine bodyPost_ret (v:=.tuple #[.slice none 0 0,.int .i64 1]) (by simp[results,Tryz.results40,go_sem]) rfl ?_
  unfold EarPostX;rw[HZ.out];refine⟨⟨_,1,[],rfl,.inl ⟨by decide,rfl⟩,fun h=>absurd h HN.out⟩,?_⟩
  first | exact HW.out | exact HW.out.trans ((de (ap _ _)).mono (by omega))
 case pos=>
  obtain⟨src,dst,sz,rd,D,pr,cu⟩:=q;obtain⟨s,rfl⟩:=bh (show(0:Int)≤sz by have:=hreq.2.2.1.1;simp only at this;omega);have HRQ:=aa hreq;obtain⟨q,hqe⟩:∃q:Rq,q=⟨src,dst,(s:Int),rd,D,pr,cu⟩:=⟨_,rfl⟩
  have HQE:=aa hqe;clear hreq hqe;go_enter Tryz.func40,Tryz.ntmps40
  go_upto_region 1 with fail
  obtain⟨Z,hZ⟩:=cR w.heap.size
  obtain⟨w1,hw1⟩:=cR ((w.alloc (.cells #[uq,uc,ub,uh] 44)).alloc (.cells #[.int .i64 src,.int .i64 dst,.int .i64 (s:Int),.int .i64 rd,.int .i64 D,.int .i64 pr,.bool cu] 38))
  rw[hw1];have B1:Below Z w w1:=by rw[←hw1,←hZ];exact cZ
  have X0:w1.heap[Z]? =some (.cells #[uq,uc,ub,uh] 44 (0,0)):=by rw[←hw1,←hZ];exact(by repeat (first | exact cY (by first | rfl | (simp;done)) | refine(ak _ _ _ (by first | (simp;done) | (simp;omega))).trans ?_))
  have X1:w1.heap[Z+1]? =some (.cells #[.int .i64 src,.int .i64 dst,.int .i64 (s:Int),.int .i64 rd,.int .i64 D,.int .i64 pr,.bool cu] 38 (0,0)):=by rw[←hw1,←hZ];exact(by repeat (first | exact cY (by first | rfl | (simp;done)) | refine(ak _ _ _ (by first | (simp;done) | (simp;omega))).trans ?_))
  have z1:Z+1<w1.heap.size:=(ai.1 X1).1;have z0:Z<w1.heap.size:=by omega
  have k0:=fun q_=>cU X0 q_
  have k1:=fun q_=>cU X1 q_
  have HZ:=aa hZ;have HB1:=aa B1;have HX1:=aa X1;rw[hZ]at HQ HC HL HK ⊢;clear hw1 B1 X0 X1 hZ;go_wp2_with fail
  refine(jq qs cs B H src dst s rd D pr cu uq uc _ _ w1 (HQ.out.below HB1.out (aj _) (by omega)) (HC.out.below HB1.out (aj _) (by omega)) (HL.out.below HB1.out (aj _) (by omega)) (HK.out.below HB1.out (aj _) (by omega)) HH.out.1 HH.out.2.1 HRQ.out).mono ?_
  unfold BuildPost;rintro e w2 ⟨hres,hb2⟩;rcases hres with⟨R,gB,rfl,hR,hgr⟩ | ⟨hn,rfl⟩
  case inr=>exact absurd HH.out.2.2 hn
  have z2:=hb2.size;have HB2:Hid (Below Z w w2):=aa (HB1.out.trans (hb2.mono (by omega)));have HX2:=aa ((hb2.block _ z1).trans HX1.out);have hgo:=oy cu HH.out.1 HH.out.2.1 HRQ.out hR;obtain⟨g,hge⟩:=cR (gOf cs B R src dst s rd D pr cu)
  rw[hge]at hgr hgo;have HGE:=aa hge;have HGO:=aa hgo;have HGR:=aa hgr;have HRO:=aa hR;clear k0 k1 hb2 hR hgo hgr hge;go_upto_region 4 with fail
  obtain⟨w3,hw3⟩:=cR (w2.alloc (.cells #[.pointer (some ⟨gB,0,none⟩)] 147))
  rw[hw3];have B3:Below w2.heap.size w2 w3:=by rw[←hw3];exact de (ap _ _)
  have P3:w3.heap[w2.heap.size]? =some (.cells #[.pointer (some ⟨gB,0,none⟩)] 147 (0,0)):=by rw[←hw3];exact cW
  obtain⟨pB,hpB⟩:=cR w2.heap.size
  have hpl:pB<w3.heap.size:=by rw[←hpB];exact(ai.1 P3).1
  have hpz:Z+1<pB:=by omega
  rw[hpB]at P3 ⊢;have HB3:Hid (Below Z w w3):=aa (HB2.out.trans (B3.mono (by omega)));have HX3:=aa ((B3.block _ (by omega)).trans HX2.out);have HP3:=aa P3;have HG3:=aa (HGR.out.ck (CK.of B3));have cp:=cU P3 0;clear hw3 B3 P3 hpB;go_wp2_with fail
  refine(ig g HGO.out gB w3 HG3.out (by rw[←HGE.out];exact HRQ.out.2.1)).mono ?_
  rintro e w4 ⟨l,vl,rfl,hrl,hlo,hb4⟩;have z4:=hb4.size;have HB4:Hid (Below Z w w4):=aa (HB3.out.trans (hb4.mono (by omega)));have HX4:=aa ((hb4.block _ (by omega)).trans HX3.out);have HP4:=aa ((hb4.block _ hpl).trans HP3.out);have HG4:=aa (HG3.out.ck (CK.of hb4));have HLO:=aa hlo;have HRL:=aa hrl;have HEX:Hid (∀(er:Int) (hs:List Hp),(er≠0→(arrL g l).2=false∨1000<(univ g).length)→(er=0→hs.length≤(univ g).length∧∀h,hs.getLast? =some h→h.ar=(arrL g l).1)→EarX qs cs ⟨src,dst,(s:Int),rd,D,pr,cu⟩ B H er hs):=aa (fun er hs k1 k2=>by
   have e:gQ cs B R ⟨src,dst,(s:Int),rd,D,pr,cu⟩=g:=HGE.out;refine fun _=>⟨R,l,HRO.out,?_⟩
   rw[e];exact⟨HLO.out,k1,k2⟩)
  obtain⟨la,lc,rfl,-⟩:=id hrl;clear hrl hlo hb4 cp;go_upto_region 5 with fail
  obtain⟨w5,hw5⟩:=cR (w4.alloc (.cells #[.slice la l.length lc] 62))
  rw[hw5];have B5:Below w4.heap.size w4 w5:=by rw[←hw5];exact de (ap _ _)
  have L5:w5.heap[w4.heap.size]? =some (.cells #[.slice la l.length lc] 62 (0,0)):=by rw[←hw5];exact cW
  obtain⟨lB,hlB⟩:=cR w4.heap.size
  have hll:lB<w5.heap.size:=by rw[←hlB];exact(ai.1 L5).1
  have hlz:pB<lB:=by omega
  rw[hlB]at L5 ⊢;have HB5:Hid (Below Z w w5):=aa (HB4.out.trans (B5.mono (by omega)));have HX5:=aa ((B5.block _ (by omega)).trans HX4.out);have HP5:=aa ((B5.block _ (by omega)).trans HP4.out);have HG5:=aa (HG4.out.ck (CK.of B5));have HL5:=aa L5;have HRL5:=aa (HRL.out.below B5 (aj _) B5.size);have hlok:∀x∈l,lOK x:=fun x hx=>by
   obtain⟨n,_,_,_,h1,h2⟩:=HLO.out.vd x hx;have:=HGO.out.d1;exact⟨h1,by omega⟩
  have HLK:=aa hlok;have cp:=cU HP5.out 0;have cl:=cU L5 0;have zp5:pB<w5.heap.size:=by omega
  clear hw5 B5 L5 hlB hlok;go_wp2_with fail
  refine(o8 g HGO.out gB l _ w5 HG5.out HRL5.out HLK.out).mono ?_
  obtain⟨at_,hat⟩:=cR ((arrL g l).1)
  obtain⟨is_,his⟩:=cR ((arrL g l).2)
  rw[hat,his];rintro e w6 ⟨rfl,hb6⟩;have z6:=hb6.size;have HAT:=aa (cS hat his);have HB6:Hid (Below Z w w6):=aa (HB5.out.trans (hb6.mono (by omega)));have HX6:=aa ((hb6.block _ (by omega)).trans HX5.out);have HP6:=aa ((hb6.block _ zp5).trans HP5.out);have HG6:=aa (HG5.out.ck (CK.of hb6));have HL6:=aa ((hb6.block _ hll).trans HL5.out);have HRL6:=aa (HRL5.out.below hb6 (aj _) hb6.size);clear hb6 cp cl hat his
  cases is_ with
  | false=>
   go_wp2
   refine bodyPost_ret (v:=.tuple #[.slice none 0 0,.int .i64 18]) (by simp[results,Tryz.results40,go_sem]) rfl ?_
   unfold EarPostX;rw[HZ.out];exact⟨⟨_,18,[],rfl,.inl ⟨by decide,rfl⟩,HEX.out 18 [] (fun _=>.inl HAT.out.2) (fun h=>absurd h (by decide))⟩,HB6.out⟩
  | true=>
   have cq:=fun q_=>cU HX6.out q_
   have y1:Z+1<w6.heap.size:=by omega
   go_upto_region 11 with fail
   obtain⟨w7,hw7⟩:=cR (w6.alloc (.cells #[.int .i64 dst,.int .i64 0,.int .i64 1099511627776,.int .i64 at_] 153))
   rw[hw7];have hq0:Hid (EaI cs B q l at_ w6 (.slice none 0 0) [] [] ⟨q.dst,0,1099511627776,at_⟩ w6.heap.size w7):=aa (by
    have hb7:Below w6.heap.size w6 w7:=by rw[←hw7];exact de (ap _ _)
    have hbx:w7.heap[w6.heap.size]? =some (.cells #[.int .i64 dst,.int .i64 0,.int .i64 1099511627776,.int .i64 at_] 153 (0,0)):=by rw[←hw7];exact cW
    refine⟨BI.start (by rw[HQE.out];show(0:Int)≤(s:Int);omega) rfl rfl,fun _=>rfl,fun h=>absurd rfl h,rfl,(fun h e=>by cases e),?_,aX _ _ _ _,by rw[HQE.out];exact hbx,aj _,hb7⟩
    show 0≤at_
    rw[←HAT.out.1];exact arrL_bnd (fun x hx m hm=>by
     rw[←HGE.out]at hm;obtain⟨i,c,room,b,hc,_,_,_,h5,_,_,_,rfl⟩:=gi hm;have hcf:=ee (HH.out.1.2.2 _ _ hc).1;have hd:=fM hcf (s:=s) (by have:=HRQ.out.2.2.1;simp only at this;omega) (by have:=HRQ.out.2.2.1;simp only at this;omega);have h0:=(HLK.out x hx).1;have hr:=hcf.rg0;show 0≤b+durS c s+c.rg
     omega))
   obtain⟨zB0,hzB0⟩:=cR w6.heap.size
   have HN:=aa hzB0;rw[hzB0]at hq0 ⊢;clear hw7 cq hzB0;go_loopw [12,13] (fun ov tv wr=>∃(hs:List Hp) (xs:List Lbl) (z:Lbl) (zB:Nat),tv= .pointer (some ⟨zB,0,none⟩)∧Hid (EaI cs B q l at_ w6 ov hs xs z zB wr)) (fun _ tv wr=>tmAt tv wr)
   case atStart=>exact⟨[],[],_,_,rfl,hq0⟩
   case round=>
    obtain⟨hs,xs,z,zB,rfl,HE⟩:=hrel;have zr:w6.heap.size≤wr.heap.size:=HE.out.bel.size;have cz:=fun q_=>cU HE.out.box q_
    have hzl:zB<wr.heap.size:=(ai.1 HE.out.box).1;have hgq:gQ cs B R q=g:=by rw[←HGE.out,HQE.out];rfl
    have HGQ:=aa hgq;clear hgq;go_wp2_with fail
    refine(ou g HGO.out gB lB pB l _ z wr (HG6.out.ck (CK.of HE.out.bel)) (HRL6.out.below HE.out.bel (aj _) zr) HLK.out ((HE.out.bel.block _ (by omega)).trans HL6.out) ((HE.out.bel.block _ (by omega)).trans HP6.out)).mono ?_
    unfold BfPost;rintro e w8 ⟨hres,hb8⟩;rcases hres with⟨x,hx,m,hm,hmat,rfl⟩ | ⟨hno,a,b,rfl⟩
    case inr=>
     exfalso
     have hlo:LabOK (gQ cs B R q) l:=by rw[HGQ.out];exact HLO.out
     by_cases hsn:hs=[]
     ·have hz:=HE.out.nl hsn
      obtain⟨x,hx,m,hm,k1,k2⟩:=arr_next (cs:=cs) (B:=B) (R:=R) (q:=q) (l:=l) (by rw[HQE.out];exact HRQ.out.1.2.2.1) (by rw[HGQ.out];exact HAT.out.2);rw[HGQ.out]at hm k2;rw[HAT.out.1]at k2;exact hno x hx m hm ⟨by rw[k1,hz];rfl,by rw[k2,hz]⟩
     ·have hzl':z∈l:=by
       rcases HE.out.bi.tx with⟨e,_⟩ | ⟨_,r,e⟩
       ·exact absurd e hsn
       ·exact HE.out.bi.mem z (by rw[e];simp)
      obtain⟨x,hx,m,hm,k1,k2⟩:=lab_next hlo hzl' (HE.out.ns hsn);rw[HGQ.out]at hm;exact hno x hx m hm ⟨k1,k2⟩
    have z8:=hb8.size;have HST:Hid (BI cs B q l (⟨m.2.1,m.2.2.1,m.2.2.2.1,m.2.2.2.2⟩::hs) (x::xs) x∧x.tm<z.tm):=aa (BI.step HH.out.1 HH.out.2.1 (by rw[HQE.out];exact HRQ.out) (by rw[HGQ.out];exact HLO.out) (fun n L hL=>by
     have hn:=(aw.1 hL).1;obtain⟨v,hv⟩:∃v,qs[n]? =some v:=⟨_,am (by rw[←HRO.out.1];exact hn)⟩
     exact(HRO.out.2.2 HH.out.2.2 n v L hv hL).1) HE.out.bi hx (by rw[HGQ.out];exact hm) hmat.1 hmat.2)
    have hx0:=(HLK.out x hx).1;obtain⟨h,hhe⟩:∃h:Hp,h=⟨m.2.1,m.2.2.1,m.2.2.2.1,m.2.2.2.2⟩:=⟨_,rfl⟩
    rw[←hhe]at HST;have e1:m.2.1=h.ct:=by rw[hhe]
    have e2:m.2.2.1=h.bg:=by rw[hhe]
    have e3:m.2.2.2.1=h.en:=by rw[hhe]
    have e4:m.2.2.2.2=h.ar:=by rw[hhe]
    rw[e1,e2,e3,e4];have HB8:Hid (Below w6.heap.size w6 w8):=aa (HE.out.bel.trans (hb8.mono zr));have HZ8:=aa ((hb8.block _ hzl).trans HE.out.box);have HO8:Hid (w8.ownsRow w6.heap.size 68 4 u12 hs.length (hs.reverse.flatMap hpC)):=aa (cV HE.out.own (fun q_ hq_=>hb8.block q_ (HE.out.own.lt q_ hq_).2));have HLST:Hid (∀h',(h::hs).getLast? =some h'→h'.ar=at_):=aa (fun h' e=>by
     cases hs with
     | nil=>
      have e9:h=h':=by simpa using e
      have e8:=HE.out.nl rfl;obtain⟨i,c,room,b,_,_,_,_,_,_,_,_,em⟩:=gi (cs:=cs) (B:=B) (R:=R) (src:=src) (dst:=dst) (s:=s) (rd:=rd) (D:=D) (pr:=pr) (cu:=cu) (by rw[HGE.out];exact hm);have e7:m.1.tm=m.2.2.2.2:=by rw[em]
      rw[←e9,←e4,←e7,hmat.2,e8]
     | cons a r=>rw[List.getLast?_cons_cons]at e;exact HE.out.lst h' e)
    clear hmat hm hhe e1 e2 e3 e4 hb8 cz;go_upto_region 13 with fail
    obtain⟨w9,hw9⟩:=cR ((w8.alloc (.cells #[.int .i64 x.nd,.int .i64 x.fr,.int .i64 x.tt,.int .i64 x.tm] 153)).alloc (.cells #[.int .i64 h.ct,.int .i64 h.bg,.int .i64 h.en,.int .i64 h.ar] 68))
    rw[hw9];obtain⟨xB,hxB⟩:=cR w8.heap.size
    have b9:Below w8.heap.size w8 w9:=by rw[←hw9];exact de (de (ap _ _))
    have X9:w9.heap[xB]? =some (.cells #[.int .i64 x.nd,.int .i64 x.fr,.int .i64 x.tt,.int .i64 x.tm] 153 (0,0)):=by rw[←hw9,←hxB];exact(ak _ _ _ (by simp)).trans cW
    have Y9:w9.heap[xB+1]? =some (.cells #[.int .i64 h.ct,.int .i64 h.bg,.int .i64 h.en,.int .i64 h.ar] 68 (0,0)):=by rw[←hw9,←hxB];exact cY (by simp)
    have hx9:xB+1<w9.heap.size:=(ai.1 Y9).1;have HB9:Hid (Below w6.heap.size w6 w9):=aa (HB8.out.trans (b9.mono HB8.out.size));have HZ9:=aa ((b9.block _ (by omega)).trans HZ8.out);have HO9:Hid (w9.ownsRow w6.heap.size 68 4 u12 hs.length (hs.reverse.flatMap hpC)):=aa (cV HO8.out (fun q_ hq_=>b9.block q_ (HO8.out.lt q_ hq_).2));have HX9:=aa X9;have ch:=fun q_=>cU Y9 q_
    have hz6:w6.heap.size≤w8.heap.size:=HB8.out.size;have hzB9:zB<w9.heap.size:=by have:=b9.size;omega
    rw[hxB]at hz6 ⊢;have HXB:=aa hxB;have hlen:hs.length≤17600:=by
     have:=way_len (g:=g) HGO.out HLO.out HE.out.bi;rw[HE.out.len]at this;exact this
    obtain⟨ua,uc_,hue⟩:=dg HO9.out;subst hue;obtain⟨i0,hin,hi0,hi1,hi2⟩:=info_parts jQ;clear hw9 b9 X9 Y9 hxB;go_upto_region 14 with(at_builtin;refine ew hpC 4 (by decide) fH rfl _ _ 39 68 rfl i0 _ 32 Tryz.underlying39 hin hi0 hi1 hi2 rfl w6.heap.size _ _ _ rfl (cV HO9.out (fun q_ hq_=>ak _ _ _ (HO9.out.lt q_ hq_).2)) _ [h] rfl (rr_new h w9 68) (fun v hv=>mf h v (by simpa using hv)) (by simp only[List.length_singleton];omega) (by omega) (by simp;omega) rfl ?_;intro vA wA hOA hgA hatA;have HOA:=aa hOA;have HGA:=aa hgA;clear hOA hgA hatA)
    have hkA:∀q_,q_<w9.heap.size→(Value.slice ua hs.length uc_).ownBlock≠some q_→wA.heap[q_]? =w9.heap[q_]?:=fun q_ h1 h2=>(dw HGA.out (by simp;omega) h2).trans (ak _ _ _ h1)
    have hzA:w9.heap.size<wA.heap.size:=by have:=HGA.out.size;simp at this;omega
    have HBA:Hid (Below w6.heap.size w6 wA):=aa (HB9.out.trans ((de (ap _ _):Below w9.heap.size w9 (w9.alloc (.cells (hpC h).toArray 68))).mono HB9.out.size |>.grown HGA.out (by simp;omega) (fun q_ hq_=>(HO9.out.lt q_ hq_).1)));have ZA:wA.heap[zB]? =some (.cells #[.int .i64 z.nd,.int .i64 z.fr,.int .i64 z.tt,.int .i64 z.tm] 153 (0,0)):=(hkA zB hzB9 (fun e=>absurd (fE HO9.out e HZ9.out) (by decide))).trans HZ9.out;have XA:wA.heap[xB]? =some (.cells #[.int .i64 x.nd,.int .i64 x.fr,.int .i64 x.tt,.int .i64 x.tm] 153 (0,0)):=(hkA xB (by omega) (fun e=>absurd (fE HO9.out e HX9.out) (by decide))).trans HX9.out;have HZA:=aa (cS ZA XA);have cza:=fun q_=>cU ZA q_
    have fza:=fun q_=>dC ZA q_
    have cxa:=fun q_=>cU XA q_
    have zzA:zB<wA.heap.size:=by omega
    have zxA:xB<wA.heap.size:=by omega
    clear hkA ZA XA ch;go_upto_region 15 with fail
    obtain⟨wB,hwB⟩:=cR (put4 wA zB (.int .i64 x.nd) (.int .i64 x.fr) (.int .i64 x.tt) (.int .i64 x.tm))
    have hwB':=hwB;unfold put4 at hwB';rw[hwB'];have hneB:∀q_,q_≠zB→wB.heap[q_]? =wA.heap[q_]?:=fun q_ hq_=>by rw[←hwB];exact fJ wA zB _ _ _ _ hq_
    have ZB:wB.heap[zB]? =some (.cells #[.int .i64 x.nd,.int .i64 x.fr,.int .i64 x.tt,.int .i64 x.tm] 153 (0,0)):=by rw[←hwB];exact iU HZA.out.1
    have hszB:wB.heap.size=wA.heap.size:=by rw[←hwB];exact gV wA zB _ _ _ _
    have XB:wB.heap[xB]? =some (.cells #[.int .i64 x.nd,.int .i64 x.fr,.int .i64 x.tt,.int .i64 x.tm] 153 (0,0)):=(hneB xB (by have:=HXB.out;omega)).trans HZA.out.2;have hKB:Below w6.heap.size wA wB:=by rw[←hwB];exact(iV (B:=w6.heap.size) (xs:=[zB]) wA zB _ _ _ _ (by simp)).below (aj _) (fun q_ hq_=>by rw[aH.1 hq_];exact HE.out.zb)
    have HBB:Hid (Below w6.heap.size w6 wB):=aa (HBA.out.trans hKB);obtain⟨va,vc,hve⟩:=dg HOA.out;have hOB:wB.ownsRow w6.heap.size 68 4 vA (hs.length+1) ((h::hs).reverse.flatMap hpC):=by
     have e:(h::hs).reverse.flatMap hpC=hs.reverse.flatMap hpC++[h].flatMap hpC:=by rw[List.reverse_cons,aV]
     rw[e];exact cV HOA.out (fun q_ hq_=>hneB q_ (fun e=>absurd (fE HOA.out (e ▸ hq_) HZA.out.1) (by decide)))
    subst hve;have HOB:=aa hOB;have HZB:=aa ZB;have cxb:=fun q_=>cU XB q_
    have czb:=fun q_=>cU ZB q_
    have cqb:=fun q_=>cU ((HBB.out.block (Z+1) (by omega)).trans HX6.out) q_
    have zq:Z+1<wB.heap.size:=by omega
    have zz:zB<wB.heap.size:=by omega
    have zx:xB<wB.heap.size:=by omega
    have zw6B:=HBB.out.size;clear hwB hwB' hneB ZB XB hKB cza fza cxa hOB hszB;by_cases hdone:x.nd=src∧x.tm=rd
    ·have d1:(x.nd==src)=true:=by rw[beq_iff_eq];exact hdone.1
     have d2:(x.tm==rd)=true:=by rw[beq_iff_eq];exact hdone.2
     have HDN:=aa hdone;clear hdone;have HEO:Hid (hs.length+1≤1000→EOK qs cs q B H (h::hs)):=aa (fun hn=>BI.fin HH.out.1 (by rw[HQE.out];exact HRQ.out) (by rw[HGQ.out];exact HLO.out) HRO.out.1 HH.out.2.2 (fun n v L hv hL=>by rw[HQE.out];exact HRO.out.2.2 HH.out.2.2 n v L hv hL) HST.out.1 (by simp) (by rw[HQE.out];exact HDN.out.1) (by rw[HQE.out];exact HDN.out.2) (by simpa using hn));have l63:hs.length+1≤9223372036854775807:=by omega
     by_cases hbig:hs.length+1≤1000
     ·have d3:decide (((hs.length+1:Nat):Int)>1000)=false:=decide_eq_false (by omega)
      have d3':decide ((hs.length:Int)+1>1000)=false:=decide_eq_false (by omega);have HBIG:=aa hbig;clear hbig;go_wp2_with fail
      have hML:(h::hs).reverse.length=hs.length+1:=by simp
      refine(revH_any (h::hs).reverse _ w6.heap.size wB (by rw[hML];exact HOB.out) (by rw[hML];omega) (by rw[hML];omega) zw6B).mono ?_
      rw[hML,List.reverse_reverse];rintro e wR ⟨rfl,hR1,hR2,hR3⟩;have HRV:=aa (cS hR1 (HB6.out.trans ((HBB.out.trans hR2).mono (by omega))));clear hR1 hR2 hR3 cxb czb cqb;go_wp2
      refine bodyPost_ret (v:=.tuple #[.slice va (hs.length+1) vc,.int .i64 0]) (by simp[results,Tryz.results40,go_sem]) rfl ?_
      unfold EarPostX;rw[HZ.out];have hX:=HEX.out 0 (h::hs) (fun h=>absurd rfl h) (fun _=>⟨by
       have h1:=kR HGO.out HLO.out HST.out.1;have h2:=HE.out.len;simp only[aI]at h1 ⊢;omega,fun h' e=>by rw[HAT.out.1];exact HLST.out h' e⟩)
      refine⟨⟨_,0,h::hs,rfl,.inr ⟨rfl,?_,dF (by decide) fH HRV.out.1⟩,hX⟩,HRV.out.2⟩
      rw[←HQE.out];exact HEO.out HBIG.out
     ·have d3:decide (((hs.length+1:Nat):Int)>1000)=true:=decide_eq_true (by omega)
      have d3':decide ((hs.length:Int)+1>1000)=true:=decide_eq_true (by omega);have HBG2:=aa hbig;clear hbig;go_wp2
      refine bodyPost_ret (v:=.tuple #[.slice none 0 0,.int .i64 4]) (by simp[results,Tryz.results40,go_sem]) rfl ?_
      unfold EarPostX;rw[HZ.out];have hX:=HEX.out 4 [] (fun _=>.inr (by
       have h1:=kR HGO.out HLO.out HST.out.1;have h2:=HE.out.len;have h3:=HBG2.out;simp only[aI]at h1;omega)) (fun h=>absurd h (by decide))
      exact⟨⟨_,4,[],rfl,.inl ⟨by decide,rfl⟩,hX⟩,HB6.out.trans (HBB.out.mono (by omega))⟩
    ·have HDN:=aa hdone
     have HNEW:Hid (∀wC:World,wC=wB.alloc (.cells #[.int .i64 x.nd,.int .i64 x.fr,.int .i64 x.tt,.int .i64 x.tm] 153)→EaI cs B q l at_ w6 (.slice va (hs.length+1) vc) (h::hs) (x::xs) x wB.heap.size wC):=aa (fun wC hC=>by
      have hbC:Below wB.heap.size wB wC:=by rw[hC];exact de (ap _ _)
      exact⟨HST.out.1,fun e=>by simp at e,fun _ hh=>HDN.out (by rw[HQE.out]at hh;exact hh),by simp[HE.out.len],HLST.out,hx0,cV HOB.out (fun q_ hq_=>hbC.block q_ (HOB.out.lt q_ hq_).2),by rw[hC];exact cW,by omega,HBB.out.trans (hbC.mono (by omega))⟩)
     have hm1:tmAt (.pointer (some ⟨zB,0,none⟩)) wr=z.tm.toNat:=mg HE.out.box;have hlt:=HST.out.2;by_cases e1:x.nd=src
     ·have d1:(x.nd==src)=true:=by rw[beq_iff_eq];exact e1
      have d2:(x.tm==rd)=false:=by rw[beq_eq_false_iff_ne];exact fun e=>hdone ⟨e1,e⟩
      clear hdone e1;go_wp2
      go_roundw
      case rel=>exact⟨h::hs,x::xs,x,wB.heap.size,rfl,aa (HNEW.out _ rfl)⟩
      case measure=>rw[hm1,mg (HNEW.out _ rfl).box];omega
     ·have d1:(x.nd==src)=false:=by rw[beq_eq_false_iff_ne];exact e1
      clear hdone e1;go_wp2
      go_roundw
      case rel=>exact⟨h::hs,x::xs,x,wB.heap.size,rfl,aa (HNEW.out _ rfl)⟩
      case measure=>rw[hm1,mg (HNEW.out _ rfl).box];omega
theorem iX (qs:List Int) (cs:List Con) (B:List Bkg) (H:List Hld) (q:Rq) (uq uc ub uh:Value) (w:World) (hq:RRow intC 1 w w.heap.size uq qs) (hc:RRow conC 7 w w.heap.size uc cs) (hl:RRow bkgC 4 w w.heap.size ub B) (hh:RRow hldC 5 w w.heap.size uh H) (hp:PlanOK qs cs) (hb:BkOK cs B) (hk:HkOK qs H):
  Calls Tryz.prog 40 #[.agg #[uq,uc,ub,uh],.agg #[.int .i64 q.src,.int .i64 q.dst,.int .i64 q.sz,.int .i64 q.rd,.int .i64 q.D,.int .i64 q.pr,.bool q.cu]] w (EarPost qs cs q B H w):=
 (kS qs cs B H q uq uc ub uh w hq hc hl hh hp hb hk).mono fun e w' ⟨⟨v,er,hs,he,h,_⟩,hB⟩=>⟨⟨v,er,he,h.imp (fun h=>h) fun⟨h1,h2,h3⟩=>⟨h1,hs,h2,h3⟩⟩,hB⟩
end
section
def dropA (a:Option Addr) (c n k:Nat):Option Addr:=if c=n then a else a.map (·.add (n*k))
theorem RRow.drop {α:Type} {enc:α→List Value} {s:Nat} {w:World} {N:Nat} {a:Option Addr} {m c:Nat} {l:List α} (h:RRow enc s w N (.slice a m c) l) (n:Nat) (hn:n≤l.length):RRow enc s w N (.slice (dropA a c n s) (m-n) (c-n)) (l.drop n):=by
 obtain⟨a',c',e,h1,h2,h3,h4⟩:=h;injection e with e1 e2 e3
 subst e1 e2 e3;refine⟨_,_,by rw[List.length_drop],by rw[List.length_drop];omega,by omega,fun e=>?_,fun hp=>?_⟩
 ·unfold dropA at e
  split at e
  ·omega
  ·cases a with
   | none=>have:=h3 rfl;omega
   | some x=>cases e
 ·rw[List.length_drop]at hp
  obtain⟨b,o,rfl,hb,hc⟩:=h4 (by omega);refine⟨b,o+n*s,?_,hb,fun i x hx j u hu=>?_⟩
  ·unfold dropA
   rw[if_neg (by omega)];show some ((⟨b,o,none⟩:Addr).add (n*s))=_
   rw[fj]
  ·rw[List.getElem?_drop]at hx
   have:=hc (n+i) x hx j u hu;rwa [show o+(n+i)*s+j=o+n*s+i*s+j by rw[Nat.add_mul];omega]at this
theorem qk (a:Option Addr) (len c n:Nat) (w:World) (h:n≤len):(Instr.slice 39 (.slice a len c) (some (.int .i64 (n:Int))) none none).run Tryz.prog w= .ok (.slice (dropA a c n 4) (len-n) (c-n)) w:=by
 have hu:Tryz.prog.underlying 39=some (.slice (Tryz.prog.elem 39)):=by kernel_rfl
 have hs:(sizeOf (Tryz.prog.elem 39)).run Tryz.prog w= .ok 4 w:=by kernel_rfl
 rw[run_slice_l w _ a len c hu .i64 n (by omega) (by omega),hs];rfl
attribute [local go_sem ↓] qk
theorem nK (t:Tk) (u v:Value) (hs:List Hp) (now:Int) (w:World) (hr:RHops w u t.hs) (hv:RHops w v hs):
  Calls Tryz.prog 134 #[.agg #[.int .i64 t.no,.int .i64 t.q.src,.int .i64 t.q.dst,.int .i64 t.q.sz,.int .i64 t.q.rd,.int .i64 t.q.D,.int .i64 t.q.pr,.bool t.q.cu,u,.int .i64 t.st,.int .i64 t.un],v,.int .i64 now] w fun e w'=>e= .returned (.bool (ovlT t hs now))∧Below w.heap.size w w':=by
 obtain⟨no,q,l,st,un⟩:=t;simp only at hr ⊢;have HR:Hid (RRow hpC 4 w w.heap.size u l):=aa hr;have HV:Hid (RRow hpC 4 w w.heap.size v hs):=aa hv;obtain⟨a,c,rfl,h1,h2,-,-⟩:=hr;obtain⟨va,vc,rfl,k1,k2,-,-⟩:=hv;unfold maxLen at h2 k2;have hln:l.length≤9223372036854775807:=by omega
 obtain⟨n,hn⟩:=cR (begun now l)
 have HN:=aa hn;have hle:=gC now l;rw[hn]at hle;clear hn;go_enter Tryz.func134,Tryz.ntmps134
 go_upto_region 1 with fail
 obtain⟨Z,hZ⟩:=cR w.heap.size
 obtain⟨w1,hw1⟩:=cR ((w.alloc (.cells #[.int .i64 no,.int .i64 q.src,.int .i64 q.dst,.int .i64 q.sz,.int .i64 q.rd,.int .i64 q.D,.int .i64 q.pr,.bool q.cu,.slice a l.length c,.int .i64 st,.int .i64 un] 41)).alloc (.cells #[.slice va hs.length vc] 39))
 rw[hw1];have B1:Below Z w w1:=by rw[←hw1,←hZ];exact cZ
 have X0:w1.heap[Z]? =some (.cells #[.int .i64 no,.int .i64 q.src,.int .i64 q.dst,.int .i64 q.sz,.int .i64 q.rd,.int .i64 q.D,.int .i64 q.pr,.bool q.cu,.slice a l.length c,.int .i64 st,.int .i64 un] 41 (0,0)):=by rw[←hw1,←hZ];exact(by repeat (first | exact cY (by first | rfl | (simp;done)) | refine(ak _ _ _ (by first | (simp;done) | (simp;omega))).trans ?_))
 have X1:w1.heap[Z+1]? =some (.cells #[.slice va hs.length vc] 39 (0,0)):=by rw[←hw1,←hZ];exact(by repeat (first | exact cY (by first | rfl | (simp;done)) | refine(ak _ _ _ (by first | (simp;done) | (simp;omega))).trans ?_))
 have z1:Z+1<w1.heap.size:=(ai.1 X1).1;have z0:Z<w1.heap.size:=by omega
 have k0:=fun q_=>cU X0 q_
 have HZ:=aa hZ;have HX:=aa (cS B1 (cS X0 X1));rw[hZ]at HR HV ⊢;have HRD:Hid (RHops w1.drew (.slice a l.length c) l):=aa (HR.out.below (bdrew HX.out.1) (aj _) (by simp;omega));have hcall:∀args W,(callFunc 164 args).run Tryz.prog W= .ok (.enter 164 args) W:=fun _ _=>by kernel_rfl
 have hmf:∀(fn:Fn) (first cap:Array Value) (w:World),(Instr.makeFunc fn first cap).run Tryz.prog w= .ok (.func fn first cap) w:=fun _ _ _ _=>rfl
 have n0:(0:Int)≤(n:Int):=by omega
 have HP:Hid (∀W:World,Below w1.heap.size w1 W→PrdH 164 #[.pointer (some ⟨Z+1,0,none⟩)] (fun a=>hs.any fun b=>ovlH a b) W (l.drop n)):=aa (fun W hW=>⟨hcall,fun x V _ hV=>by
  have hb:Below w1.heap.size w1 V:=hW.trans (hV.mono hW.size);exact ovl1_any x hs (Z+1) _ V ((hb.block _ z1).trans HX.out.2.2) (HV.out.below (HX.out.1.trans (hb.mono (by omega))) (aj _) (by have:=hb.size;omega))⟩)
 clear hw1 B1 X0 X1 hZ hcall;have HRL:Hid (∀W:World,Below w1.heap.size w1 W→RHops W (.slice (dropA a c n 4) (l.length-n) (c-n)) (l.drop n)):=aa (fun W hW=>(HR.out.below (HX.out.1.trans (hW.mono (by omega))) (aj _) (by have:=hW.size;omega)).drop n hle);have hdr:Below w1.heap.size w1 w1.drew:=bdrew (ap _ _);refine dd (fun V=>Below (w1).heap.size (w1) V) [0,1,1,0,2,0,0,3,0] [0,1,2,3,6,4,5,7,8] (by kernel_rfl) (by kernel_rfl) ?_ ?_
 case refine_1=>exact cZ
 (iterate 5 (first | (refine cX rfl (by decide) (by rfl) (fun w1 hS=>by(try(obtain⟨_,_⟩:=bcell (hS rfl)));go_simp;rfl) ?_;simp only[Act.put,ae,af,ag]) | (refine dm rfl (by decide) (by rfl) ?_;simp only[Act.put,ae,af,ag])))
 (refine dA rfl rfl (by rfl) (fun K hK=>?_);go_simp)
 refine(f8 ⟨no,q,l,st,un⟩ _ now _ HRD.out).mono ?_
 rw[HN.out];rintro e wc11 ⟨rfl,hbc11⟩
 (refine hK _ _ (by exact cZ) ?_;clear hK K;(try simp only[Act.put,ae,af,ag]))
 (iterate 1 (first | (refine cX rfl (by decide) (by rfl) (fun w1 hS=>by(try(obtain⟨_,_⟩:=bcell (hS rfl)));go_simp;rfl) ?_;simp only[Act.put,ae,af,ag]) | (refine dm rfl (by decide) (by rfl) ?_;simp only[Act.put,ae,af,ag])))
 (refine di rfl rfl (by rfl) (fun K hK=>?_);go_simp)
 refine(iG (l.drop n) _ 164 #[.pointer (some ⟨Z+1,0,none⟩)] (fun a=>hs.any fun b=>ovlH a b) _ (HRL.out _ (dq hdr hbc11)) (HP.out _ (dq hdr hbc11))).mono ?_
 rintro e wc14 ⟨rfl,hbc14⟩
 (refine hK _ _ ?_;clear hK K;(try simp only[Act.put,ae,af,ag]))
 (iterate 1 (first | (refine cX rfl (by decide) (by rfl) (fun w1 hS=>by(try(obtain⟨_,_⟩:=bcell (hS rfl)));go_simp;rfl) ?_;simp only[Act.put,ae,af,ag]) | (refine dm rfl (by decide) (by rfl) ?_;simp only[Act.put,ae,af,ag])))
 refine du ?_
 go_wp2
 go_ret
 rw[HZ.out];exact⟨by unfold ovlT;rw[HN.out];rfl,HX.out.1.trans ((dq (dq hdr hbc11) hbc14).mono (by omega))⟩
def AgPost (qs:List Int) (cs:List Con) (q:Rq) (B:List Bkg) (H:List Hld) (w:World) (e:Ending) (w':World):Prop:=(∃(v:Value) (r:Bool),e= .returned (.tuple #[v,.bool r])∧((r=false∧v= .slice none 0 0)∨(r=true∧∃hs,EOK qs cs q B H hs∧RHops w' v hs)))∧Below w.heap.size w w'
theorem ql (qs:List Int) (cs:List Con) (B:List Bkg) (H:List Hld) (t:Tk) (u:Value) (node time:Int) (uq uc ub uh:Value) (w:World) (hq:RRow intC 1 w w.heap.size uq qs) (hc:RRow conC 7 w w.heap.size uc cs) (hl:RRow bkgC 4 w w.heap.size ub B) (hh:RRow hldC 5 w w.heap.size uh H) (hp:PlanOK qs cs) (hb:BkOK cs B) (hk:HkOK qs H) (hu:∃a n c,u= .slice a n c):
  Calls Tryz.prog 167 #[.agg #[uq,uc,ub,uh],.agg #[.int .i64 t.no,.int .i64 t.q.src,.int .i64 t.q.dst,.int .i64 t.q.sz,.int .i64 t.q.rd,.int .i64 t.q.D,.int .i64 t.q.pr,.bool t.q.cu,u,.int .i64 t.st,.int .i64 t.un],.int .i64 node,.int .i64 time] w (AgPost qs cs {t.q with src:=node,rd:=time} B H w):=by
 have HQ:=aa hq;have HC:=aa hc;have HL:=aa hl;have HK:=aa hh;have HH:=aa (cS hp (cS hb hk));obtain⟨a,n,c,rfl⟩:=hu;obtain⟨no,q,l,st,un⟩:=t;simp only;clear hq hc hl hh hp hb hk;go_enter Tryz.func167,Tryz.ntmps167
 go_upto_region 1 with fail
 obtain⟨Z,hZ⟩:=cR w.heap.size
 obtain⟨w1,hw1⟩:=cR ((w.alloc (.cells #[uq,uc,ub,uh] 44)).alloc (.cells #[.int .i64 no,.int .i64 q.src,.int .i64 q.dst,.int .i64 q.sz,.int .i64 q.rd,.int .i64 q.D,.int .i64 q.pr,.bool q.cu,.slice a n c,.int .i64 st,.int .i64 un] 41))
 rw[hw1];have B1:Below Z w w1:=by rw[←hw1,←hZ];exact cZ
 have X0:w1.heap[Z]? =some (.cells #[uq,uc,ub,uh] 44 (0,0)):=by rw[←hw1,←hZ];exact(by repeat (first | exact cY (by first | rfl | (simp;done)) | refine(ak _ _ _ (by first | (simp;done) | (simp;omega))).trans ?_))
 have X1:w1.heap[Z+1]? =some (.cells #[.int .i64 no,.int .i64 q.src,.int .i64 q.dst,.int .i64 q.sz,.int .i64 q.rd,.int .i64 q.D,.int .i64 q.pr,.bool q.cu,.slice a n c,.int .i64 st,.int .i64 un] 41 (0,0)):=by rw[←hw1,←hZ];exact(by repeat (first | exact cY (by first | rfl | (simp;done)) | refine(ak _ _ _ (by first | (simp;done) | (simp;omega))).trans ?_))
 have z1:Z+1<w1.heap.size:=(ai.1 X1).1;have z0:Z<w1.heap.size:=by omega
 have k1:=fun q_=>cU X1 q_
 have HZ:=aa hZ;have HX:=aa (cS B1 X0);rw[hZ]at HQ HC HL HK ⊢;clear hw1 B1 X0 X1 hZ;go_upto_region 3 with fail
 obtain⟨w2,hw2⟩:=cR (w1.alloc (.cells #[.int .i64 node,.int .i64 q.dst,.int .i64 q.sz,.int .i64 time,.int .i64 q.D,.int .i64 q.pr,.bool q.cu] 38))
 rw[hw2];have b2:Below w1.heap.size w1 w2:=by rw[←hw2];exact de (ap _ _)
 have X2:w2.heap[w1.heap.size]? =some (.cells #[.int .i64 node,.int .i64 q.dst,.int .i64 q.sz,.int .i64 time,.int .i64 q.D,.int .i64 q.pr,.bool q.cu] 38 (0,0)):=by rw[←hw2];exact cW
 have z2:w1.heap.size<w2.heap.size:=(ai.1 X2).1;have y0:Z<w2.heap.size:=by omega
 have k0:=fun q_=>cU ((b2.block _ z0).trans HX.out.2) q_
 have k2:=fun q_=>cU X2 q_
 have HB2:Hid (Below Z w w2):=aa (HX.out.1.trans (b2.mono (by omega)));clear hw2 b2 X2 k1;go_wp2_with fail
 refine(iX qs cs B H ⟨node,q.dst,q.sz,time,q.D,q.pr,q.cu⟩ uq uc ub uh w2 (HQ.out.below HB2.out (aj _) (by omega)) (HC.out.below HB2.out (aj _) (by omega)) (HL.out.below HB2.out (aj _) (by omega)) (HK.out.below HB2.out (aj _) (by omega)) HH.out.1 HH.out.2.1 HH.out.2.2).mono ?_
 unfold EarPost;rintro e w3 ⟨⟨v,er,rfl,hres⟩,hb3⟩;have HB3:Hid (Below Z w w3):=aa (HB2.out.trans (hb3.mono (by omega)));clear hb3 k0 k2;rcases hres with⟨he,rfl⟩ | ⟨rfl,hs,hE,hR⟩
 ·have d1:(er==0)=false:=by rw[beq_eq_false_iff_ne];exact he
  clear he;go_wp2
  refine bodyPost_ret (v:=.tuple #[.slice none 0 0,.bool false]) (by simp[results,Tryz.results167,go_sem,d1]) rfl ?_
  unfold AgPost;rw[HZ.out];exact⟨⟨_,_,rfl,.inl ⟨rfl,rfl⟩⟩,HB3.out⟩
 ·have HE:=aa (cS hE hR)
  obtain⟨va,vc,rfl,-⟩:=hR;clear hE;go_wp2
  refine bodyPost_ret (v:=.tuple #[.slice va hs.length vc,.bool true]) (by simp[results,Tryz.results167,go_sem]) rfl ?_
  unfold AgPost;rw[HZ.out];exact⟨⟨_,_,rfl,.inr ⟨rfl,hs,HE.out.1,HE.out.2⟩⟩,HB3.out⟩
end
end Go.Proofs.YtfnciigbbolckaaGreat
