/- Part 13 of the proof about mailboattop.TopOthers. No condition. -/
import Derived.Test.YtfnciigbbolckaaGreatQ00
import Derived.Test.YtfnciigbbolckaaGreatQ12
set_option linter.unusedVariables false
set_option linter.unusedSimpArgs false
set_option maxRecDepth 100000
set_option maxHeartbeats 64000000
namespace Go.Proofs.YtfnciigbbolckaaGreat
section
open Go Go.RowKit Iv
attribute [local go_sem] Oper.semAt_some
attribute [local go_sem] pw gu B_app pv B_get B_toList
structure KpB (B:Nat) (xs:List Nat) (w w':World):Prop where
 os:w'.os=w.os
 tape:w'.tape=w.tape
 output:w'.output=w.output
 size:w.heap.size≤w'.heap.size
 block:∀q,q<B→q ∉ xs→w'.heap[q]? =w.heap[q]?
theorem KpB.refl (B:Nat) (xs:List Nat) (w:World):KpB B xs w w:=⟨rfl,rfl,rfl,aj _,fun _ _ _=>rfl⟩
theorem KpB.trans {B:Nat} {xs:List Nat} {a b c:World} (h:KpB B xs a b) (k:KpB B xs b c):KpB B xs a c:=⟨k.os.trans h.os,k.tape.trans h.tape,k.output.trans h.output,aK h.size k.size,fun q hq h1=>(k.block q hq h1).trans (h.block q hq h1)⟩
theorem KpB.of {B:Nat} {xs:List Nat} {w w':World} (h:Below w.heap.size w w') (hB:B≤w.heap.size):KpB B xs w w':=⟨h.os,h.tape,h.output,h.size,fun q hq _=>h.block q (by omega)⟩
theorem KpO.toB {g B:Nat} {xs:List Nat} {ro:Option Nat} {w w':World} (h:KpO g ro w w') (hr:∀q,ro=some q→B≤q) (hg:g∈xs) (hB:B≤w.heap.size):KpB B xs w w':=⟨h.os,h.tape,h.output,h.size,fun q hq h1=>h.block q (by omega) (fun e=>h1 (by rw[e];exact hg)) (fun e=>by have:=hr q e;omega)⟩
theorem KpB.set {B g i:Nat} {xs:List Nat} (w:World) (v:Value) (hg:g∈xs):KpB B xs w (w.setCell ⟨g,i,none⟩ v):=
 have hb:=bset (B:=0) (a:=w) (w:=w) (p:=⟨g,i,none⟩) (u:=v) (ap _ _) (aE _);⟨hb.os,hb.tape,hb.output,hb.size,fun q _ h1=>heap_setCell_other w ⟨g,i,none⟩ q v (fun e=>h1 (by rw[e];exact hg))⟩
theorem KpB.below {B N:Nat} {xs:List Nat} {w w':World} (h:KpB B xs w w') (hN:N≤B) (hx:∀x∈xs,N≤x):Below N w w':=
 ⟨h.os,h.tape,h.output,h.size,fun q hq=>h.block q (by omega) (fun hq2=>by have:=hx q hq2;omega)⟩
theorem gF (w:World) (g b o:Nat) (v:Value) (h:b≠g):(w.setCell ⟨g,0,none⟩ v).cell? ⟨b,o,none⟩=w.cell? ⟨b,o,none⟩:=aU (heap_setCell_other w ⟨g,0,none⟩ b v h)
theorem pO (cs:List Con) (q:Rq) (no n f:Int) (x:Hp):hopsH cs q no n f [x]=if f<lvH cs q x then[⟨n,f,lvH cs q x,q.sz,no⟩]else[]:=by
 rw[dY];simp[hopsH]
def holdS (cs:List Con) (q:Rq) (no un:Int) (hs:List Hp):List Hld:=hopsH cs q no q.src q.rd hs++endH q no un (nodeE cs q.src hs) (fromE q.rd hs)
theorem ji (cs:List Con) (q:Rq) (no:Int):∀(hs:List Hp) (n f:Int),(hopsH cs q no n f hs).length≤hs.length
 | [],_,_=>aj _
 | h::r,n,f=>by
  rw[dY,ay,aI];have:=ji cs q no r (conOf cs h.ct).tt h.bg;split<;>simp<;>omega
def OwnPost {α:Type} (enc:α→List Value) (k:Nat) (T:TypeId) (l:List α) (w:World) (e:Ending) (w':World):Prop:=(∃v,e= .returned v∧w'.ownsRow w.heap.size T k v l.length (l.flatMap enc))∧Below w.heap.size w w'
theorem nZ (qs:List Int) (cs:List Con) (uq uc u:Value) (q:Rq) (hs:List Hp) (no un:Int) (w:World) (hq:∃a k c,uq= .slice a k c) (hc:RRow conC 7 w w.heap.size uc cs) (hp:PlanOK qs cs) (hr:RHops w u hs) (hb:∀h∈hs,HpB cs h) (hl:hs.length≤10000):
  Calls Tryz.prog 51 #[.agg #[uq,uc],.agg #[.int .i64 q.src,.int .i64 q.dst,.int .i64 q.sz,.int .i64 q.rd,.int .i64 q.D,.int .i64 q.pr,.bool q.cu],u,.int .i64 no,.int .i64 un] w (OwnPost hldC 5 75 (holdS cs q no un hs) w):=by
 obtain⟨aq,kq,cq,rfl⟩:=hq;have HC:=aa hc;have HP:=aa hp;have HR:=aa hr;have HB:=aa hb;obtain⟨ca,cc,rfl,e1,e2,-,e4⟩:=hc;have HC4:=aa e4;obtain⟨a,c,rfl,h1,h2,-,h4⟩:=hr;have H4:=aa h4;unfold maxLen at e2 h2;clear hp hb e4 h4;go_enter Tryz.func51,Tryz.ntmps51
 go_upto_region 2 with fail
 obtain⟨s0,hs0⟩:=cR w.heap.size
 obtain⟨w1,hw1⟩:=cR ((((w.alloc (.cells #[.slice aq kq cq,.slice ca cs.length cc] 25)).alloc (.cells #[.int .i64 q.src,.int .i64 q.dst,.int .i64 q.sz,.int .i64 q.rd,.int .i64 q.D,.int .i64 q.pr,.bool q.cu] 38)).alloc (.cells #[.int .i64 no] 3)).alloc (.cells #[.slice none 0 0] 42))
 rw[hw1];have B1:Below w.heap.size w w1:=by rw[←hw1];exact cZ
 have X0:w1.heap[w.heap.size]? =some (.cells #[.slice aq kq cq,.slice ca cs.length cc] 25 (0,0)):=by rw[←hw1];exact(ak _ _ _ (by first | (simp;done) | (simp;omega))).trans ((ak _ _ _ (by first | (simp;done) | (simp;omega))).trans ((ak _ _ _ (by first | (simp;done) | (simp;omega))).trans cW))
 have X1:w1.heap[w.heap.size+1]? =some (.cells #[.int .i64 q.src,.int .i64 q.dst,.int .i64 q.sz,.int .i64 q.rd,.int .i64 q.D,.int .i64 q.pr,.bool q.cu] 38 (0,0)):=by rw[←hw1];exact(ak _ _ _ (by first | (simp;done) | (simp;omega))).trans ((ak _ _ _ (by first | (simp;done) | (simp;omega))).trans (cY (by simp)))
 have X2:w1.heap[w.heap.size+1+1]? =some (.cells #[.int .i64 no] 3 (0,0)):=by rw[←hw1];exact(ak _ _ _ (by first | (simp;done) | (simp;omega))).trans (cY (by simp))
 have X3:w1.heap[w.heap.size+1+1+1]? =some (.cells #[.slice none 0 0] 42 (0,0)):=by rw[←hw1];exact cY (by simp)
 have hsz1:w1.heap.size=w.heap.size+1+1+1+1:=by rw[←hw1];simp
 rw[hs0]at X0 X1 X2 X3 hsz1 B1 ⊢;have HX:=aa (cS X0 (cS X1 (cS X2 X3)));have HB1:=aa B1;have HS0:=aa hs0;have cx1:=fun q=>cU X1 q
 have z1:s0+1+1+1<w1.heap.size:=by omega
 have z1q:s0+1<w1.heap.size:=by omega
 obtain⟨N,hN⟩:=cR w1.heap.size
 have HN:=aa hN;clear hN;have HSZ1:=aa hsz1;clear hw1 X0 X1 X2 X3 B1 hs0 hsz1;refine ei (fun V=>Below w1.heap.size w1 V) [0,1,0,1,2,2,2,3] (.go 0 (.go 1 (.go 2 (.go 3 (.br2 4 5 (.go 5 (.go 6 (.go 7 (.fin)))) (.go 4 (.go 6 (.go 7 (.fin))))))))) (by kernel_rfl) (by kernel_rfl) ?_ ?_
 case refine_1=>exact bdrew (ap _ _)
 iterate 4 (refine dG rfl (by decide) (by rfl) (fun w1 hS=>by(try(obtain⟨_,_⟩:=bcell (hS rfl)));go_simp;rfl) ?_;(try simp only[Act.put,ae,af,ag]))
 refine⟨?ga,?gb⟩
 case' ga=>
  refine ej rfl (by rfl) (fun K hK=>?_)
  go_simp
  refine hK _ _ (de (bdrew (ap _ _))) ?_
  clear hK K
  (try simp only[Act.put,ae,af,ag])
  refine dH rfl rfl (by rfl) (fun K hK=>?_)
  go_simp
  obtain⟨w2,hw2⟩:=cR (((w1.alloc (.cells #[.int .i64 0] 3)).alloc (.cells #[.int .i64 0] 3)).drew)
  rw[hw2];have B2:Below w1.heap.size w1 w2:=by rw[←hw2];exact bdrew (de (de (ap _ _)))
  have XN:Boxed w2 N 3 (.int .i64 0):=by rw[←hw2,←HN.out];exact(ak _ _ _ (by simp)).trans (cW (W:=w1))
  have XN1:Boxed w2 (N+1) 3 (.int .i64 0):=by rw[←hw2];exact cY (by simp[HN.out])
  obtain⟨nB,hnB⟩:=cR N
  obtain⟨fB,hfB⟩:=cR (N+1)
  have hnf:nB≠fB:=by omega
  have hn0:s0+1+1+1<nB:=by have:=HN.out;omega
  have hf0:s0+1+1+1<fB:=by have:=HN.out;omega
  have hNn:N≤nB:=by omega
  have hNf:N≤fB:=by omega
  have XF:=XN1;have XX:=XN;rw[hfB]at XF;rw[hnB]at XX;rw[HN.out,hfB,hnB];clear hw2 XN XN1 hnB hfB
 case' gb=>
  refine ej rfl (by rfl) (fun K hK=>?_)
  go_simp
  refine hK _ _ (de (bdrew (ap _ _))) ?_
  clear hK K
  (try simp only[Act.put,ae,af,ag])
  refine dH rfl rfl (by rfl) (fun K hK=>?_)
  go_simp
  obtain⟨w2,hw2⟩:=cR (((w1.alloc (.cells #[.int .i64 0] 3)).alloc (.cells #[.int .i64 0] 3)).drew)
  rw[hw2];have B2:Below w1.heap.size w1 w2:=by rw[←hw2];exact bdrew (de (de (ap _ _)))
  have XN:Boxed w2 N 3 (.int .i64 0):=by rw[←hw2,←HN.out];exact(ak _ _ _ (by simp)).trans (cW (W:=w1))
  have XN1:Boxed w2 (N+1) 3 (.int .i64 0):=by rw[←hw2];exact cY (by simp[HN.out])
  obtain⟨nB,hnB⟩:=cR (N+1)
  obtain⟨fB,hfB⟩:=cR N
  have hnf:nB≠fB:=by omega
  have hn0:s0+1+1+1<nB:=by have:=HN.out;omega
  have hf0:s0+1+1+1<fB:=by have:=HN.out;omega
  have hNn:N≤nB:=by omega
  have hNf:N≤fB:=by omega
  have XF:=XN;have XX:=XN1;rw[hfB]at XF;rw[hnB]at XX;rw[HN.out,hnB,hfB];clear hw2 XN XN1 hnB hfB
 all_goals
  refine hK _ _ B2 ?_
  clear hK K
  (try simp only[Act.put,ae,af,ag])
  have HB2:=aa B2;have HXX:=aa (cS XX XF);have cN:=XX.cell;have fN:=XX.frozen;have zN:=XX.lt;clear B2 XX XF;refine dH rfl rfl (by rfl) (fun K hK=>?_)
  go_simp
  obtain⟨w3,hw3⟩:=cR (w2.setCell ⟨nB,0,none⟩ (.int .i64 q.src))
  rw[hw3];have B3:Below w1.heap.size w1 w3:=by rw[←hw3];exact bset HB2.out (by show w1.heap.size≤nB;rw[HN.out];exact hNn)
  have XX:Boxed w3 nB 3 (.int .i64 q.src):=by rw[←hw3];exact HXX.out.1.set _
  have XF:Boxed w3 fB 3 (.int .i64 0):=by rw[←hw3];exact HXX.out.2.other (fun e=>hnf e.symm) _
  refine hK _ _ B3 ?_
  clear hK K hw3 cN fN zN HXX HB2
  (try simp only[Act.put,ae,af,ag])
  have HB3:=aa B3;have HXX:=aa (cS XX XF);have cF:=XF.cell;have fF:=XF.frozen;have zF:=XF.lt;clear B3 XX XF;refine ey rfl rfl (by rfl) (fun K hK=>?_)
  go_simp
  obtain⟨w4,hw4⟩:=cR (w3.setCell ⟨fB,0,none⟩ (.int .i64 q.rd))
  rw[hw4];have B4:Below w1.heap.size w1 w4:=by rw[←hw4];exact bset HB3.out (by show w1.heap.size≤fB;rw[HN.out];exact hNf)
  have HXX4:Hid (Boxed w4 nB 3 (.int .i64 q.src)∧Boxed w4 fB 3 (.int .i64 q.rd)):=aa (by rw[←hw4];exact⟨HXX.out.1.other hnf _,HXX.out.2.set _⟩);refine hK _ _ ?_
  clear hK K hw4 cF fF zF HXX HB3 cx1
  (try simp only[Act.put,ae,af,ag])
  refine fe ?_
  have HB4:=aa B4;have z4:N≤w4.heap.size:=by have:=B4.size;rw[HN.out]at this;exact this
  clear B4;go_wp2_with fail
  obtain⟨oB,hoB⟩:=cR (s0+1+1+1)
  obtain⟨tB,htB⟩:=cR (s0+1+1)
  obtain⟨qB,hqB⟩:=cR (s0+1)
  have HA:Hid (s0<qB∧qB<tB∧tB<oB∧oB<nB∧oB<fB∧nB≠fB∧nB<w4.heap.size∧fB<w4.heap.size):=aa ⟨by omega,by omega,by omega,by omega,by omega,hnf,HXX4.out.1.lt,HXX4.out.2.lt⟩;have HY:Hid (w4.heap[s0]? =some (.cells #[.slice aq kq cq,.slice ca cs.length cc] 25 (0,0))∧w4.heap[qB]? =some (.cells #[.int .i64 q.src,.int .i64 q.dst,.int .i64 q.sz,.int .i64 q.rd,.int .i64 q.D,.int .i64 q.pr,.bool q.cu] 38 (0,0))∧Boxed w4 tB 3 (.int .i64 no)∧Boxed w4 oB 42 (.slice none 0 0)):=aa (by
   have hz:=HSZ1.out;rw[←hqB,←htB,←hoB];exact⟨(HB4.out.block _ (by omega)).trans HX.out.1,(HB4.out.block _ (by omega)).trans HX.out.2.1,(HB4.out.block _ (by omega)).trans HX.out.2.2.1,(HB4.out.block _ (by omega)).trans HX.out.2.2.2⟩)
  rw[hoB,htB,hqB];have HBW4:Hid (Below s0 w w4):=aa (HB1.out.trans (HB4.out.mono (by have:=HSZ1.out;omega)));have hs4:s0≤w4.heap.size:=by have:=HA.out;omega
  clear HB4 HN HX HB1 HSZ1 hn0 hf0 hNn hNf hnf z4 z1 z1q hoB htB hqB;go_loopw [24] (fun kv wr=>∃(k:Nat) (vo:Value),k≤hs.length∧kv= .int .i64 (k:Int)∧Hid (HoV w4.heap.size oB vo (hopsH cs q no q.src q.rd (hs.take k)) wr)∧Hid (Boxed wr nB 3 (.int .i64 (nodeE cs q.src (hs.take k)))∧Boxed wr fB 3 (.int .i64 (fromE q.rd (hs.take k))))∧Hid (KpB w4.heap.size [oB,nB,fB] w4 wr)) (fun kv _=>hs.length-(intOf kv).toNat)
  case atStart=>exact⟨0,_,aE _,rfl,aa ⟨HY.out.2.2.2,aX _ _ _ _⟩,HXX4,aa (KpB.refl _ _ _)⟩
  case round=>
   obtain⟨k,vo,hk,rfl,HV,HNF,HK⟩:=hrel;have zr:w4.heap.size≤wr.heap.size:=HK.out.size;have HBW:Hid (Below s0 w wr):=aa (HBW4.out.trans (HK.out.below hs4 (fun x hx=>by have:=HA.out;simp at hx;omega)));have HYr:Hid (wr.heap[s0]? =some (.cells #[.slice aq kq cq,.slice ca cs.length cc] 25 (0,0))∧wr.heap[qB]? =some (.cells #[.int .i64 q.src,.int .i64 q.dst,.int .i64 q.sz,.int .i64 q.rd,.int .i64 q.D,.int .i64 q.pr,.bool q.cu] 38 (0,0))∧Boxed wr tB 3 (.int .i64 no)):=aa (by
    have h5:=HA.out;exact⟨(HK.out.block _ (by omega) (by simp;omega)).trans HY.out.1,(HK.out.block _ (by omega) (by simp;omega)).trans HY.out.2.1,(HK.out.block _ (by omega) (by simp;omega)).trans HY.out.2.2.1⟩)
   have zz:s0<wr.heap.size∧qB<wr.heap.size∧tB<wr.heap.size∧oB<wr.heap.size∧nB<wr.heap.size∧fB<wr.heap.size:=by have:=HA.out;omega
   obtain⟨zs,zq,zt,zo,zn,zf⟩:=zz;obtain⟨L,hL⟩:=cR (hopsH cs q no q.src q.rd (hs.take k))
   obtain⟨nd,hnd⟩:=cR (nodeE cs q.src (hs.take k))
   obtain⟨fr,hfr⟩:=cR (fromE q.rd (hs.take k))
   have HE:=aa (cS hL (cS hnd hfr));have hLl:L.length≤10000:=by
    have h5:=ji cs q no (hs.take k) q.src q.rd;rw[hL,aS]at h5;omega
   rw[hL]at HV;rw[hnd,hfr]at HNF;clear hL hnd hfr;have k0:(0:Int)≤(k:Int):=by omega
   by_cases hlt:k<hs.length
   ·obtain⟨bb,o,rfl,hbb,hcc⟩:=H4.out (by omega)
    obtain⟨⟨ct,bg,en,ar⟩,hx⟩:∃x,hs[k]? =some x:=⟨_,am hlt⟩
    have hxb:=HB.out _ (az hx);obtain⟨i,hi⟩:=bh hxb.1.1;simp only at hi;subst hi;obtain⟨p0,p1,p2,p3⟩:=hop0 hcc hx;simp only at p0 p1 p2 p3;have hil:i<cs.length:=by have:=hxb.1.2;simp only at this;omega
    obtain⟨cb,co,rfl,hcb,hccn⟩:=HC4.out (by omega);obtain⟨cn,hcn⟩:∃x,cs[i]? =some x:=⟨_,am hil⟩
    have HCO:Hid (conOf cs (i:Int)=cn):=aa (by unfold conOf;rw[bN,aJ,hcn];rfl);have pcn:w.cell? ⟨cb,co+i*7+1,none⟩=some (.int .i64 cn.tt):=hccn i cn hcn 1 _ rfl;have hcs:cb<s0:=by rw[←HS0.out];exact hcb
    have PCN:=aa pcn;have i0:(0:Int)≤(i:Int):=by omega
    have i1:(i:Int)<(cs.length:Int):=by omega
    obtain⟨ctt,hctt⟩:=cR cn.tt
    have HCTT:=aa hctt;rw[hctt]at PCN;clear hccn hcn pcn hctt;have hbs:bb<s0:=by rw[←HS0.out];exact hbb
    have q0:=(HBW.out.cell (p:=⟨bb,o+k*4,none⟩) hbs).trans p0;have q1:=(HBW.out.cell (p:=⟨bb,o+k*4+1,none⟩) hbs).trans p1;have q2:=(HBW.out.cell (p:=⟨bb,o+k*4+2,none⟩) hbs).trans p2;have q3:=(HBW.out.cell (p:=⟨bb,o+k*4+3,none⟩) hbs).trans p3;have hbr:bb<wr.heap.size:=by omega
    have k1:(k:Int)<(hs.length:Int):=by omega
    have HXB:=aa hxb;have HTK:Hid (hs.take (k+1)=hs.take k++[⟨(i:Int),bg,en,ar⟩]):=aa (el hx);clear hcc hx p0 p1 p2 p3 hxb;go_upto_region 7 with fail
    obtain⟨w7,hw7⟩:=cR (wr.alloc (.cells #[.int .i64 (i:Int),.int .i64 bg,.int .i64 en,.int .i64 ar] 68))
    rw[hw7];have b7:Below wr.heap.size wr w7:=by rw[←hw7];exact de (ap _ _)
    have X7:w7.heap[wr.heap.size]? =some (.cells #[.int .i64 (i:Int),.int .i64 bg,.int .i64 en,.int .i64 ar] 68 (0,0)):=by rw[←hw7];exact cW
    have z7:wr.heap.size<w7.heap.size:=(ai.1 X7).1;have c7:=fun q=>cU X7 q
    have c70:=fun q=>(b7.cell (p:=⟨s0,q,none⟩) zs).trans (cU HYr.out.1 q)
    have c71:=fun q=>(b7.cell (p:=⟨qB,q,none⟩) zq).trans (cU HYr.out.2.1 q)
    have HX7:=aa X7;have HB7:=aa b7;have HBW7:Hid (Below s0 w w7):=aa (HBW.out.trans (b7.mono (by omega)));have zs7:s0<w7.heap.size:=by omega
    have zq7:qB<w7.heap.size:=by omega
    clear hw7 b7 X7 q0 q1 q2 q3;go_wp2_with fail
    have hcl:Below w.heap.size w w7:=by rw[HS0.out];exact HBW7.out
    refine(ki qs cs _ _ q ⟨(i:Int),bg,en,ar⟩ _ ⟨_,_,_,rfl⟩ (HC.out.below' hcl) HP.out HXB.out).mono ?_
    obtain⟨lv,hlv⟩:∃q',lvH cs q ⟨(i:Int),bg,en,ar⟩=q':=⟨_,rfl⟩
    rw[hlv];have HLV:=aa hlv;rintro e w8 ⟨rfl,hb8⟩;have HB8:=aa (dq HB7.out hb8);have HX8:=aa ((hb8.block _ z7).trans HX7.out);have z8:wr.heap.size<w8.heap.size:=by have:=hb8.size;omega
    clear c7 c70 c71 hb8 hlv hcl;have hcall:∀args W,(callFunc 96 args).run Tryz.prog W= .ok (.enter 96 args) W:=fun _ _=>by kernel_rfl
    have HV8:Hid (HoV w4.heap.size oB vo L w8):=aa ⟨(HB8.out.block _ zo).trans HV.out.1,cV HV.out.2 (fun q hq=>HB8.out.block q (HV.out.2.lt q hq).2)⟩;have HYN:Hid (Boxed w8 nB 3 (.int .i64 nd)∧Boxed w8 fB 3 (.int .i64 fr)):=aa ⟨(HB8.out.block _ zn).trans HNF.out.1,(HB8.out.block _ zf).trans HNF.out.2⟩;go_wp2_with fail
    refine(mS w4.heap.size oB nB fB qB tB vo L q nd fr lv no _ HV8.out (by have:=HA.out;omega) (by omega) HYN.out.1 HYN.out.2 ((HB8.out.block _ zq).trans HYr.out.2.1) ((HB8.out.block _ zt).trans HYr.out.2.2) (by omega)).mono ?_
    unfold AddPost;rintro e w9 ⟨rfl,⟨vo9,hv9,-⟩,hk9⟩;have hvo:∀b,vo.ownBlock=some b→w4.heap.size≤b∧b<w8.heap.size:=fun b hb=>HV8.out.2.lt b hb
    have hzx:wr.heap.size<w9.heap.size:=by have:=hk9.size;omega
    have X9:w9.heap[wr.heap.size]? =some (.cells #[.int .i64 (i:Int),.int .i64 bg,.int .i64 en,.int .i64 ar] 68 (0,0)):=(hk9.block _ z8 (by omega) (fun e=>absurd (fE HV8.out.2 e HX8.out) (by decide))).trans HX8.out;have hlow:∀b,b<w4.heap.size→b≠oB→w9.heap[b]? =w8.heap[b]?:=fun b hb hne=>hk9.block _ (by omega) hne (fun e=>by have:=(hvo b e).1;omega)
    have N9:Boxed w9 nB 3 (.int .i64 nd):=(hlow nB (by have:=HA.out;omega) (by have:=HA.out;omega)).trans HYN.out.1;have F9:Boxed w9 fB 3 (.int .i64 fr):=(hlow fB (by have:=HA.out;omega) (by have:=HA.out;omega)).trans HYN.out.2;have S9:w9.heap[s0]? =some (.cells #[.slice aq kq cq,.slice (some ⟨cb,co,none⟩) cs.length cc] 25 (0,0)):=(hlow s0 (by have:=HA.out;omega) (by have:=HA.out;omega)).trans ((HB8.out.block _ zs).trans HYr.out.1);have HK9:Hid (KpB w4.heap.size [oB,nB,fB] w4 w9):=aa ((HK.out.trans (KpB.of HB8.out zr)).trans (hk9.toB (fun b hb=>(hvo b hb).1) (by simp) (by omega)));have HBW9:Hid (Below s0 w w9):=aa (HBW4.out.trans (HK9.out.below hs4 (fun x hx=>by have:=HA.out;simp at hx;omega)));have g9:w9.cell? ⟨cb,co+i*7+1,none⟩=some (.int .i64 ctt):=(HBW9.out.cell (p:=⟨cb,co+i*7+1,none⟩) hcs).trans PCN.out;have cx9:=fun q=>cU X9 q
    have cs9:=fun q=>cU S9 q
    have fN:=N9.frozen;have cN:=N9.cell;have fF:=F9.frozen;have cF:=F9.cell;have y1:s0<w9.heap.size:=by have:=hk9.size;omega
    have y2:nB<w9.heap.size:=N9.lt;have y3:fB<w9.heap.size:=F9.lt;have y4:cb<w9.heap.size:=by omega
    have HN9:=aa (cS N9 F9);have HV9:=aa hv9;have hnf:nB≠fB:=HA.out.2.2.2.2.2.1;have hfn:fB≠nB:=fun e=>hnf e.symm
    clear N9 F9 X9 S9 hlow hvo hv9 hk9;go_upto_region 8 with fail
    have e1_:s0≠nB:=by have:=HA.out;omega
    have e2_:wr.heap.size≠nB:=by omega
    have e3_:cb≠nB:=by have:=HA.out;omega
    refine dd (fun V=>(∀q_,V.cell? ⟨s0,q_,none⟩=(#[.slice aq kq cq,.slice (some ⟨cb,co,none⟩) cs.length cc]:Array Value)[q_]?)∧(∀q_,V.cell? ⟨wr.heap.size,q_,none⟩=(#[.int .i64 (i:Int),.int .i64 bg,.int .i64 en,.int .i64 ar]:Array Value)[q_]?)∧V.cell? ⟨cb,co+i*7+1,none⟩=some (.int .i64 ctt)) [0,1,0,1,0,0,1,0,1,2,3] [0,1,2,3,4,5,6,7,8,9,10] (by kernel_rfl) (by kernel_rfl) ?_ ?_
    case refine_1=>exact⟨cs9,cx9,g9⟩
    (iterate 9 (refine cX rfl (by decide) (by rfl) (fun w1 hS=>by(try(have hS:=hS rfl;obtain hS:=hS;repeat (obtain⟨_,hS⟩:=hS)));go_simp;rfl) ?_;simp only[Act.put,ae,af,ag]))
    (refine dA rfl rfl (by rfl) (fun K hK=>?_);go_simp)
    refine hK _ _ ⟨fun q_=>(gF w9 nB s0 q_ _ e1_).trans (cs9 q_),fun q_=>(gF w9 nB wr.heap.size q_ _ e2_).trans (cx9 q_),(gF w9 nB cb _ _ e3_).trans g9⟩ ?_
    clear hK K
    (try simp only[Act.put,ae,af,ag])
    (refine di rfl rfl (by rfl) (fun K hK=>?_);go_simp)
    (refine hK _ _ ?_;clear hK K;(try simp only[Act.put,ae,af,ag]))
    refine du ?_
    obtain⟨w10,hw10⟩:=cR (((w9.setCell ⟨nB,0,none⟩ (.int .i64 ctt)).setCell ⟨fB,0,none⟩ (.int .i64 bg)).drew)
    rw[hw10];have hne10:∀q,q≠nB→q≠fB→w10.heap[q]? =w9.heap[q]?:=fun q h1 h2=>by rw[←hw10];exact(heap_setCell_other _ ⟨fB,0,none⟩ q _ h2).trans (heap_setCell_other w9 ⟨nB,0,none⟩ q _ h1)
    have HN10:Hid (Boxed w10 nB 3 (.int .i64 ctt)∧Boxed w10 fB 3 (.int .i64 bg)):=aa (by rw[←hw10];exact⟨(HN9.out.1.set _).other hnf _,(HN9.out.2.other hfn _).set _⟩);have HK10:Hid (KpB w4.heap.size [oB,nB,fB] w4 w10):=aa (by rw[←hw10];exact((HK9.out.trans (KpB.set w9 _ (by simp))).trans (KpB.set _ _ (by simp))).trans (KpB.of (bdrew (ap _ _)) (by simp;omega)));have HV10:Hid (HoV w4.heap.size oB vo9 (addL L nd fr lv q.sz no) w10):=aa (by
     have h5:=HA.out;refine⟨(hne10 _ (by omega) (by omega)).trans HV9.out.1,cV HV9.out.2 (fun b hb=>hne10 b (fun e=>?_) (fun e=>?_))⟩<;>(have:=(HV9.out.2.lt b hb).1;omega))
    clear hw10 hne10 cN fN cF fF cx9 cs9 g9;go_wp2
    go_roundw
    case rel=>exact⟨k+1,vo9,by omega,by go_num,aa (by
      rw[HTK.out,gP,HE.out.1,HE.out.2.1,HE.out.2.2,pO,HLV.out];exact HV10.out),aa (by
      rw[HTK.out,fl,jc,HE.out.2.1,HE.out.2.2];show Boxed w10 nB 3 (.int .i64 (conOf cs (i:Int)).tt)∧Boxed w10 fB 3 (.int .i64 bg)
      rw[HCO.out,HCTT.out];exact HN10.out),HK10⟩
    case measure=>simp[intOf];omega
   ·obtain rfl:k=hs.length:=by omega
    have HEF:Hid (holdS cs q no un hs=if nd≠q.dst then addL L nd fr un q.sz no else L):=aa (by
     have h5:=HE.out;rw[aL]at h5;unfold holdS;rw[h5.1,h5.2.1,h5.2.2];unfold endH addL;by_cases e:nd≠q.dst
     ·rw[if_pos e]
      by_cases e2:fr<un
      ·rw[if_pos ⟨e,e2⟩,if_pos e2]
      ·rw[if_neg (fun h=>e2 h.2),if_neg e2]
     ·rw[if_neg e,if_neg (fun h=>e h.1),cK])
    have cN:=HNF.out.1.cell;have cq:=fun o=>cU HYr.out.2.1 o
    by_cases y:nd=q.dst
    ·have dy:(nd != q.dst)=false:=by simpa using y
     have HF:Hid (holdS cs q no un hs=L):=aa (by rw[HEF.out,if_neg (fun h=>h y)]);have co:=HV.out.1.cell;clear y;go_wp2
     go_ret
     refine⟨⟨vo,rfl,?_⟩,by rw[HS0.out];exact HBW.out⟩
     rw[HF.out];exact jW HV.out.2 (by rw[HS0.out];omega)
    ·have dy:(nd != q.dst)=true:=by simpa using y
     have HF:Hid (holdS cs q no un hs=addL L nd fr un q.sz no):=aa (by rw[HEF.out,if_pos y]);have hcall:∀args W,(callFunc 96 args).run Tryz.prog W= .ok (.enter 96 args) W:=fun _ _=>by kernel_rfl
     clear y;go_wp2_with fail
     refine(mS w4.heap.size oB nB fB qB tB vo L q nd fr un no _ HV.out (by have:=HA.out;omega) (by omega) HNF.out.1 HNF.out.2 HYr.out.2.1 HYr.out.2.2 (by omega)).mono ?_
     unfold AddPost;rintro e w9 ⟨rfl,⟨vo9,hv9,-⟩,hk9⟩;have HV9:=aa hv9;have co9:=hv9.1.cell;have zo9:=hv9.1.lt;have HBW9:Hid (Below s0 w w9):=aa (HBW4.out.trans ((HK.out.trans (hk9.toB (fun b hb=>(HV.out.2.lt b hb).1) (by simp) (by omega))).below hs4 (fun x hx=>by have:=HA.out;simp at hx;omega)));clear hv9 hk9 cN cq;go_wp2
     go_ret
     refine⟨⟨vo9,rfl,?_⟩,by rw[HS0.out];exact HBW9.out⟩
     rw[HF.out];exact jW HV9.out.2 (by rw[HS0.out];omega)
end
end Go.Proofs.YtfnciigbbolckaaGreat
namespace Go.Proofs
open Go.Shelf
def Tryz.lays189_ren:Go.Shelf.Ren:=⟨fun | 189=>109 | 125=>105 | 257=>151 | 128=>148 | 129=>149 | 294=>177 | 295=>178 | 296=>179 | 297=>180 | 298=>181 | 299=>182 | 216=>183 | 300=>184 | 301=>185 | 328=>204 | 329=>172 | 330=>173 | 331=>205 | 332=>206 | 215=>67 | 343=>213 | n=>n,fun | 28=>22 | 3=>3 | 46=>182 | 0=>0 | 51=>231 | 53=>233 | 4=>4 | 183=>225 | 182=>224 | 131=>131 | 5=>5 | 9=>9 | 218=>249 | 222=>253 | 228=>271 | 229=>272 | n=>n,fun | n=>n⟩
theorem Tryz.lays189:Go.Proofs.Lays.n189 Tryz.prog Tryz.lays189_ren:={
 mixed:=by kernel_rfl
 f125:=Tryz.func105.trans (congrArg some (by kernel_rfl))
 f128:=Tryz.func148.trans (congrArg some (by kernel_rfl))
 f129:=Tryz.func149.trans (congrArg some (by kernel_rfl))
 f189:=Tryz.func109.trans (congrArg some (by kernel_rfl))
 f215:=Tryz.func67.trans (congrArg some (by kernel_rfl))
 f216:=Tryz.func183.trans (congrArg some (by kernel_rfl))
 f257:=Tryz.func151.trans (congrArg some (by kernel_rfl))
 f294:=Tryz.func177.trans (congrArg some (by kernel_rfl))
 f295:=Tryz.func178.trans (congrArg some (by kernel_rfl))
 f296:=Tryz.func179.trans (congrArg some (by kernel_rfl))
 f297:=Tryz.func180.trans (congrArg some (by kernel_rfl))
 f298:=Tryz.func181.trans (congrArg some (by kernel_rfl))
 f299:=Tryz.func182.trans (congrArg some (by kernel_rfl))
 f300:=Tryz.func184.trans (congrArg some (by kernel_rfl))
 f301:=Tryz.func185.trans (congrArg some (by kernel_rfl))
 f328:=Tryz.func204.trans (congrArg some (by kernel_rfl))
 f329:=Tryz.func172.trans (congrArg some (by kernel_rfl))
 f330:=Tryz.func173.trans (congrArg some (by kernel_rfl))
 f331:=Tryz.func205.trans (congrArg some (by kernel_rfl))
 f332:=Tryz.func206.trans (congrArg some (by kernel_rfl))
 f343:=Tryz.func213.trans (congrArg some (by kernel_rfl))
 t0:=Tryz.underlying0
 a0:=Tryz.isAgg0
 z0:=Tryz.sizeOf0
 v0:=Tryz.zeroValue0
 t3:=Tryz.underlying3
 a3:=Tryz.isAgg3
 z3:=Tryz.sizeOf3
 v3:=Tryz.zeroValue3
 t4:=Tryz.underlying4
 a4:=Tryz.isAgg4
 z4:=Tryz.sizeOf4
 v4:=Tryz.zeroValue4
 t5:=Tryz.underlying5
 a5:=Tryz.isAgg5
 z5:=Tryz.sizeOf5
 v5:=Tryz.zeroValue5
 t9:=Tryz.underlying9
 a9:=Tryz.isAgg9
 z9:=Tryz.sizeOf9
 v9:=Tryz.zeroValue9
 t28:=Tryz.underlying22
 a28:=Tryz.isAgg22
 z28:=Tryz.sizeOf22
 v28:=Tryz.zeroValue22
 t46:=Tryz.underlying182
 a46:=Tryz.isAgg182
 z46:=Tryz.sizeOf182
 v46:=Tryz.zeroValue182
 t51:=Tryz.underlying231
 a51:=Tryz.isAgg231
 z51:=Tryz.sizeOf231
 v51:=Tryz.zeroValue231
 t53:=Tryz.underlying233
 a53:=Tryz.isAgg233
 z53:=Tryz.sizeOf233
 v53:=Tryz.zeroValue233
 t131:=Tryz.underlying131
 a131:=Tryz.isAgg131
 z131:=Tryz.sizeOf131
 v131:=Tryz.zeroValue131
 t182:=Tryz.underlying224
 a182:=Tryz.isAgg224
 z182:=Tryz.sizeOf224
 v182:=Tryz.zeroValue224
 t183:=Tryz.underlying225
 a183:=Tryz.isAgg225
 z183:=Tryz.sizeOf225
 v183:=Tryz.zeroValue225
 t218:=Tryz.underlying249
 a218:=Tryz.isAgg249
 z218:=Tryz.sizeOf249
 v218:=Tryz.zeroValue249
 t222:=Tryz.underlying253
 a222:=Tryz.isAgg253
 z222:=Tryz.sizeOf253
 v222:=Tryz.zeroValue253
 t228:=Tryz.underlying271
 a228:=Tryz.isAgg271
 z228:=Tryz.sizeOf271
 v228:=Tryz.zeroValue271
 t229:=Tryz.underlying272
 a229:=Tryz.isAgg272
 z229:=Tryz.sizeOf272
 v229:=Tryz.zeroValue272}
open Go.Sort Go.RowKit in
theorem Tryz.slices_Sort_int (blk off cap:Nat) (zs:List Int) (w:World) (hH:Holds (Value.int .i64) w blk off zs.toArray) (hblk:blk<w.heap.size) (hsz:zs.length<4611686018427387904):
  Calls Tryz.prog 109 #[.slice (some ⟨blk,off,none⟩) zs.length cap] w fun e w'=>
   e= .returned (.tuple #[])∧∃n os,w'=grow (putRow (Value.int .i64) (Sort.ahead w n) blk off (zs.mergeSort fun x y=>decide (x≤y)).toArray) os:=Any.slices_Sort_int Tryz.lays189 blk off cap zs w hH hblk hsz
open Go.Lib in
open Go.Lib in
open Go.RowKit Go.Sort in
theorem Tryz.slices_Sort_int_none (p:Option Addr) (cap:Nat) (w:World):
  Calls Tryz.prog 109 #[.slice p 0 cap] w fun e w'=>e= .returned (.tuple #[])∧w'=w:=Any.slices_Sort_int_none Tryz.lays189 p cap w
def Tryz.laysF06_f57_ren:Go.Shelf.Ren:=⟨fun | 6=>57 | 15=>105 | 14=>104 | 28=>148 | 29=>149 | 20=>140 | 21=>141 | 22=>142 | 23=>143 | 24=>144 | 25=>145 | 26=>146 | 27=>147 | 46=>171 | 47=>172 | 48=>173 | 49=>174 | 50=>175 | 57=>203 | n=>n,fun | 22=>42 | 24=>75 | 25=>129 | 3=>3 | 39=>182 | 0=>0 | 53=>231 | 55=>233 | 4=>4 | 46=>225 | 45=>224 | 50=>131 | 5=>5 | 9=>9 | 66=>249 | 70=>253 | 76=>271 | 77=>272 | n=>n,fun | n=>n⟩
theorem Tryz.laysF06_f57:Go.Proofs.SlLaysF0.n6 Tryz.prog Tryz.laysF06_f57_ren:={
 mixed:=by kernel_rfl
 f6:=⟨Tryz.f57.name,by decide,Tryz.func57.trans (congrArg some (by kernel_rfl))⟩
 f14:=⟨Tryz.f104.name,by decide,Tryz.func104.trans (congrArg some (by kernel_rfl))⟩
 f15:=Tryz.func105.trans (congrArg some (by kernel_rfl))
 f20:=⟨Tryz.f140.name,by decide,Tryz.func140.trans (congrArg some (by kernel_rfl))⟩
 f21:=⟨Tryz.f141.name,by decide,Tryz.func141.trans (congrArg some (by kernel_rfl))⟩
 f22:=⟨Tryz.f142.name,by decide,Tryz.func142.trans (congrArg some (by kernel_rfl))⟩
 f23:=⟨Tryz.f143.name,by decide,Tryz.func143.trans (congrArg some (by kernel_rfl))⟩
 f24:=⟨Tryz.f144.name,by decide,Tryz.func144.trans (congrArg some (by kernel_rfl))⟩
 f25:=⟨Tryz.f145.name,by decide,Tryz.func145.trans (congrArg some (by kernel_rfl))⟩
 f26:=⟨Tryz.f146.name,by decide,Tryz.func146.trans (congrArg some (by kernel_rfl))⟩
 f27:=⟨Tryz.f147.name,by decide,Tryz.func147.trans (congrArg some (by kernel_rfl))⟩
 f28:=Tryz.func148.trans (congrArg some (by kernel_rfl))
 f29:=Tryz.func149.trans (congrArg some (by kernel_rfl))
 f46:=⟨Tryz.f171.name,by decide,Tryz.func171.trans (congrArg some (by kernel_rfl))⟩
 f47:=Tryz.func172.trans (congrArg some (by kernel_rfl))
 f48:=Tryz.func173.trans (congrArg some (by kernel_rfl))
 f49:=⟨Tryz.f174.name,by decide,Tryz.func174.trans (congrArg some (by kernel_rfl))⟩
 f50:=⟨Tryz.f175.name,by decide,Tryz.func175.trans (congrArg some (by kernel_rfl))⟩
 f57:=⟨Tryz.f203.name,by decide,Tryz.func203.trans (congrArg some (by kernel_rfl))⟩
 t0:=Tryz.underlying0
 a0:=Tryz.isAgg0
 z0:=Tryz.sizeOf0
 v0:=Tryz.zeroValue0
 t3:=Tryz.underlying3
 a3:=Tryz.isAgg3
 z3:=Tryz.sizeOf3
 v3:=Tryz.zeroValue3
 t4:=Tryz.underlying4
 a4:=Tryz.isAgg4
 z4:=Tryz.sizeOf4
 v4:=Tryz.zeroValue4
 t5:=Tryz.underlying5
 a5:=Tryz.isAgg5
 z5:=Tryz.sizeOf5
 v5:=Tryz.zeroValue5
 t9:=Tryz.underlying9
 a9:=Tryz.isAgg9
 z9:=Tryz.sizeOf9
 v9:=Tryz.zeroValue9
 t22:=Tryz.underlying42
 a22:=Tryz.isAgg42
 z22:=Tryz.sizeOf42
 v22:=Tryz.zeroValue42
 t25:=Tryz.underlying129
 a25:=Tryz.isAgg129
 z25:=Tryz.sizeOf129
 v25:=Tryz.zeroValue129
 t39:=Tryz.underlying182
 a39:=Tryz.isAgg182
 z39:=Tryz.sizeOf182
 v39:=Tryz.zeroValue182
 t45:=Tryz.underlying224
 a45:=Tryz.isAgg224
 z45:=Tryz.sizeOf224
 v45:=Tryz.zeroValue224
 t46:=Tryz.underlying225
 a46:=Tryz.isAgg225
 z46:=Tryz.sizeOf225
 v46:=Tryz.zeroValue225
 t50:=Tryz.underlying131
 a50:=Tryz.isAgg131
 z50:=Tryz.sizeOf131
 v50:=Tryz.zeroValue131
 t53:=Tryz.underlying231
 a53:=Tryz.isAgg231
 z53:=Tryz.sizeOf231
 v53:=Tryz.zeroValue231
 t55:=Tryz.underlying233
 a55:=Tryz.isAgg233
 z55:=Tryz.sizeOf233
 v55:=Tryz.zeroValue233
 t66:=Tryz.underlying249
 a66:=Tryz.isAgg249
 z66:=Tryz.sizeOf249
 v66:=Tryz.zeroValue249
 t70:=Tryz.underlying253
 a70:=Tryz.isAgg253
 z70:=Tryz.sizeOf253
 v70:=Tryz.zeroValue253
 t76:=Tryz.underlying271
 a76:=Tryz.isAgg271
 z76:=Tryz.sizeOf271
 v76:=Tryz.zeroValue271
 t77:=Tryz.underlying272
 a77:=Tryz.isAgg272
 z77:=Tryz.sizeOf272
 v77:=Tryz.zeroValue272}
open Go.Sort Go.RowKit in
theorem Tryz.slices_SortFunc_none_f57 (p:Option Addr) (cap:Nat) (fv:Value) (w:World):
  Calls Tryz.prog 57 #[.slice p 0 cap,fv] w fun e w'=>e= .returned (.tuple #[])∧w'=w:=AnyF.slices_SortFunc_none Tryz.laysF06_f57 p cap fv w
def Tryz.laysF06_f125_ren:Go.Shelf.Ren:=⟨fun | 6=>125 | 15=>105 | 14=>160 | 28=>148 | 29=>149 | 20=>191 | 21=>192 | 22=>193 | 23=>194 | 24=>195 | 25=>196 | 26=>197 | 27=>198 | 46=>208 | 47=>172 | 48=>173 | 49=>209 | 50=>210 | 57=>215 | n=>n,fun | 22=>62 | 24=>153 | 25=>202 | 3=>3 | 39=>182 | 0=>0 | 53=>231 | 55=>233 | 4=>4 | 46=>225 | 45=>224 | 50=>131 | 5=>5 | 9=>9 | 66=>249 | 70=>253 | 76=>271 | 77=>272 | n=>n,fun | n=>n⟩
theorem Tryz.laysF06_f125:Go.Proofs.SlLaysF0.n6 Tryz.prog Tryz.laysF06_f125_ren:={
 mixed:=by kernel_rfl
 f6:=⟨Tryz.f125.name,by decide,Tryz.func125.trans (congrArg some (by kernel_rfl))⟩
 f14:=⟨Tryz.f160.name,by decide,Tryz.func160.trans (congrArg some (by kernel_rfl))⟩
 f15:=Tryz.func105.trans (congrArg some (by kernel_rfl))
 f20:=⟨Tryz.f191.name,by decide,Tryz.func191.trans (congrArg some (by kernel_rfl))⟩
 f21:=⟨Tryz.f192.name,by decide,Tryz.func192.trans (congrArg some (by kernel_rfl))⟩
 f22:=⟨Tryz.f193.name,by decide,Tryz.func193.trans (congrArg some (by kernel_rfl))⟩
 f23:=⟨Tryz.f194.name,by decide,Tryz.func194.trans (congrArg some (by kernel_rfl))⟩
 f24:=⟨Tryz.f195.name,by decide,Tryz.func195.trans (congrArg some (by kernel_rfl))⟩
 f25:=⟨Tryz.f196.name,by decide,Tryz.func196.trans (congrArg some (by kernel_rfl))⟩
 f26:=⟨Tryz.f197.name,by decide,Tryz.func197.trans (congrArg some (by kernel_rfl))⟩
 f27:=⟨Tryz.f198.name,by decide,Tryz.func198.trans (congrArg some (by kernel_rfl))⟩
 f28:=Tryz.func148.trans (congrArg some (by kernel_rfl))
 f29:=Tryz.func149.trans (congrArg some (by kernel_rfl))
 f46:=⟨Tryz.f208.name,by decide,Tryz.func208.trans (congrArg some (by kernel_rfl))⟩
 f47:=Tryz.func172.trans (congrArg some (by kernel_rfl))
 f48:=Tryz.func173.trans (congrArg some (by kernel_rfl))
 f49:=⟨Tryz.f209.name,by decide,Tryz.func209.trans (congrArg some (by kernel_rfl))⟩
 f50:=⟨Tryz.f210.name,by decide,Tryz.func210.trans (congrArg some (by kernel_rfl))⟩
 f57:=⟨Tryz.f215.name,by decide,Tryz.func215.trans (congrArg some (by kernel_rfl))⟩
 t0:=Tryz.underlying0
 a0:=Tryz.isAgg0
 z0:=Tryz.sizeOf0
 v0:=Tryz.zeroValue0
 t3:=Tryz.underlying3
 a3:=Tryz.isAgg3
 z3:=Tryz.sizeOf3
 v3:=Tryz.zeroValue3
 t4:=Tryz.underlying4
 a4:=Tryz.isAgg4
 z4:=Tryz.sizeOf4
 v4:=Tryz.zeroValue4
 t5:=Tryz.underlying5
 a5:=Tryz.isAgg5
 z5:=Tryz.sizeOf5
 v5:=Tryz.zeroValue5
 t9:=Tryz.underlying9
 a9:=Tryz.isAgg9
 z9:=Tryz.sizeOf9
 v9:=Tryz.zeroValue9
 t22:=Tryz.underlying62
 a22:=Tryz.isAgg62
 z22:=Tryz.sizeOf62
 v22:=Tryz.zeroValue62
 t25:=Tryz.underlying202
 a25:=Tryz.isAgg202
 z25:=Tryz.sizeOf202
 v25:=Tryz.zeroValue202
 t39:=Tryz.underlying182
 a39:=Tryz.isAgg182
 z39:=Tryz.sizeOf182
 v39:=Tryz.zeroValue182
 t45:=Tryz.underlying224
 a45:=Tryz.isAgg224
 z45:=Tryz.sizeOf224
 v45:=Tryz.zeroValue224
 t46:=Tryz.underlying225
 a46:=Tryz.isAgg225
 z46:=Tryz.sizeOf225
 v46:=Tryz.zeroValue225
 t50:=Tryz.underlying131
 a50:=Tryz.isAgg131
 z50:=Tryz.sizeOf131
 v50:=Tryz.zeroValue131
 t53:=Tryz.underlying231
 a53:=Tryz.isAgg231
 z53:=Tryz.sizeOf231
 v53:=Tryz.zeroValue231
 t55:=Tryz.underlying233
 a55:=Tryz.isAgg233
 z55:=Tryz.sizeOf233
 v55:=Tryz.zeroValue233
 t66:=Tryz.underlying249
 a66:=Tryz.isAgg249
 z66:=Tryz.sizeOf249
 v66:=Tryz.zeroValue249
 t70:=Tryz.underlying253
 a70:=Tryz.isAgg253
 z70:=Tryz.sizeOf253
 v70:=Tryz.zeroValue253
 t76:=Tryz.underlying271
 a76:=Tryz.isAgg271
 z76:=Tryz.sizeOf271
 v76:=Tryz.zeroValue271
 t77:=Tryz.underlying272
 a77:=Tryz.isAgg272
 z77:=Tryz.sizeOf272
 v77:=Tryz.zeroValue272}
open Go.Sort Go.RowKit in
theorem Tryz.slices_SortFunc_none_f125 (p:Option Addr) (cap:Nat) (fv:Value) (w:World):
  Calls Tryz.prog 125 #[.slice p 0 cap,fv] w fun e w'=>e= .returned (.tuple #[])∧w'=w:=AnyF.slices_SortFunc_none Tryz.laysF06_f125 p cap fv w
def Tryz.laysF020_f110_ren:Go.Shelf.Ren:=⟨fun | 20=>110 | n=>n,fun | 24=>53 | 22=>33 | 3=>3 | 25=>80 | 4=>4 | 0=>0 | n=>n,fun | n=>n⟩
theorem Tryz.laysF020_f110:Go.Proofs.SlLaysF0.n20 Tryz.prog Tryz.laysF020_f110_ren:={
 mixed:=by kernel_rfl
 f20:=⟨Tryz.f110.name,by decide,Tryz.func110.trans (congrArg some (by kernel_rfl))⟩
 t0:=Tryz.underlying0
 a0:=Tryz.isAgg0
 z0:=Tryz.sizeOf0
 v0:=Tryz.zeroValue0
 t3:=Tryz.underlying3
 a3:=Tryz.isAgg3
 z3:=Tryz.sizeOf3
 v3:=Tryz.zeroValue3
 t4:=Tryz.underlying4
 a4:=Tryz.isAgg4
 z4:=Tryz.sizeOf4
 v4:=Tryz.zeroValue4
 t22:=Tryz.underlying33
 a22:=Tryz.isAgg33
 z22:=Tryz.sizeOf33
 v22:=Tryz.zeroValue33
 t25:=Tryz.underlying80
 a25:=Tryz.isAgg80
 z25:=Tryz.sizeOf80
 v25:=Tryz.zeroValue80}
end Go.Proofs
namespace Go.Proofs.YtfnciigbbolckaaGreat
end Go.Proofs.YtfnciigbbolckaaGreat
