/- Part 22 of the proof about mailboattop.TopOthers. No condition. -/
import Derived.Test.YtfnciigbbolckaaGreatQ00
import Derived.Test.YtfnciigbbolckaaGreatQ04
import Derived.Test.YtfnciigbbolckaaGreatQ05
import Derived.Test.YtfnciigbbolckaaGreatQ06
import Derived.Test.YtfnciigbbolckaaGreatQ20
import Derived.Test.YtfnciigbbolckaaGreatQ21
set_option linter.unusedVariables false
set_option linter.unusedSimpArgs false
set_option maxRecDepth 100000
set_option maxHeartbeats 64000000
namespace Go.Proofs.YtfnciigbbolckaaGreat
open Go Go.RowKit Iv
attribute [local go_sem] Oper.semAt_some
attribute [local go_sem] pw gu B_app pv B_get B_toList
section
theorem Fits_ok (c:Con) (b:Int) (s:Nat) (w:World) (hc:chkCon c=0) (s1:1≤s) (hs:s≤65536) (hb:c.st≤b) (b1:b≤1099511627776):
  Calls Tryz.prog 102 #[.agg #[.int .i64 c.fr,.int .i64 c.tt,.int .i64 c.st,.int .i64 c.en,.int .i64 c.ra,.int .i64 c.rg,.int .i64 c.lo],.int .i64 b,.int .i64 (s:Int)] w fun e w'=>e= .returned (.bool (decide (b≤c.en-durS c s)))∧Below w.heap.size w w':=by
 obtain⟨R,hR⟩:=cR (decide (b≤c.en-durS c s))
 have HR:=aa hR;have HC:=aa hc;rw[hR];clear hR hc;go_enter Tryz.func102,Tryz.ntmps102
 go_wp2_with fail
 refine(mz c s _ HC.out s1 hs).mono ?_
 rintro e w1 ⟨rfl,hb1⟩;have HB1:=aa (dq (de (ap _ _)) hb1);have X1:w1.heap[w.heap.size]? =some (.cells #[.int .i64 c.fr,.int .i64 c.tt,.int .i64 c.st,.int .i64 c.en,.int .i64 c.ra,.int .i64 c.rg,.int .i64 c.lo] 95 (0,0)):=(hb1.block _ (by simp)).trans cW;have z1:w.heap.size<w1.heap.size:=(ai.1 X1).1;have cb:=fun o=>cU X1 o
 clear hb1 X1;go_wp2_with fail
 refine(fits_ok c b s _ HC.out s1 hs hb b1).mono ?_
 rw[HR.out];rintro e w2 ⟨rfl,hb2⟩;have HB2:=aa (dq HB1.out hb2);clear hb2 cb;go_wp2
 go_ret
 exact⟨rfl,HB2.out⟩
theorem rhop_ok (cs:List Con) (n:Nat) (c:Con) (b:Int) (s:Nat) (uq uc:Value) (src dst rd D pr:Int) (cu:Bool) (w:World) (hrow:RRow conC 7 w w.heap.size uc cs) (hn:cs[n]? =some c) (hc:chkCon c=0) (s1:1≤s) (hs:s≤65536) (b0:0≤b) (b1:b≤1099511627776):
  Calls Tryz.prog 103 #[.agg #[uq,uc],.agg #[.int .i64 src,.int .i64 dst,.int .i64 (s:Int),.int .i64 rd,.int .i64 D,.int .i64 pr,.bool cu],.int .i64 (n:Int),.int .i64 b] w fun e w'=>e= .returned (.agg #[.int .i64 (n:Int),.int .i64 b,.int .i64 (b+durS c s),.int .i64 (b+durS c s+c.rg)])∧Below w.heap.size w w':=by
 obtain⟨ca,cc,rfl,e1,e2,e3,e4⟩:=hrow;have hil:=(aw.1 hn).1;obtain⟨bb,o,rfl,hbb,hcell⟩:=e4 (by omega);have p0:w.cell? ⟨bb,o+n*7,none⟩=some (.int .i64 c.fr):=hcell n c hn 0 _ rfl;have p1:w.cell? ⟨bb,o+n*7+1,none⟩=some (.int .i64 c.tt):=hcell n c hn 1 _ rfl;have p2:w.cell? ⟨bb,o+n*7+2,none⟩=some (.int .i64 c.st):=hcell n c hn 2 _ rfl;have p3:w.cell? ⟨bb,o+n*7+3,none⟩=some (.int .i64 c.en):=hcell n c hn 3 _ rfl;have p4:w.cell? ⟨bb,o+n*7+4,none⟩=some (.int .i64 c.ra):=hcell n c hn 4 _ rfl;have p5:w.cell? ⟨bb,o+n*7+5,none⟩=some (.int .i64 c.rg):=hcell n c hn 5 _ rfl;have p6:w.cell? ⟨bb,o+n*7+6,none⟩=some (.int .i64 c.lo):=hcell n c hn 6 _ rfl;have hf:=ee hc;have hdb:=fM hf (by omega:0<s) hs;have r0:=hf.rg0;have r1:=hf.rg1;obtain⟨Dn,hD⟩:=cR (durS c s)
 rw[hD]at hdb ⊢;have HD:=aa hD;have HC:=aa hc;have n0:(0:Int)≤(n:Int):=by omega
 have n1:(n:Int)<(cs.length:Int):=by omega
 obtain⟨rg,hrg⟩:=cR c.rg
 have HRG:=aa hrg;have w1_:IntKind.i64.wrap (b+Dn)=b+Dn:=by rw[ax];omega
 have w2_:IntKind.i64.wrap (b+Dn+c.rg)=b+Dn+c.rg:=by rw[ax];omega
 unfold maxLen at e2;clear e3 e4 hcell hf hn hc hD hrg;go_enter Tryz.func103,Tryz.ntmps103
 go_upto_region 1 with fail
 obtain⟨w0,hw0⟩:=cR (((w.alloc (.cells #[uq,.slice (some ⟨bb,o,none⟩) cs.length cc] 25)).alloc (.cells #[.int .i64 src,.int .i64 dst,.int .i64 (s:Int),.int .i64 rd,.int .i64 D,.int .i64 pr,.bool cu] 38)).alloc (.cells #[.int .i64 0,.int .i64 0,.int .i64 0,.int .i64 0] 68))
 rw[hw0];have hb0:Below w.heap.size w w0:=by rw[←hw0];exact cZ
 have X0:w0.heap[w.heap.size]? =some (.cells #[uq,.slice (some ⟨bb,o,none⟩) cs.length cc] 25 (0,0)):=by rw[←hw0];exact(ak _ _ _ (by simp;omega)).trans ((ak _ _ _ (by simp)).trans cW)
 have X1:w0.heap[w.heap.size+1]? =some (.cells #[.int .i64 src,.int .i64 dst,.int .i64 (s:Int),.int .i64 rd,.int .i64 D,.int .i64 pr,.bool cu] 38 (0,0)):=by rw[←hw0];exact(ak _ _ _ (by simp)).trans (cY (by simp))
 have X2:Hid (w0.heap[w.heap.size+1+1]? =some (.cells #[.int .i64 0,.int .i64 0,.int .i64 0,.int .i64 0] 68 (0,0))):=aa (by rw[←hw0];exact cY (by simp));have z0:w.heap.size+1+1<w0.heap.size:=by rw[←hw0];simp
 have hbb0:bb<w0.heap.size:=by omega
 have c0:=fun q=>cU X0 q
 have c1:=fun q=>cU X1 q
 have HB0:=aa hb0;have HX1:=aa X1;have p0_:=(hb0.cell (p:=⟨bb,o+n*7,none⟩) hbb).trans p0;have p1_:=(hb0.cell (p:=⟨bb,o+n*7+1,none⟩) hbb).trans p1;have p2_:=(hb0.cell (p:=⟨bb,o+n*7+2,none⟩) hbb).trans p2;have p3_:=(hb0.cell (p:=⟨bb,o+n*7+3,none⟩) hbb).trans p3;have p4_:=(hb0.cell (p:=⟨bb,o+n*7+4,none⟩) hbb).trans p4;have p5_:=(hb0.cell (p:=⟨bb,o+n*7+5,none⟩) hbb).trans p5;have p6_:=(hb0.cell (p:=⟨bb,o+n*7+6,none⟩) hbb).trans p6;clear hw0 X0 X1 hb0;go_upto_region 2 with fail
 obtain⟨w1,hw1⟩:=cR (w0.alloc (.cells #[.int .i64 c.fr,.int .i64 c.tt,.int .i64 c.st,.int .i64 c.en,.int .i64 c.ra,.int .i64 c.rg,.int .i64 c.lo] 95))
 rw[hw1];have hb1:Below w0.heap.size w0 w1:=by rw[←hw1];exact de (ap _ _)
 have X3:Hid (w1.heap[w0.heap.size]? =some (.cells #[.int .i64 c.fr,.int .i64 c.tt,.int .i64 c.st,.int .i64 c.en,.int .i64 c.ra,.int .i64 c.rg,.int .i64 c.lo] 95 (0,0))):=aa (by rw[←hw1];exact cW);have z1:w0.heap.size<w1.heap.size:=by rw[←hw1];simp
 have c3:=fun q=>cU X3.out q
 have c1':=fun q=>(hb1.cell (p:=⟨w.heap.size+1,q,none⟩) (by show w.heap.size+1<w0.heap.size;omega)).trans (c1 q)
 have HB1:=aa (HB0.out.trans (hb1.mono HB0.out.size));have HX2:=aa ((hb1.block _ z0).trans X2.out);obtain⟨xB,hxB⟩:=cR w0.heap.size
 rw[hxB]at z0 z1 X3 c3 ⊢;clear hw1 hb1 c0 c1 X2 p0 p0_ p1 p1_ p2 p2_ p3 p3_ p4 p4_ p5 p5_ p6 p6_ hxB;go_wp2_with fail
 refine(Dur_ok c s _ HC.out s1 hs).mono ?_
 rw[HD.out];rintro e w2 ⟨rfl,hb2⟩;have X32:Hid (w2.heap[xB]? =some (.cells #[.int .i64 c.fr,.int .i64 c.tt,.int .i64 c.st,.int .i64 c.en,.int .i64 c.ra,.int .i64 c.rg,.int .i64 c.lo] 95 (0,0))):=aa ((hb2.block _ z1).trans X3.out);have HX22:=aa ((hb2.block _ (by omega)).trans HX2.out);have z2:=hb2.size;have HB2:=aa (dq HB1.out hb2);have c32:=fun q=>cU X32.out q
 have zx2:xB<w2.heap.size:=by omega
 clear hb2 c3 c1';go_wp2_with (refine dv rfl 68 _ _ rfl (w.heap.size+1+1) #[.int .i64 (n:Int),.int .i64 b,.int .i64 (b+Dn),.int .i64 (b+Dn+c.rg)] _ 68 rfl rfl HX22.out rfl (by kernel_rfl) (by simp[Value.oneCell']) ?_;intro wF hW hbW hsW hoW;have bF:Below w.heap.size w wF:=HB2.out.trans (hbW w.heap.size (by omega));have zF:w.heap.size+1+1<wF.heap.size:=(ai.1 hW).1;have cF:=fun o=>cU hW o;clear hW hbW hsW hoW)
 refine bodyPost_ret (v:=.agg #[.int .i64 (n:Int),.int .i64 b,.int .i64 (b+Dn),.int .i64 (b+Dn+c.rg)]) (by simp[results,Tryz.results103,go_sem,aP,cF,zF]) rfl ?_
 exact⟨rfl,bF⟩
end
section
open Go.Shelf
abbrev Plc:=Int×Int×Hp
def plc (cs:List Con):Int→Int→List Hp→List Plc
 | _,_,[]=>[]
 | n,t,h::r=>(n,t,h)::plc cs (conOf cs h.ct).tt h.ar r
theorem ku (cs:List Con) (x:Hp):∀(a:List Hp) (n t:Int),plc cs n t (a++[x])=plc cs n t a++[(nodeE cs n a,timeE t a,x)]
 | [],_,_=>rfl
 | h::a,n,t=>by
  rw[a8];simp only[plc,nodeE,timeE];rw[ku cs x a];rfl
theorem iN (cs:List Con):∀(a:List Hp) (n t:Int),(plc cs n t a).length=a.length
 | [],_,_=>rfl
 | h::a,n,t=>by simp only[plc,aI];rw[iN cs a]
def encP (x:Plc):Array Value:=#[.agg #[.int .i64 x.1,.int .i64 x.2.1],.agg #[.int .i64 x.2.2.ct,.int .i64 x.2.2.bg,.int .i64 x.2.2.en,.int .i64 x.2.2.ar]]
def StP (n:Nat) (A C:World):Prop:=Below n A C∧∀(q:Nat) (o:Obj),A.heap[q]? =some o→(∀cs f,o≠.cells cs 125 f)→C.heap[q]? =some o
theorem StP.of {n:Nat} {A C:World} (h:Below A.heap.size A C) (hn:n≤A.heap.size):StP n A C:=⟨h.mono hn,fun q o hq _=>(h.block q (ai.1 hq).1).trans hq⟩
def KpW (n z1 z2 z3:Nat) (A C:World):Prop:=A.heap.size≤C.heap.size∧∀q,q<n∨q=z1∨q=z2∨q=z3→C.heap[q]? =A.heap[q]?
theorem KpW.refl (n z1 z2 z3:Nat) (A:World):KpW n z1 z2 z3 A A:=⟨aj _,fun _ _=>rfl⟩
theorem KpW.trans {n z1 z2 z3:Nat} {A B C:World} (h:KpW n z1 z2 z3 A B) (k:KpW n z1 z2 z3 B C):KpW n z1 z2 z3 A C:=⟨aK h.1 k.1,fun q hq=>(k.2 q hq).trans (h.2 q hq)⟩
theorem KpW.of {n z1 z2 z3 N:Nat} {A C:World} (h:Below N A C) (hn:n≤N) (h1:z1<N) (h2:z2<N) (h3:z3<N) (hs:A.heap.size≤C.heap.size):KpW n z1 z2 z3 A C:=⟨hs,fun q hq=>h.block q (by omega)⟩
def KpL (n z1 z2 z3:Nat) (A C:World):Prop:=A.heap.size≤C.heap.size∧(∀q,q<n∨q=z1∨q=z2∨q=z3→C.heap[q]? =A.heap[q]?)∧∀(q:Nat) (cs:Array Value) (e:TypeId) (f:Nat×Nat),A.heap[q]? =some (Obj.cells cs e f)→e=125∨e=68→C.heap[q]? =A.heap[q]?
theorem KpL.trans {n z1 z2 z3:Nat} {A B C:World} (h:KpL n z1 z2 z3 A B) (k:KpL n z1 z2 z3 B C):KpL n z1 z2 z3 A C:=⟨aK h.1 k.1,fun q hq=>(k.2.1 q hq).trans (h.2.1 q hq),fun q cs e f hq he=>(k.2.2 q cs e f ((h.2.2 q cs e f hq he).trans hq) he).trans (h.2.2 q cs e f hq he)⟩
theorem KpL.of {n z1 z2 z3:Nat} {A C:World} (h:Below A.heap.size A C) (hn:n≤A.heap.size) (h1:z1<A.heap.size) (h2:z2<A.heap.size) (h3:z3<A.heap.size):KpL n z1 z2 z3 A C:=⟨h.size,fun q hq=>h.block q (by omega),fun q cs e f hq _=>h.block q (ai.1 hq).1⟩
def okP (cs:List Con) (q:Rq) (hs:List Hp) (pre:List Plc) (x:Plc) (_ _:World):Prop:=∃k h,hs[k]? =some h∧pre=plc cs q.src q.rd (hs.take k)∧x=(nodeE cs q.src (hs.take k),timeE q.rd (hs.take k),h)
theorem lG (F:Fence) (n:Nat) (h:F.fn 54) (hro:F.round=none) (uq uc:Value) (ua:Option Addr) (un ucp:Nat) (q:Rq) (w:World):
  CallsIn F n Tryz.prog 54 #[.agg #[uq,uc],.agg #[.int .i64 q.src,.int .i64 q.dst,.int .i64 q.sz,.int .i64 q.rd,.int .i64 q.D,.int .i64 q.pr,.bool q.cu],.slice ua un ucp] w fun e W'=>e= .returned (.func (.func 101) #[] #[.pointer (some ⟨w.heap.size+1,0,none⟩),.pointer (some ⟨w.heap.size+1+1,0,none⟩),.pointer (some ⟨w.heap.size,0,none⟩)])∧W'=((w.alloc (.cells #[uq,uc] 25)).alloc (.cells #[.int .i64 q.src,.int .i64 q.dst,.int .i64 q.sz,.int .i64 q.rd,.int .i64 q.D,.int .i64 q.pr,.bool q.cu] 38)).alloc (.cells #[.slice ua un ucp] 39):=by
 refine callsIn_of_wp Tryz.func54 rfl h ?_ hro
 simp only[Tryz.ntmps54,bJ,aI,bE,Nat.reduceAdd,Nat.reduceSub,bS,bT,cH,bW,br,a8];gi_wp2
 refine bodyPost_ret (results_tmp rfl _ _ _) rfl ?_
 exact⟨rfl,rfl⟩
theorem jE (qs:List Int) (cs:List Con) (q:Rq) (hs:List Hp) (uq uc u:Value) (n0 n1 z1 z2 z3:Nat) (w:World) (hn:n0≤n1) (hn1:n1≤w.heap.size) (hz1:z1<n1) (hz2:z2<n1) (hz3:z3<n1)
  (b1:w.heap[z1]? =some (.cells #[.int .i64 q.src,.int .i64 q.dst,.int .i64 q.sz,.int .i64 q.rd,.int .i64 q.D,.int .i64 q.pr,.bool q.cu] 38 (0,0))) (b2:w.heap[z2]? =some (.cells #[u] 39 (0,0))) (b3:w.heap[z3]? =some (.cells #[uq,uc] 25 (0,0)))
  (hr:RRow hpC 4 w n0 u hs) (hc:RRow conC 7 w n0 uc cs) (hb:∀h∈hs,0≤h.ct∧h.ct<cs.length) (hq:∃a k c,uq= .slice a k c):
  IterS Fence.wide 11 Tryz.prog 101 #[.pointer (some ⟨z1,0,none⟩),.pointer (some ⟨z2,0,none⟩),.pointer (some ⟨z3,0,none⟩)] encP (okP cs q hs) (fun _=>true) (StP n1) (KpL n0 z1 z2 z3) (fun xs=>xs=plc cs q.src q.rd hs) False w:=by
 intro l J Jx W hW hJ hJx hYt hYf h0;have zw:=hW.size;obtain⟨aq,kq,cq,rfl⟩:=hq;obtain⟨ca,cc,rfl,e1,e2,-,e4⟩:=hc;obtain⟨a,c,rfl,h1,h2,-,h4⟩:=hr;have HC4:Hid (∀V:World,(∀q,q<n0→V.heap[q]? =w.heap[q]?)→0<cs.length→∃b o,ca=some ⟨b,o,none⟩∧b<n0∧∀(i:Nat) (x:Con),cs[i]? =some x→∀(j:Nat) (u:Value),(conC x)[j]? =some u→V.cell? ⟨b,o+i*7+j,none⟩=some u):=aa (fun V hV hp=>by
  obtain⟨b,o,e,hbn,hcc⟩:=e4 hp;exact⟨b,o,e,hbn,fun i x hx j u hu=>(aU (hV b hbn)).trans (hcc i x hx j u hu)⟩)
 have H4:Hid (∀V:World,(∀q,q<n0→V.heap[q]? =w.heap[q]?)→0<hs.length→∃b o,a=some ⟨b,o,none⟩∧b<n0∧∀(i:Nat) (x:Hp),hs[i]? =some x→∀(j:Nat) (u:Value),(hpC x)[j]? =some u→V.cell? ⟨b,o+i*4+j,none⟩=some u):=aa (fun V hV hp=>by
  obtain⟨b,o,e,hbn,hcc⟩:=h4 hp;exact⟨b,o,e,hbn,fun i x hx j u hu=>(aU (hV b hbn)).trans (hcc i x hx j u hu)⟩)
 have c1:W.heap[z1]? =some (.cells #[.int .i64 q.src,.int .i64 q.dst,.int .i64 q.sz,.int .i64 q.rd,.int .i64 q.D,.int .i64 q.pr,.bool q.cu] 38 (0,0)):=(hW.block _ (by omega)).trans b1;have c2:W.heap[z2]? =some (.cells #[.slice a hs.length c] 39 (0,0)):=(hW.block _ (by omega)).trans b2;have c3:W.heap[z3]? =some (.cells #[.slice aq kq cq,.slice ca cs.length cc] 25 (0,0)):=(hW.block _ (by omega)).trans b3;have HC:=aa (cS c1 (cS c2 c3));have HLW:Hid (∀q,q<n0→W.heap[q]? =w.heap[q]?):=aa (fun q hq=>hW.block q (by omega));have k1:=fun q=>cU c1 q
 have y1:z1<W.heap.size:=by omega
 have y2:z2<W.heap.size:=by omega
 have y3:z3<W.heap.size:=by omega
 have HY:=aa hYt;have HJ:=aa hJ;have HB:=aa hb;have HH0:=aa h0;unfold maxLen at e2 h2;have hnW:n1≤W.heap.size:=by omega
 clear c1 c2 c3 b1 b2 b3 hYt hYf hJ hJx hb e4 h4 hW h0;refine callsIn_of_wp Tryz.func101 rfl trivial ?_ rfl
 simp only[Tryz.ntmps101,bJ,aI,bE,Nat.reduceAdd,Nat.reduceSub,bS,bT,cH,bW,br,a8];refine wpIn_wide.2 ?_
 go_upto_region 1 with fail
 obtain⟨W1,hW1⟩:=cR (W.alloc (.cells #[.int .i64 q.src,.int .i64 q.rd] 125))
 rw[hW1];have B1:Below W.heap.size W W1:=by rw[←hW1];exact de (ap _ _)
 have X1:W1.heap[W.heap.size]? =some (.cells #[.int .i64 q.src,.int .i64 q.rd] 125 (0,0)):=by rw[←hW1];exact cW
 obtain⟨pB,hpB⟩:=cR W.heap.size
 have HPB:Hid (n1≤pB∧n0≤pB∧z1<pB∧z2<pB∧z3<pB):=aa (by omega);have HJ1:Hid (J [] W1):=aa (HJ.out _ _ _ HH0.out (StP.of B1 (by omega)));have HK1:Hid (∀q,q<n0→W1.heap[q]? =w.heap[q]?):=aa (fun q hq=>(B1.block q (by omega)).trans (HLW.out q hq));have HC1:Hid (W1.heap[z2]? =some (.cells #[.slice a hs.length c] 39 (0,0))∧W1.heap[z3]? =some (.cells #[.slice aq kq cq,.slice ca cs.length cc] 25 (0,0))):=aa ⟨(B1.block _ y2).trans HC.out.2.1,(B1.block _ y3).trans HC.out.2.2⟩;have c2:=fun q=>cU HC1.out.1 q
 have y2':z2<W1.heap.size:=by have:=B1.size;omega
 have hp1:pB<W1.heap.size:=by rw[←hpB];exact(ai.1 X1).1
 rw[hpB]at X1 ⊢;have HX1:=aa X1;clear k1 hW1 B1 X1 y1 y2 y3 hpB;go_wp2_with fail
 go_loopw [15] (fun kv wr=>∃(k:Nat),k≤hs.length∧kv= .int .i64 (k:Int)∧Hid (J (plc cs q.src q.rd (hs.take k)) wr)∧Hid (KpW n0 z1 z2 z3 W1 wr)∧Hid (wr.heap[pB]? =some (.cells #[.int .i64 (nodeE cs q.src (hs.take k)),.int .i64 (timeE q.rd (hs.take k))] 125 (0,0)))) (fun kv _=>hs.length-(intOf kv).toNat)
 case atStart=>exact⟨0,aE _,rfl,HJ1,aa (KpW.refl _ _ _ _ _),HX1⟩
 case round=>
  clear c2;obtain⟨k,hk,rfl,HJr,HKr,HPr⟩:=hrel;by_cases hlt:k<hs.length
  ·obtain⟨h,hx⟩:∃h,hs[k]? =some h:=⟨_,am hlt⟩
   have hmem:=az hx;have hbk:=HB.out h hmem;obtain⟨ob,oo,rfl,hob,hcell⟩:=H4.out wr (fun q hq=>(HKr.out.2 q (.inl hq)).trans (HK1.out q hq)) (by omega);have q0:wr.cell? ⟨ob,oo+k*4,none⟩=some (.int .i64 h.ct):=hcell k h hx 0 _ rfl;have q1:wr.cell? ⟨ob,oo+k*4+1,none⟩=some (.int .i64 h.bg):=hcell k h hx 1 _ rfl;have q2:wr.cell? ⟨ob,oo+k*4+2,none⟩=some (.int .i64 h.en):=hcell k h hx 2 _ rfl;have q3:wr.cell? ⟨ob,oo+k*4+3,none⟩=some (.int .i64 h.ar):=hcell k h hx 3 _ rfl;have i0:(0:Int)≤(k:Int):=by omega
   have i1:(k:Int)<(hs.length:Int):=by omega
   have HHX:=aa hx;have HTK:Hid (hs.take (k+1)=hs.take k++[h]):=aa (el hx);have zr:W1.heap.size≤wr.heap.size:=HKr.out.1;clear hx hcell hmem;go_upto_region 4 with fail
   obtain⟨w2,hw2⟩:=cR (wr.alloc (.cells #[.int .i64 h.ct,.int .i64 h.bg,.int .i64 h.en,.int .i64 h.ar] 68))
   rw[hw2];have b2:Below wr.heap.size wr w2:=by rw[←hw2];exact de (ap _ _)
   have X2:w2.heap[wr.heap.size]? =some (.cells #[.int .i64 h.ct,.int .i64 h.bg,.int .i64 h.en,.int .i64 h.ar] 68 (0,0)):=by rw[←hw2];exact cW
   obtain⟨hB,hhB⟩:=cR wr.heap.size
   have HP2:=aa ((b2.block pB (by omega)).trans HPr.out);have HK2:Hid (KpW n0 z1 z2 z3 W1 w2):=aa (HKr.out.trans (KpW.of b2 (by have:=HPB.out;omega) (by have:=HPB.out;omega) (by have:=HPB.out;omega) (by have:=HPB.out;omega) b2.size));have HJ2:Hid (J (plc cs q.src q.rd (hs.take k)) w2):=aa (HJ.out _ _ _ HJr.out (StP.of b2 (by have:=HPB.out;omega)));obtain⟨fn,tmps,assign,body,hy,hR⟩:=HY.out _ (nodeE cs q.src (hs.take k),timeE q.rd (hs.take k),h) wr w2 HJr.out b2 HJ2.out ⟨k,h,HHX.out,rfl,rfl⟩ (by trivial);have HRR:=aa hR;have zr2:wr.heap.size<w2.heap.size:=(ai.1 X2).1;have z2c:w2.heap.size=w2.heap.size:=rfl;rw[hhB]at X2 zr2 ⊢;have HX2:=aa X2;have zp2:pB<w2.heap.size:=by have:=HK2.out.1;omega
   have e0:=fun q=>cU HP2.out q
   have e1:=fun q=>cU HX2.out q
   clear hw2 b2 X2 q0 q1 q2 q3 hR z2c;simp only[encP]at hy;refine(wpIn_wide (n:=11)).1 ?_
   gi_wp2
   refine HRR.out.mono ?_
   rintro e W3 ⟨rfl,hJ3,hk3⟩;have HJ3:Hid (J (plc cs q.src q.rd (hs.take (k+1))) W3):=aa (by rw[HTK.out,ku];exact hJ3);have HK3:Hid (KpW n0 z1 z2 z3 W1 W3):=aa (HK2.out.trans ⟨hk3.1,hk3.2.1⟩);have HP3:=aa ((hk3.2.2 pB _ _ _ HP2.out (.inl rfl)).trans HP2.out);have HX3:=aa ((hk3.2.2 hB _ _ _ HX2.out (.inr rfl)).trans HX2.out);have HC3:Hid (W3.heap[z2]? =some (.cells #[.slice (some ⟨ob,oo,none⟩) hs.length c] 39 (0,0))∧W3.heap[z3]? =some (.cells #[.slice aq kq cq,.slice ca cs.length cc] 25 (0,0))):=aa ⟨(HK3.out.2 _ (.inr (.inr (.inl rfl)))).trans HC1.out.1,(HK3.out.2 _ (.inr (.inr (.inr rfl)))).trans HC1.out.2⟩;have zz3:=hk3.1;have s1:hB<W3.heap.size:=by omega
   have s2:z3<W3.heap.size:=by have:=HPB.out;omega
   have s3:pB<W3.heap.size:=by omega
   have f1:=fun q=>cU HX3.out q
   have f3:=fun q=>cU HC3.out.2 q
   have d1:decide (h.ct<0)=false:=decide_eq_false (by omega);have d2:decide (h.ct≥(cs.length:Int))=false:=decide_eq_false (by omega);clear hJ3 hk3 hy e0 e1;obtain⟨i,hi⟩:=bh hbk.1;have hil:i<cs.length:=by omega
   obtain⟨cb,co,rfl,hcb,hcc⟩:=HC4.out W3 (fun q hq=>(HK3.out.2 q (.inl hq)).trans (HK1.out q hq)) (by omega);have hci:cs[i]? =some (conOf cs h.ct):=by
    obtain⟨cx,h5,h6⟩:=fK hbk.1 hbk.2;rw[h6,←h5,hi];rfl
   have g1:W3.cell? ⟨cb,co+i*7+1,none⟩=some (.int .i64 (conOf cs h.ct).tt):=hcc i _ hci 1 _ rfl;have s4:cb<W3.heap.size:=by have:=HPB.out;omega
   have j0:(0:Int)≤h.ct:=hbk.1;have j1:h.ct<(cs.length:Int):=hbk.2;have HPL:=aa hcc;obtain⟨tt,htt⟩:=cR ((conOf cs h.ct).tt)
   rw[htt]at g1;obtain⟨ct,bg,en,ar⟩:=h;obtain rfl:ct=(i:Int):=hi;have HNE:Hid (nodeE cs q.src (hs.take (k+1))=tt∧timeE q.rd (hs.take (k+1))=ar):=aa (by
    rw[HTK.out,fl,f7];exact⟨htt,rfl⟩)
   clear hci htt hcc;gi_wp2
   go_upto_region 5 with fail
   refine dd (fun V=>Below W3.heap.size W3 V) [0,1,0,1,0,0,1,0,1,0,3] [0,1,2,3,4,5,6,7,8,9,10] (by kernel_rfl) (by kernel_rfl) ?_ ?_
   case refine_1=>exact bdrew (ap _ _)
   (iterate 10 (first | (refine cX rfl (by decide) (by rfl) (fun w1 hS=>by(try(obtain⟨_,_⟩:=bcell (hS rfl)));go_simp;rfl) ?_;simp only[Act.put,ae,af,ag]) | (refine dm rfl (by decide) (by rfl) ?_;simp only[Act.put,ae,af,ag])))
   have HPD:Hid (W3.drew.heap[pB]? =some (.cells #[.int .i64 (nodeE cs q.src (hs.take k)),.int .i64 (timeE q.rd (hs.take k))] 125 (0,0))):=aa HP3.out;clear f1 f3 g1 s4;refine di rfl rfl (by rfl) (fun K hK=>?_)
   refine eh 125 _ _ rfl pB #[.int .i64 tt,.int .i64 ar] _ 125 rfl rfl HPD.out rfl (by kernel_rfl) (by simp[Value.oneCell']) ?_
   intro W4 hW hbW hsW hoW;have HJ4:Hid (J (plc cs q.src q.rd (hs.take (k+1))) W4):=aa (HJ.out _ _ _ HJ3.out (by
    have hb4:Below n1 W3 W4:=(bdrew (ap _ _)).trans (hbW n1 HPB.out.1);refine⟨hb4,fun q_ o hq ho=>?_⟩
    by_cases e:q_=pB
    ·subst e
     rw[HP3.out]at hq
     cases hq
     exact absurd rfl (ho _ _)
    ·exact(hoW q_ e).trans hq))
   have HK4:Hid (KpW n0 z1 z2 z3 W1 W4):=aa (HK3.out.trans ⟨by rw[hsW];exact aj _,fun q_ hq=>hoW q_ (by have:=HPB.out;omega)⟩);have HP4:Hid (W4.heap[pB]? =some (.cells #[.int .i64 (nodeE cs q.src (hs.take (k+1))),.int .i64 (timeE q.rd (hs.take (k+1)))] 125 (0,0))):=aa (by rw[HNE.out.1,HNE.out.2];exact hW);clear hW hbW hsW hoW;refine hK _ _ ?_
   clear hK K
   (try simp only[Act.put,ae,af,ag])
   refine du ?_
   go_wp2
   go_roundw
   case rel=>exact⟨k+1,by omega,by go_num,HJ4,HK4,HP4⟩
   case measure=>simp[intOf];omega
  ·obtain rfl:k=hs.length:=by omega
   have HT:Hid (J (plc cs q.src q.rd hs) wr):=aa (by have:=HJr.out;rwa [aL]at this);clear HJr;go_wp2
   go_end0
   exact⟨⟨_,rfl⟩,.inl ⟨_,rfl,HT.out⟩⟩
end
section
theorem l9 {cs:List Con} {q:Rq} {hs:List Hp} {n t:Int} (hw:WayOK cs q n t hs) {k:Nat} {h:Hp} (hk:hs[k]? =some h):HopOK cs q (nodeE cs n (hs.take k)) (timeE t (hs.take k)) h:=by
 have e:hs=hs.take k++h::hs.drop (k+1):=by
  have hl:=(aw.1 hk).1;have h2:hs.drop k=h::hs.drop (k+1):=by
   rw[bX hl];congr 1
   exact(aw.1 hk).2
  rw[←h2,bP]
 rw[e,jM]at hw;have:=hw.2.1;exact this
theorem chop_any (qs:List Int) (cs:List Con) (q:Rq) (n t:Int) (h:Hp) (uq uc:Value) (w:World) (hc:RRow conC 7 w w.heap.size uc cs) (hp:PlanOK qs cs) (hq:ReqO qs.length q) (ho:HopOK cs q n t h):
  Calls Tryz.prog 55 #[.agg #[uq,uc],.agg #[.int .i64 q.src,.int .i64 q.dst,.int .i64 q.sz,.int .i64 q.rd,.int .i64 q.D,.int .i64 q.pr,.bool q.cu],.agg #[.int .i64 n,.int .i64 t],.agg #[.int .i64 h.ct,.int .i64 h.bg,.int .i64 h.en,.int .i64 h.ar]] w fun e w'=>e= .returned (.int .i64 0)∧Below w.heap.size w w':=by
 have hf:=ho.facts hp hq;obtain⟨_,_,⟨s1,s2,s3⟩,_⟩:=hq;obtain⟨src,dst,sz,rd,D,pr,cu⟩:=q;obtain⟨s,rfl⟩:=bh (show(0:Int)≤sz by simp at s1;omega);obtain⟨c0,c1,fr,nd,tm,st,fit,en,ar⟩:=ho;obtain⟨c,hcc,he⟩:=fK c0 c1;obtain⟨ct,bg,en',ar'⟩:=h;simp only at c0 c1 fr nd tm st fit en ar hf hcc he s1 s2 s3;rw[he]at fr st fit en ar hf;rw[bN]at fit en;obtain⟨i,rfl⟩:=bh c0;rw[bN]at hcc;have hck:=(hp.2.2 _ _ hcc).1;subst en' ar' fr;have hil:=(aw.1 hcc).1;have HR:=aa hc;obtain⟨ca,cap,rfl,e1,e2,e3,e4⟩:=hc;obtain⟨bb,o,rfl,hbb,hcell⟩:=e4 (by omega);have p0:w.cell? ⟨bb,o+i*7,none⟩=some (.int .i64 c.fr):=hcell i c hcc 0 _ rfl;have p1:w.cell? ⟨bb,o+i*7+1,none⟩=some (.int .i64 c.tt):=hcell i c hcc 1 _ rfl;have p2:w.cell? ⟨bb,o+i*7+2,none⟩=some (.int .i64 c.st):=hcell i c hcc 2 _ rfl;have p3:w.cell? ⟨bb,o+i*7+3,none⟩=some (.int .i64 c.en):=hcell i c hcc 3 _ rfl;have p4:w.cell? ⟨bb,o+i*7+4,none⟩=some (.int .i64 c.ra):=hcell i c hcc 4 _ rfl;have p5:w.cell? ⟨bb,o+i*7+5,none⟩=some (.int .i64 c.rg):=hcell i c hcc 5 _ rfl;have p6:w.cell? ⟨bb,o+i*7+6,none⟩=some (.int .i64 c.lo):=hcell i c hcc 6 _ rfl;have i0:(0:Int)≤(i:Int):=by omega
 have hlen:cs.length≤9223372036854775807:=by unfold maxLen at e2;omega
 have HF:=aa (cS hck (cS st (cS fit hcc)));have q1:decide ((i:Int)<0)=false:=decide_eq_false (by omega);have q2:decide ((i:Int)≥(cs.length:Int))=false:=decide_eq_false (by omega);have q3:decide (cs.length≤i)=false:=decide_eq_false (by omega);have q4:(c.fr==dst)=false:=by simpa using nd
 have q5:decide (bg<t)=false:=decide_eq_false (by omega);have b0:0≤bg:=hf.2.2.2.2.2.2;have b1:bg≤1099511627776:=by omega
 clear hcell hck st fit hcc he e4 hf nd;go_enter Tryz.func55,Tryz.ntmps55
 go_upto_region 1 with fail
 obtain⟨uC,huC⟩:=cR (Value.slice (some ⟨bb,o,none⟩) cs.length cap)
 obtain⟨w1,hw1⟩:=cR ((((w.alloc (.cells #[uq,.slice (some ⟨bb,o,none⟩) cs.length cap] 25)).alloc (.cells #[.int .i64 src,.int .i64 dst,.int .i64 (s:Int),.int .i64 rd,.int .i64 D,.int .i64 pr,.bool cu] 38)).alloc (.cells #[.int .i64 c.fr,.int .i64 t] 125)).alloc (.cells #[.int .i64 (i:Int),.int .i64 bg,.int .i64 (bg+durS c s),.int .i64 (bg+durS c s+c.rg)] 68))
 rw[hw1];obtain⟨z0,hz0⟩:=cR w.heap.size
 have B1:Below z0 w w1:=by rw[←hw1,←hz0];exact cZ
 have X0:w1.heap[z0]? =some (.cells #[uq,.slice (some ⟨bb,o,none⟩) cs.length cap] 25 (0,0)):=by rw[←hw1,←hz0];exact(by repeat (first | exact cY (by first | rfl | (simp;done)) | refine(ak _ _ _ (by first | (simp;done) | (simp;omega))).trans ?_))
 have X1:w1.heap[z0+1]? =some (.cells #[.int .i64 src,.int .i64 dst,.int .i64 (s:Int),.int .i64 rd,.int .i64 D,.int .i64 pr,.bool cu] 38 (0,0)):=by rw[←hw1,←hz0];exact(by repeat (first | exact cY (by first | rfl | (simp;done)) | refine(ak _ _ _ (by first | (simp;done) | (simp;omega))).trans ?_))
 have X2:w1.heap[z0+1+1]? =some (.cells #[.int .i64 c.fr,.int .i64 t] 125 (0,0)):=by rw[←hw1,←hz0];exact(by repeat (first | exact cY (by first | rfl | (simp;done)) | refine(ak _ _ _ (by first | (simp;done) | (simp;omega))).trans ?_))
 have X3:w1.heap[z0+1+1+1]? =some (.cells #[.int .i64 (i:Int),.int .i64 bg,.int .i64 (bg+durS c s),.int .i64 (bg+durS c s+c.rg)] 68 (0,0)):=by rw[←hw1,←hz0];exact(by repeat (first | exact cY (by first | rfl | (simp;done)) | refine(ak _ _ _ (by first | (simp;done) | (simp;omega))).trans ?_))
 have hs1:z0+1+1+1<w1.heap.size:=(ai.1 X3).1;rw[hz0]at hbb HR ⊢;have k0:=fun q=>cU X0 q
 have k1:=fun q=>cU X1 q
 have k2:=fun q=>cU X2 q
 have k3:=fun q=>cU X3 q
 have y0:z0<w1.heap.size:=by omega
 have y1:z0+1<w1.heap.size:=by omega
 have y2:z0+1+1<w1.heap.size:=by omega
 have y3:bb<w1.heap.size:=by omega
 rw[←B1.cell (p:=⟨bb,o+i*7,none⟩) hbb]at p0;rw[←B1.cell (p:=⟨bb,o+i*7+1,none⟩) hbb]at p1;rw[←B1.cell (p:=⟨bb,o+i*7+2,none⟩) hbb]at p2;rw[←B1.cell (p:=⟨bb,o+i*7+3,none⟩) hbb]at p3;rw[←B1.cell (p:=⟨bb,o+i*7+4,none⟩) hbb]at p4;rw[←B1.cell (p:=⟨bb,o+i*7+5,none⟩) hbb]at p5;rw[←B1.cell (p:=⟨bb,o+i*7+6,none⟩) hbb]at p6;have HX:=aa (cS X0 (cS X1 (cS X3 B1)));have HZ:=aa hz0;clear hw1 X0 X1 X2 X3 B1 hz0 huC;go_upto_region 8 with fail
 go_wp2_with fail
 refine(Fits_ok c bg s _ HF.out.1 (by omega) (by omega) HF.out.2.1 b1).mono ?_
 rw[decide_eq_true HF.out.2.2.1];rintro e w3 ⟨rfl,hb3⟩;have B3:Below w1.heap.size w1 w3:=dq (de (ap _ _)) hb3;obtain⟨X0,X1,X3,B1⟩:=HX.out;have k0:=fun q=>cU ((B3.block _ y0).trans X0) q
 have k1:=fun q=>cU ((B3.block _ y1).trans X1) q
 have k3:=fun q=>cU ((B3.block _ hs1).trans X3) q
 have zz:=B3.size;have y0':z0<w3.heap.size:=by omega
 have y1':z0+1<w3.heap.size:=by omega
 have y2':z0+1+1+1<w3.heap.size:=by omega
 have HB:Hid (Below z0 w w3):=aa (B1.trans (B3.mono (by omega)));have HRW:Hid (RRow conC 7 w3.drew w3.drew.heap.size (.slice (some ⟨bb,o,none⟩) cs.length cap) cs):=aa (HR.out.below (bdrew HB.out) (aj _) (by simp;omega));clear hb3 B3 X0 X1 X3 B1 k2 p0 p1 p2 p3 p4 p5 p6;go_upto_region 10 with fail
 refine dd (fun V=>Below (w3).heap.size (w3) V) [1,1,1,0,1,0,1,2,0,0] [0,1,2,3,4,5,6,7,8,9] (by kernel_rfl) (by kernel_rfl) ?_ ?_
 case refine_1=>exact cZ
 (iterate 7 (first | (refine cX rfl (by decide) (by rfl) (fun w1 hS=>by(try(obtain⟨_,_⟩:=bcell (hS rfl)));go_simp;rfl) ?_;simp only[Act.put,ae,af,ag]) | (refine dm rfl (by decide) (by rfl) ?_;simp only[Act.put,ae,af,ag])))
 (refine dA rfl rfl (by rfl) (fun K hK=>?_);go_simp)
 refine(rhop_ok cs i c bg s uq _ src dst rd D pr cu _ HRW.out HF.out.2.2.2 HF.out.1 (by omega) (by omega) b0 b1).mono ?_
 skip
 rintro e wc62 ⟨rfl,hbc62⟩
 (refine hK _ _ (by exact cZ) ?_;clear hK K;(try simp only[Act.put,ae,af,ag]))
 (iterate 2 (first | (refine cX rfl (by decide) (by rfl) (fun w1 hS=>by(try(obtain⟨_,_⟩:=bcell (hS rfl)));go_simp;rfl) ?_;simp only[Act.put,ae,af,ag]) | (refine dm rfl (by decide) (by rfl) ?_;simp only[Act.put,ae,af,ag])))
 refine du ?_
 have HW:Hid (Below z0 w wc62):=aa (HB.out.trans ((dq (bdrew (ap _ _)) hbc62).mono (by omega)));clear hbc62 k0 k1 k3;go_wp2
 go_ret
 rw[HZ.out];exact⟨rfl,HW.out⟩
end
end Go.Proofs.YtfnciigbbolckaaGreat
