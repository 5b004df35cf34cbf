/- Part 23 of the proof about mailboattop.TopOthers. No condition. -/
import Derived.Test.YtfnciigbbolckaaGreatQ00
import Derived.Test.YtfnciigbbolckaaGreatQ06
import Derived.Test.YtfnciigbbolckaaGreatQ08
import Derived.Test.YtfnciigbbolckaaGreatQ09
import Derived.Test.YtfnciigbbolckaaGreatQ13
import Derived.Test.YtfnciigbbolckaaGreatQ21
import Derived.Test.YtfnciigbbolckaaGreatQ22
set_option linter.unusedVariables false
set_option linter.unusedSimpArgs false
set_option maxRecDepth 100000
set_option maxHeartbeats 64000000
namespace Go.Proofs.YtfnciigbbolckaaGreat
attribute [local go_sem] Oper.semAt_some
attribute [local go_sem] pw gu B_app pv B_get B_toList
section
open Go Go.RowKit Iv
open Go.Shelf
theorem jS {w:World} (o1 o2:Obj):Below w.heap.size w ((w.alloc o1).alloc o2):=de (de (ap _ _))
theorem o5 {cs:List Con} {q:Rq} {hs:List Hp} {n t:Int} (hw:WayOK cs q n t hs):∀h∈hs,0≤h.ct∧h.ct<cs.length:=fun h hh=>by
 obtain⟨k,hk,rfl⟩:=List.getElem_of_mem hh;have:=l9 hw (am hk);exact⟨this.c0,this.c1⟩
def rchkV (cs:List Con) (q:Rq) (hs:List Hp):Int:=if hs=[]then 20 else if nodeE cs q.src hs≠q.dst then 18 else if timeE q.rd hs≤q.D then 0 else 16
theorem gI (qs:List Int) (cs:List Con) (q:Rq) (hs:List Hp) (uq uc u:Value) (w:World) (hq:RRow intC 1 w w.heap.size uq qs) (hc:RRow conC 7 w w.heap.size uc cs) (hr:RRow hpC 4 w w.heap.size u hs) (hp:PlanOK qs cs) (ho:ReqO qs.length q) (hw:WayOK cs q q.src q.rd hs) (hl:hs.length≤1000):
  Calls Tryz.prog 20 #[.agg #[uq,uc],.agg #[.int .i64 q.src,.int .i64 q.dst,.int .i64 q.sz,.int .i64 q.rd,.int .i64 q.D,.int .i64 q.pr,.bool q.cu],u] w fun e w'=>e= .returned (.int .i64 (rchkV cs q hs))∧Below w.heap.size w w':=by
 have HQ:=aa hq;have HC:=aa hc;have HR:=aa hr;have HP:=aa hp;have HO:=aa ho;have HW:=aa hw;obtain⟨qa,qc,rfl,-⟩:=id hq;obtain⟨ua,ucp,rfl,e1,e2,-⟩:=id hr;unfold maxLen at e2;have hlen:hs.length≤9223372036854775807:=by omega
 clear hq hc hr hp ho hw;refine(callsIn_wide (n:=12)).1 ?_
 refine callsIn_of_wp_marks Tryz.func20 rfl trivial ?_ rfl
 simp only[Tryz.ntmps20,bJ,aI,bE,Nat.reduceAdd,Nat.reduceSub,bS,bT,cH,bW,br,a8];gi_wp2_with fail
 obtain⟨Z,hZ⟩:=cR w.heap.size
 obtain⟨w1,hw1⟩:=cR (((w.alloc (.cells #[.slice qa qs.length qc,uc] 25)).alloc (.cells #[.int .i64 q.src,.int .i64 q.dst,.int .i64 q.sz,.int .i64 q.rd,.int .i64 q.D,.int .i64 q.pr,.bool q.cu] 38)).alloc (.cells #[.int .i64 0] 45))
 rw[hw1];have B1:Below Z w w1:=by rw[←hw1,←hZ];exact cZ
 have X0:w1.heap[Z]? =some (.cells #[.slice qa qs.length qc,uc] 25 (0,0)):=by rw[←hw1,←hZ];exact(by repeat (first | exact cY (by first | rfl | (simp;done)) | refine(ak _ _ _ (by first | (simp;done) | (simp;omega))).trans ?_))
 have X1:w1.heap[Z+1]? =some (.cells #[.int .i64 q.src,.int .i64 q.dst,.int .i64 q.sz,.int .i64 q.rd,.int .i64 q.D,.int .i64 q.pr,.bool q.cu] 38 (0,0)):=by rw[←hw1,←hZ];exact(by repeat (first | exact cY (by first | rfl | (simp;done)) | refine(ak _ _ _ (by first | (simp;done) | (simp;omega))).trans ?_))
 have X2:Boxed w1 (Z+1+1) 45 (.int .i64 0):=by rw[←hw1,←hZ];exact(by repeat (first | exact cY (by first | rfl | (simp;done)) | refine(ak _ _ _ (by first | (simp;done) | (simp;omega))).trans ?_))
 have HZ:=aa hZ;have HB1:=aa B1;have HX1:=aa (cS X0 (cS X1 X2));have zs1:Z+1+1<w1.heap.size:=X2.lt;rw[hZ]at HQ HC HR ⊢;clear hw1 B1 X0 X1 X2 hZ;refine⟨trivial,callsIn_wide.2 ((fC qs cs _ _ q.src q.dst q.sz q.rd q.D q.pr q.cu w1 (HQ.out.below HB1.out (aj _) (by omega)) (HC.out.below HB1.out (aj _) (by omega))).mono ?_)⟩
 unfold CrPost;rintro e w2 ⟨⟨r,rfl,-,hr0⟩,hb2⟩;obtain rfl:r=0:=hr0 HP.out HO.out;obtain⟨X0,X1,X2⟩:=HX1.out;have HX2:=aa (cS ((hb2.block _ (by omega)).trans X0) (cS ((hb2.block _ (by omega)).trans X1) ((hb2.block _ zs1).trans X2)));have HB2:Hid (Below Z w w2):=aa (HB1.out.trans (hb2.mono (by omega)));have zz:=hb2.size;clear hr0 hb2 X0 X1 X2;have y0:Z<w2.heap.size:=by omega
 have y1:Z+1<w2.heap.size:=by omega
 have y2:Z+1+1<w2.heap.size:=by omega
 have k0:=fun q=>cU HX2.out.1 q
 have k1:=fun q=>cU HX2.out.2.1 q
 have XB:Boxed w2 (Z+1+1) 45 (.int .i64 0):=HX2.out.2.2;have kb:=XB.cell;have kf:=XB.frozen;clear XB;by_cases he:hs=[]
 ·have HV:Hid (rchkV cs q hs=20):=aa (if_pos he)
  subst he;gi_wp2
  refine⟨.int .i64 20,by simp[results,Tryz.results20,go_sem,aP,kb,y2],?_⟩
  rw[HV.out,HZ.out];exact⟨rfl,bset HB2.out (by show Z≤Z+1+1;omega)⟩
 have hpos:0<hs.length:=List.length_pos_iff.2 he;have d1:((hs.length:Int)==0)=false:=by simp;omega
 have d2:decide ((hs.length:Int)>1000)=false:=decide_eq_false (by omega);gi_wp2_with fail
 refine⟨trivial,(lG Fence.wide _ trivial rfl _ _ _ _ _ _ _).mono ?_⟩
 rintro e w3 ⟨rfl,rfl⟩;gi_wp2
 obtain⟨z3,hz3⟩:=cR w2.heap.size
 obtain⟨W0,hW0⟩:=cR (((w2.alloc (.cells #[.slice qa qs.length qc,uc] 25)).alloc (.cells #[.int .i64 q.src,.int .i64 q.dst,.int .i64 q.sz,.int .i64 q.rd,.int .i64 q.D,.int .i64 q.pr,.bool q.cu] 38)).alloc (.cells #[.slice ua hs.length ucp] 39))
 rw[hW0];have B0:Below z3 w2 W0:=by rw[←hW0,←hz3];exact cZ
 have P0:W0.heap[z3]? =some (.cells #[.slice qa qs.length qc,uc] 25 (0,0)):=by rw[←hW0,←hz3];exact(by repeat (first | exact cY (by first | rfl | (simp;done)) | refine(ak _ _ _ (by first | (simp;done) | (simp;omega))).trans ?_))
 have P1:W0.heap[z3+1]? =some (.cells #[.int .i64 q.src,.int .i64 q.dst,.int .i64 q.sz,.int .i64 q.rd,.int .i64 q.D,.int .i64 q.pr,.bool q.cu] 38 (0,0)):=by rw[←hW0,←hz3];exact(by repeat (first | exact cY (by first | rfl | (simp;done)) | refine(ak _ _ _ (by first | (simp;done) | (simp;omega))).trans ?_))
 have P2:W0.heap[z3+1+1]? =some (.cells #[.slice ua hs.length ucp] 39 (0,0)):=by rw[←hW0,←hz3];exact(by repeat (first | exact cY (by first | rfl | (simp;done)) | refine(ak _ _ _ (by first | (simp;done) | (simp;omega))).trans ?_))
 have zs0:z3+1+1<W0.heap.size:=(ai.1 P2).1;have HB0:Hid (Below Z w W0):=aa (HB2.out.trans (B0.mono (by omega)));have HX0:=aa (cS ((B0.block Z (by omega)).trans HX2.out.1) (cS ((B0.block (Z+1) (by omega)).trans HX2.out.2.1) ((B0.block (Z+1+1) (by omega)).trans HX2.out.2.2)));rw[hz3]at y0 y1 y2 ⊢;clear hW0 B0 k0 k1 kb kf hz3;refine hU rfl (by omega) (gf:=101) (lb:=#[.pointer (some ⟨z3+1,0,none⟩),.pointer (some ⟨z3+1+1,0,none⟩),.pointer (some ⟨z3,0,none⟩)]) rfl trivial (enters_of Tryz.func101 (by kernel_rfl) rfl)
  (jE qs cs q hs (.slice qa qs.length qc) uc (.slice ua hs.length ucp) Z W0.heap.size (z3+1) (z3+1+1) z3 W0 (by omega) (aj _) (by omega) (by omega) (by omega) P1 P2 P0 (HR.out.below HB0.out (aj _) (by omega)) (HC.out.below HB0.out (aj _) (by omega)) (o5 HW.out) ⟨_,_,_,rfl⟩)
  (ap _ _) (fun _=>rfl) (fun h k=>h.trans k) (fun{A B} h=>?kT) (fun h=>⟨h.1.size,fun q_ o _ ho hc=>h.2 q_ o ho (fun cs f e=>by subst e;cases hc)⟩)
  (fun _ V=>Below W0.heap.size W0 V) (fun _=>False) ?sI ?tI ?sX ?tX ?h0 ?round ?done ?stop
 case sI=>exact fun s A C h k=>h.trans k.1
 case tI=>exact fun s A C h k=>h.trans (eL (w:=W0) k (aj _)).2
 case sX=>exact fun A C h _=>h.elim
 case tX=>exact fun A C h _=>h.elim
 case h0=>exact fun o1 o2=>jS _ _
 case stop=>exact fun D W _ h=>h.elim
 case kT=>
  obtain⟨t1,t2⟩:=eL (w:=W0) h (aj _);exact⟨t2.size,fun q_ hq=>t2.block q_ (by omega),fun q_ cs' e' f' hq _=>t1 q_ cs' e' f' hq⟩
 case round=>
  rintro l pre ⟨nd,tm,h⟩ Wa W hll ⟨r,hr⟩ hia hba hi ⟨k,h',hk,rfl,hx⟩;injection hx with hx1 hx2
  injection hx2 with hx2 hx3
  subst hx1 hx2 hx3;have HI:Hid (Below W0.heap.size W0 W):=aa hi;have HK:=aa hk;clear hia hba hi hr hk;simp only[encP];gi_wp2
  obtain⟨WA,hWA⟩:=cR ((W.alloc (.cells #[.int .i64 (nodeE cs q.src (hs.take k)),.int .i64 (timeE q.rd (hs.take k))] 125)).alloc (.cells #[.int .i64 h.ct,.int .i64 h.bg,.int .i64 h.en,.int .i64 h.ar] 68))
  rw[hWA];have BA:Below W.heap.size W WA:=by rw[←hWA];exact jS _ _
  have A0:WA.heap[W.heap.size]? =some (.cells #[.int .i64 (nodeE cs q.src (hs.take k)),.int .i64 (timeE q.rd (hs.take k))] 125 (0,0)):=by rw[←hWA];exact(by repeat (first | exact cY (by first | rfl | (simp;done)) | refine(ak _ _ _ (by first | (simp;done) | (simp;omega))).trans ?_))
  have A1:WA.heap[W.heap.size+1]? =some (.cells #[.int .i64 h.ct,.int .i64 h.bg,.int .i64 h.en,.int .i64 h.ar] 68 (0,0)):=by rw[←hWA];exact(by repeat (first | exact cY (by first | rfl | (simp;done)) | refine(ak _ _ _ (by first | (simp;done) | (simp;omega))).trans ?_))
  have zW:=HI.out.size;clear hWA;refine⟨dZ BA,KpL.of BA (by omega) (by omega) (by omega) (by omega),fun Wb ht=>?_⟩
  obtain⟨t1,t2⟩:=eL (w:=W0) ht (aj _);have HBb:Hid (Below W0.heap.size W0 Wb):=aa (HI.out.trans ((BA.mono zW).trans t2));have A0':=(t1 _ _ _ _ A0).trans A0;have A1':=(t1 _ _ _ _ A1).trans A1;have b0:=fun q_=>cU ((HBb.out.block Z (by omega)).trans HX0.out.1) q_
  have b1:=fun q_=>cU ((HBb.out.block (Z+1) (by omega)).trans HX0.out.2.1) q_
  have a0:=fun q_=>cU A0' q_
  have a1:=fun q_=>cU A1' q_
  have s4:W.heap.size+1<Wb.heap.size:=(ai.1 A1').1;have s3:W.heap.size<Wb.heap.size:=by omega
  have s0:Z<Wb.heap.size:=by omega
  have s1:Z+1<Wb.heap.size:=by omega
  have HCb:Hid (RRow conC 7 Wb Wb.heap.size uc cs):=aa (HC.out.below (HB0.out.trans (HBb.out.mono (by omega))) (aj _) (by omega));clear BA A0 A1 t1 t2 ht A0' A1';gi_wp2_with fail
  refine⟨trivial,CallsIn.inRound l (callsIn_wide.2 ((chop_any qs cs q _ _ h _ _ Wb HCb.out HP.out HO.out (l9 HW.out HK.out)).mono ?_))⟩
  rintro e W4 ⟨rfl,hb4⟩;clear b0 b1 a0 a1;gi_wp2
  exact⟨dZ hb4,rfl,KpL.of hb4 (by omega) (by omega) (by omega) (by omega),HBb.out.trans (hb4.mono (by omega))⟩
 case done=>
  rintro D xs W hD rfl hi hK';obtain⟨L,h,hLh⟩:∃L h,hs=L++[h]:=⟨_,_,(List.dropLast_concat_getLast he).symm⟩
  have hln:hs.length=L.length+1:=by rw[hLh];simp
  have hk:hs[L.length]? =some h:=by rw[hLh];simp
  have hho:=l9 HW.out hk;have hne:nodeE cs q.src hs=(conOf cs h.ct).tt:=by rw[hLh,fl];rfl
  have hte:timeE q.rd hs=h.ar:=by rw[hLh,f7];rfl
  have HV:Hid (rchkV cs q hs=if(conOf cs h.ct).tt≠q.dst then 18 else if h.ar≤q.D then 0 else 16):=aa (by
   unfold rchkV;rw[if_neg he,hne,hte])
  obtain⟨c,hcc,hce⟩:=fK hho.c0 hho.c1;rw[hce]at HV;have hil:=(aw.1 hcc).1;have zW:=hi.size;have HBW:Hid (Below Z w W):=aa (HB0.out.trans (hi.mono (by omega)));have hRW:RRow hpC 4 W W.heap.size _ hs:=HR.out.below HBW.out (aj _) (by omega);have hCW:RRow conC 7 W W.heap.size _ cs:=HC.out.below HBW.out (aj _) (by omega);obtain⟨ua',ucp',er,-,-,-,h4⟩:=hRW;obtain⟨ob,oo,eo,hob,hcell⟩:=h4 hpos;obtain⟨ca,cap,rfl,f1,f2,-,f4⟩:=hCW;have hcp:0<cs.length:=by clear f4 h4 hcell;omega
  obtain⟨cb,co,rfl,hcb,hcc4⟩:=f4 hcp;have ea:ua=some ⟨ob,oo,none⟩:=by injection er with q1 q2 q3;rw[q1,eo]
  subst ea;clear er eo h4 f4 ua' ucp';have r0:W.cell? ⟨ob,oo+L.length*4,none⟩=some (.int .i64 h.ct):=hcell _ h hk 0 _ rfl;have r1:W.cell? ⟨ob,oo+L.length*4+1,none⟩=some (.int .i64 h.bg):=hcell _ h hk 1 _ rfl;have r2:W.cell? ⟨ob,oo+L.length*4+2,none⟩=some (.int .i64 h.en):=hcell _ h hk 2 _ rfl;have r3:W.cell? ⟨ob,oo+L.length*4+3,none⟩=some (.int .i64 h.ar):=hcell _ h hk 3 _ rfl;have p1:W.cell? ⟨cb,co+h.ct.toNat*7+1,none⟩=some (.int .i64 c.tt):=hcc4 _ c hcc 1 _ rfl;obtain⟨i,hi'⟩:∃i:Nat,h.ct=(i:Int):=⟨h.ct.toNat,by have:=hho.c0;omega⟩
  obtain⟨ct,bg,en,ar⟩:=h;simp only at hi' hho p1 r0 r1 r2 r3 HV hce hcc;subst hi';rw[bN]at p1;rw[bN]at hcc;have hix:=(aw.1 hcc).1;have X0:=(hi.block Z (by omega)).trans HX0.out.1;have X1:=(hi.block (Z+1) (by omega)).trans HX0.out.2.1;have X2:Boxed W (Z+1+1) 45 (.int .i64 0):=(hi.block (Z+1+1) (by omega)).trans HX0.out.2.2;have w1e:IntKind.i64.wrap ((hs.length:Int)-1)=(L.length:Int):=by rw[ax];omega
  have j0:(0:Int)≤(L.length:Int):=by omega
  have j1:(L.length:Int)<(hs.length:Int):=by omega
  have i0:(0:Int)≤(i:Int):=by omega
  have i1:(i:Int)<(cs.length:Int):=by omega
  have HKD:=aa hK';have HXX:=aa (cS X0 (cS X1 X2));have HP1:=aa p1;have HCB:=aa hcb;clear hi hK' hLh hk hho hne hte hce hcc hcell hcc4 X0 X1 X2 HX0 HX1 HX2 P0 P1 P2 p1;gi_wp2
  obtain⟨W5,hW5⟩:=cR (W.alloc (.cells #[.int .i64 (i:Int),.int .i64 bg,.int .i64 en,.int .i64 ar] 68))
  rw[hW5];have B5:Below W.heap.size W W5:=by rw[←hW5];exact de (ap _ _)
  have X5:W5.heap[W.heap.size]? =some (.cells #[.int .i64 (i:Int),.int .i64 bg,.int .i64 en,.int .i64 ar] 68 (0,0)):=by rw[←hW5];exact cW
  have s4:W.heap.size<W5.heap.size:=(ai.1 X5).1;obtain⟨X0,X1,X2⟩:=HXX.out;have s0:Z<W5.heap.size:=by omega
  have s1:Z+1<W5.heap.size:=by omega
  have s2:Z+1+1<W5.heap.size:=by omega
  have s3:cb<W5.heap.size:=by have:=HCB.out;omega
  have p1:W5.cell? ⟨cb,co+i*7+1,none⟩=some (.int .i64 c.tt):=(B5.cell (p:=⟨cb,co+i*7+1,none⟩) HCB.out).trans HP1.out;have b0:=fun q_=>cU ((B5.block Z (by omega)).trans X0) q_
  have b1:=fun q_=>cU ((B5.block (Z+1) (by omega)).trans X1) q_
  have b5:=fun q_=>cU X5 q_
  have XB:Boxed W5 (Z+1+1) 45 (.int .i64 0):=(B5.block (Z+1+1) (by omega)).trans X2;have kb:=XB.cell;have kf:=XB.frozen;have hD5:W5.heap[D]? =some (.deferred (some [])):=(B5.block D (ai.1 HKD.out).1).trans HKD.out;have HD5:=aa hD5;have HB5:=aa (HBW.out.trans (B5.mono (by omega)));have hDz:D≠Z+1+1:=by omega
  obtain⟨hB,hhB⟩:=cR W.heap.size
  rw[hhB]at s4 b5 ⊢;clear hW5 B5 X5 X0 X1 X2 XB hD5 hhB r0 r1 r2 r3 hob hcb;refine wpIn_wide.2 ?_
  go_quiet (fail)
  obtain⟨W6,hW6⟩:=cR (W5.drewN nq)
  rw[hW6];have hh6:W6.heap=W5.heap:=by rw[←hW6];simp
  have HB6:Hid (Below Z w W6):=aa (by rw[←hW6];exact HB5.out.trans ⟨rfl,rfl,rfl,aj _,fun _ _=>rfl⟩);have HD6:Hid (W6.heap[D]? =some (.deferred (some []))):=aa (by rw[hh6];exact HD5.out);have hz6:W6.heap.size=W5.heap.size:=by rw[hh6]
  have s1':Z+1<W6.heap.size:=by omega
  have s2':Z+1+1<W6.heap.size:=by omega
  have s4':hB<W6.heap.size:=by omega
  have b1':∀q_,W6.cell? ⟨Z+1,q_,none⟩=_:=fun q_=>(aU (by rw[hh6])).trans (b1 q_)
  have b5':∀q_,W6.cell? ⟨hB,q_,none⟩=_:=fun q_=>(aU (by rw[hh6])).trans (b5 q_)
  have kb':W6.cell? ⟨Z+1+1,0,none⟩=some (.int .i64 0):=(aU (by rw[hh6])).trans kb;have kf':W6.frozen? ⟨Z+1+1,0,none⟩=false:=(World.frozen?_of_block (by rw[hh6])).trans kf;clear hW6 hh6 hz6 b0 b1 b5 kb kf p1 s0 s1 s2 s3 s4;by_cases ht:c.tt=q.dst
  case neg=>
   have HVN:Hid (rchkV cs q hs=18):=aa (by rw[HV.out,if_pos ht]);have d5:(c.tt != q.dst)=true:=by simpa using ht
   clear ht HV;gi_wp2
   refine⟨by simp,.inl ⟨_,_,rfl,run_takeDeferred ((heap_setCell_other W6 ⟨Z+1+1,0,none⟩ D _ hDz).trans HD6.out),?_⟩⟩
   have hput:∀V:World,(V.putObj D (.deferred none)).cell? ⟨Z+1+1,0,none⟩=V.cell? ⟨Z+1+1,0,none⟩:=fun V=>aU (World.putObj_heap_other (by show Z+1+1≠D;exact fun e=>hDz e.symm))
   refine⟨.int .i64 18,by simp[results,Tryz.results20,go_sem,hput,aP,kb',s2'],?_⟩
   rw[HVN.out,HZ.out];refine⟨rfl,(bset HB6.out (by show Z≤Z+1+1;omega)).grown (grownBy_putObj' _ D (.deferred none)) (by simp;omega) (fun q hq=>by injection hq with hq;omega)⟩
  have d5:(c.tt != q.dst)=false:=by simpa using ht
  by_cases hd:ar≤q.D
  case pos=>
   have HVN:Hid (rchkV cs q hs=0):=aa (by rw[HV.out,if_neg (fun e=>e ht),if_pos hd]);have d6:decide (ar>q.D)=false:=decide_eq_false (by omega);clear ht HV hd;gi_wp2
   refine⟨by simp,.inl ⟨_,_,rfl,run_takeDeferred ((heap_setCell_other W6 ⟨Z+1+1,0,none⟩ D _ hDz).trans HD6.out),?_⟩⟩
   have hput:∀V:World,(V.putObj D (.deferred none)).cell? ⟨Z+1+1,0,none⟩=V.cell? ⟨Z+1+1,0,none⟩:=fun V=>aU (World.putObj_heap_other (by show Z+1+1≠D;exact fun e=>hDz e.symm))
   refine⟨.int .i64 0,by simp[results,Tryz.results20,go_sem,hput,aP,kb',s2'],?_⟩
   rw[HVN.out,HZ.out];refine⟨rfl,(bset HB6.out (by show Z≤Z+1+1;omega)).grown (grownBy_putObj' _ D (.deferred none)) (by simp;omega) (fun q hq=>by injection hq with hq;omega)⟩
  case neg=>
   have HVN:Hid (rchkV cs q hs=16):=aa (by rw[HV.out,if_neg (fun e=>e ht),if_neg hd]);have d6:decide (ar>q.D)=true:=decide_eq_true (by omega);clear ht HV hd;gi_wp2
   refine⟨by simp,.inl ⟨_,_,rfl,run_takeDeferred ((heap_setCell_other W6 ⟨Z+1+1,0,none⟩ D _ hDz).trans HD6.out),?_⟩⟩
   have hput:∀V:World,(V.putObj D (.deferred none)).cell? ⟨Z+1+1,0,none⟩=V.cell? ⟨Z+1+1,0,none⟩:=fun V=>aU (World.putObj_heap_other (by show Z+1+1≠D;exact fun e=>hDz e.symm))
   refine⟨.int .i64 16,by simp[results,Tryz.results20,go_sem,hput,aP,kb',s2'],?_⟩
   rw[HVN.out,HZ.out];refine⟨rfl,(bset HB6.out (by show Z≤Z+1+1;omega)).grown (grownBy_putObj' _ D (.deferred none)) (by simp;omega) (fun q hq=>by injection hq with hq;omega)⟩
end
section
open Go Go.RowKit Iv
theorem ctk_any (qs:List Int) (cs:List Con) (t:Tk) (before:Int) (uq uc u:Value) (w:World) (hq:RRow intC 1 w w.heap.size uq qs) (hc:RRow conC 7 w w.heap.size uc cs) (hr:RRow hpC 4 w w.heap.size u t.hs) (hp:PlanOK qs cs) (ht:TkW qs cs t) (hl:t.hs.length≤1000) (hb:before<t.no):
  Calls Tryz.prog 49 #[.agg #[uq,uc],.agg #[.int .i64 t.no,.int .i64 t.q.src,.int .i64 t.q.dst,.int .i64 t.q.sz,.int .i64 t.q.rd,.int .i64 t.q.D,.int .i64 t.q.pr,.bool t.q.cu,u,.int .i64 t.st,.int .i64 t.un],.int .i64 before] w fun e w'=>e= .returned (.int .i64 0)∧Below w.heap.size w w':=by
 have HQ:=aa hq;have HC:=aa hc;have HR:=aa hr;have HP:=aa hp;have HRQ:=aa ht.rq;have HWY:=aa ht.way;have h1:=ht.n1;have HST:=aa ht.st;obtain⟨ua,ucp,rfl,e1,e2,-⟩:=id hr;unfold maxLen at e2;have hlen:t.hs.length≤9223372036854775807:=by omega
 obtain⟨no,q,hs,st,un⟩:=t;simp only at HR HRQ HWY HST hb h1 hlen e1 hl;obtain⟨V,hV⟩:=cR (rchkV cs q hs)
 have HV:=aa hV;have d1:decide (no≤before)=false:=decide_eq_false (by omega);have d2:decide (no>1152921504606846976)=false:=decide_eq_false (by omega);clear hq hc hr hp ht hV;go_enter Tryz.func49,Tryz.ntmps49
 go_upto_region 1 with fail
 obtain⟨Z,hZ⟩:=cR w.heap.size
 obtain⟨w1,hw1⟩:=cR ((w.alloc (.cells #[uq,uc] 25)).alloc (.cells #[.int .i64 no,.int .i64 q.src,.int .i64 q.dst,.int .i64 q.sz,.int .i64 q.rd,.int .i64 q.D,.int .i64 q.pr,.bool q.cu,.slice ua hs.length ucp,.int .i64 st,.int .i64 un] 41))
 rw[hw1];have B1:Below Z w w1:=by rw[←hw1,←hZ];exact cZ
 have X0:w1.heap[Z]? =some (.cells #[uq,uc] 25 (0,0)):=by rw[←hw1,←hZ];exact(by repeat (first | exact cY (by first | rfl | (simp;done)) | refine(ak _ _ _ (by first | (simp;done) | (simp;omega))).trans ?_))
 have X1:w1.heap[Z+1]? =some (.cells #[.int .i64 no,.int .i64 q.src,.int .i64 q.dst,.int .i64 q.sz,.int .i64 q.rd,.int .i64 q.D,.int .i64 q.pr,.bool q.cu,.slice ua hs.length ucp,.int .i64 st,.int .i64 un] 41 (0,0)):=by rw[←hw1,←hZ];exact(by repeat (first | exact cY (by first | rfl | (simp;done)) | refine(ak _ _ _ (by first | (simp;done) | (simp;omega))).trans ?_))
 have z1:Z+1<w1.heap.size:=(ai.1 X1).1;have z0:Z<w1.heap.size:=by omega
 have k0:=fun q_=>cU X0 q_
 have k1:=fun q_=>cU X1 q_
 have HZ:=aa hZ;have HX:=aa (cS B1 (cS X0 X1));rw[hZ]at HQ HC HR ⊢;clear hw1 B1 X0 X1 hZ;rcases HST.out with⟨e,hne,hnd,htm,hun⟩ | ⟨e,hnd,hu0,hu1⟩
 ·obtain rfl:st=1:=e
  obtain rfl:un=0:=hun;obtain rfl:V=0:=by
   rw[←HV.out];unfold rchkV;rw[if_neg hne,if_neg (fun h=>h hnd),if_pos htm]
  clear hne hnd htm;go_upto_region 5 with fail
  go_wp2_with fail
  refine(fC qs cs uq uc q.src q.dst q.sz q.rd q.D q.pr q.cu w1 (HQ.out.below HX.out.1 (aj _) (by omega)) (HC.out.below HX.out.1 (aj _) (by omega))).mono ?_
  unfold CrPost;rintro e w2 ⟨⟨r,rfl,-,hr0⟩,hb2⟩;obtain rfl:r=0:=hr0 HP.out HRQ.out;obtain⟨B1,X0,X1⟩:=HX.out;have z2:=hb2.size;have B2:=B1.trans (hb2.mono (by omega));have HX2:=aa (cS B2 (cS ((hb2.block _ z0).trans X0) ((hb2.block _ z1).trans X1)));have k0:=fun q_=>cU HX2.out.2.1 q_
  have k1:=fun q_=>cU HX2.out.2.2 q_
  have y0:Z<w2.heap.size:=by omega
  have y1:Z+1<w2.heap.size:=by omega
  clear B1 X0 X1 hr0 hb2 B2;go_wp2_with fail
  refine(gI qs cs q hs uq uc _ w2 (HQ.out.below HX2.out.1 (aj _) (by omega)) (HC.out.below HX2.out.1 (aj _) (by omega)) (HR.out.below HX2.out.1 (aj _) (by omega)) HP.out HRQ.out HWY.out hl).mono ?_
  rw[HV.out];rintro e w3 ⟨rfl,hb3⟩;have z3:=hb3.size;have k1:=fun q_=>cU ((hb3.block _ y1).trans HX2.out.2.2) q_
  have y1':Z+1<w3.heap.size:=by omega
  have HW:Hid (Below Z w w3):=aa (HX2.out.1.trans (hb3.mono (by omega)));clear hb3 k0;go_wp2
  go_ret
  rw[HZ.out];exact⟨rfl,HW.out⟩
 obtain rfl:st=2:=e;have d4:decide (un≥0)=true:=decide_eq_true (by omega);have d5:decide (un≤1099511627776)=true:=decide_eq_true (by omega);by_cases he:hs=[]
 ·obtain rfl:V=20:=by
   rw[←HV.out];unfold rchkV;rw[if_pos he]
  have d6:((hs.length:Int)==0)=true:=by rw[he];rfl
  clear he hnd;go_upto_region 5 with fail
  go_wp2_with fail
  refine(fC qs cs uq uc q.src q.dst q.sz q.rd q.D q.pr q.cu w1 (HQ.out.below HX.out.1 (aj _) (by omega)) (HC.out.below HX.out.1 (aj _) (by omega))).mono ?_
  unfold CrPost;rintro e w2 ⟨⟨r,rfl,-,hr0⟩,hb2⟩;obtain rfl:r=0:=hr0 HP.out HRQ.out;obtain⟨B1,X0,X1⟩:=HX.out;have z2:=hb2.size;have B2:=B1.trans (hb2.mono (by omega));have HX2:=aa (cS B2 (cS ((hb2.block _ z0).trans X0) ((hb2.block _ z1).trans X1)));have k0:=fun q_=>cU HX2.out.2.1 q_
  have k1:=fun q_=>cU HX2.out.2.2 q_
  have y0:Z<w2.heap.size:=by omega
  have y1:Z+1<w2.heap.size:=by omega
  clear B1 X0 X1 hr0 hb2 B2;go_wp2_with fail
  refine(gI qs cs q hs uq uc _ w2 (HQ.out.below HX2.out.1 (aj _) (by omega)) (HC.out.below HX2.out.1 (aj _) (by omega)) (HR.out.below HX2.out.1 (aj _) (by omega)) HP.out HRQ.out HWY.out hl).mono ?_
  rw[HV.out];rintro e w3 ⟨rfl,hb3⟩;have z3:=hb3.size;have k1:=fun q_=>cU ((hb3.block _ y1).trans HX2.out.2.2) q_
  have y1':Z+1<w3.heap.size:=by omega
  have HW:Hid (Below Z w w3):=aa (HX2.out.1.trans (hb3.mono (by omega)));clear hb3 k0;go_wp2
  go_ret
  rw[HZ.out];exact⟨rfl,HW.out⟩
 ·obtain rfl:V=18:=by
   rw[←HV.out];unfold rchkV;rw[if_neg he,if_pos hnd]
  have hpos:0<hs.length:=List.length_pos_iff.2 he;have d6:((hs.length:Int)==0)=false:=by simp;omega
  clear hnd;go_upto_region 5 with fail
  go_wp2_with fail
  refine(fC qs cs uq uc q.src q.dst q.sz q.rd q.D q.pr q.cu w1 (HQ.out.below HX.out.1 (aj _) (by omega)) (HC.out.below HX.out.1 (aj _) (by omega))).mono ?_
  unfold CrPost;rintro e w2 ⟨⟨r,rfl,-,hr0⟩,hb2⟩;obtain rfl:r=0:=hr0 HP.out HRQ.out;obtain⟨B1,X0,X1⟩:=HX.out;have z2:=hb2.size;have B2:=B1.trans (hb2.mono (by omega));have HX2:=aa (cS B2 (cS ((hb2.block _ z0).trans X0) ((hb2.block _ z1).trans X1)));have k0:=fun q_=>cU HX2.out.2.1 q_
  have k1:=fun q_=>cU HX2.out.2.2 q_
  have y0:Z<w2.heap.size:=by omega
  have y1:Z+1<w2.heap.size:=by omega
  clear B1 X0 X1 hr0 hb2 B2;go_wp2_with fail
  refine(gI qs cs q hs uq uc _ w2 (HQ.out.below HX2.out.1 (aj _) (by omega)) (HC.out.below HX2.out.1 (aj _) (by omega)) (HR.out.below HX2.out.1 (aj _) (by omega)) HP.out HRQ.out HWY.out hl).mono ?_
  rw[HV.out];rintro e w3 ⟨rfl,hb3⟩;have z3:=hb3.size;have k1:=fun q_=>cU ((hb3.block _ y1).trans HX2.out.2.2) q_
  have y1':Z+1<w3.heap.size:=by omega
  have HW:Hid (Below Z w w3):=aa (HX2.out.1.trans (hb3.mono (by omega)));clear hb3 k0;go_wp2
  go_ret
  rw[HZ.out];exact⟨rfl,HW.out⟩
end
section
open Go Go.RowKit Go.Maps Iv
theorem pT (ts:List Int) (h:ts.Nodup):(ts.mergeSort (fun x y=>decide (x≤y))).Pairwise (· < ·):=by
 have h1:=List.pairwise_mergeSort (le:=fun x y:Int=>decide (x≤y)) (fun a b c h k=>decide_eq_true (Int.le_trans (of_decide_eq_true h) (of_decide_eq_true k))) (fun a b=>by rw[Bool.or_eq_true,decide_eq_true_iff,decide_eq_true_iff];omega) ts;have h2:(ts.mergeSort (fun x y=>decide (x≤y))).Nodup:=(List.mergeSort_perm ts _).nodup_iff.2 h;exact(List.pairwise_and_iff.2 ⟨h1,h2⟩).imp (fun⟨a,b⟩=>by have:=of_decide_eq_true a;omega)
def SortPost (u:Value) (ts:List Int) (w:World) (e:Ending) (w':World):Prop:=
 e= .returned (.tuple #[])∧(∃ts':List Int,ts'.length=ts.length∧(∀x,x∈ts'↔x∈ts)∧(ts.Nodup→ts'.Pairwise (· < ·))∧RRow intC 1 w' w'.heap.size u ts')∧
  (w'.os=w.os∧w'.tape=w.tape∧w'.output=w.output)∧w.heap.size≤w'.heap.size∧∀q,q<w.heap.size→u.ownBlock≠some q→w'.heap[q]? =w.heap[q]?
open Go.Sort in
theorem sorti_any (ts:List Int) (u:Value) (base:Nat) (w:World) (ho:w.ownsRow base 3 1 u ts.length (ints ts)) (hl:ts.length≤100000):
  Calls Tryz.prog 109 #[u] w (SortPost u ts w):=by
 cases hM:ts with
 | nil=>
  subst hM;obtain⟨a,c,rfl⟩:=dg ho;refine(Tryz.slices_Sort_int_none a c w).mono fun e w' ⟨h1,h2⟩=>?_
  subst h2;have hr:RRow intC 1 w' w'.heap.size (.slice a 0 c) []:=by
   rcases ho.2 with⟨h0,_⟩ | ⟨g,cap,cur,h0,hb,hg,hn,hm,_⟩
   ·injection h0 with h0 h1 h2
    subst h0 h2;exact RRow.nil _ _ _ _
   ·injection h0 with h0 h1 h2
    subst h0 h2;exact⟨_,_,rfl,aE _,hm,(fun h=>by cases h),fun h=>by cases h⟩
  exact⟨h1,⟨[],rfl,(fun x=>Iff.rfl),(fun _=>List.Pairwise.nil),hr⟩,⟨rfl,rfl,rfl⟩,aj _,fun _ _ _=>rfl⟩
 | cons x r=>
  have hp:0<ts.length:=by rw[hM];simp
  rw[←hM];clear hM;obtain⟨g,c,rfl⟩:=fd ho hp;have hgl:=(ho.lt g rfl).2;have hcc:ts.length≤c∧c≤maxLen:=by
   rcases ho.2 with⟨h0,_⟩ | ⟨g',cap,cur,h0,hb,hg,hn,hm,_⟩
   ·cases h0
   ·injection h0 with h0 h1 h2
    subst h2;exact⟨hn,hm⟩
  have hH:Holds (Value.int .i64) w g 0 ts.toArray:=by
   intro j hj;have hj':j<ts.length:=by simpa using hj
   refine⟨?_,by have:=ho.frozenAt (g:=g) j;simpa using this⟩
   have h2:(ints ts)[j]? =some (.int .i64 ts[j]):=by
    unfold ints;rw[bO,am hj'];rfl
   have:=ho.cells (g:=g) rfl j _ h2;rw[fj]at this;rw[this];simp[hj']
  refine(Tryz.slices_Sort_int g 0 c ts w hH hgl (by omega)).mono ?_
  rintro e w' ⟨rfl,n,os,rfl⟩;obtain⟨ss,hss⟩:=cR (ts.mergeSort (fun x y=>decide (x≤y)))
  have hsl:ss.length=ts.length:=by rw[←hss];exact List.length_mergeSort _
  have hsm:∀x,x∈ss↔x∈ts:=by rw[←hss];exact fun x=>List.mem_mergeSort
  have hlt:ts.Nodup→ss.Pairwise (· < ·):=by rw[←hss];exact pT ts
  rw[hss];clear hss;have hH2:Holds (Value.int .i64) (Sort.ahead w n) g 0 ts.toArray:=hH;have hput:=holds_putRow (Value.int .i64) (Sort.ahead w n) g 0 _ ss.toArray hH2 (by simp[hsl]);have hgl2:g<(putRow (Value.int .i64) (Sort.ahead w n) g 0 ss.toArray).heap.size:=by simpa using hgl
  have hgrow:=holds_grow (Value.int .i64) _ os g 0 _ hgl2 hput;have hk:∀q,q<w.heap.size→(Value.slice (some ⟨g,0,none⟩) ts.length c).ownBlock≠some q→(grow (putRow (Value.int .i64) (Sort.ahead w n) g 0 ss.toArray) os).heap[q]? =w.heap[q]?:=by
   intro q hq hne;have hqg:q≠g:=fun e=>hne (by rw[e];rfl)
   rw[Go.Sort.heap_grow_old _ _ (by simpa using hq)];unfold putRow mapBlock;rw[Array.getElem?_modify,if_neg (Ne.symm hqg)];rfl
  refine⟨rfl,⟨ss,hsl,hsm,hlt,?_⟩,⟨rfl,rfl,rfl⟩,by first | (simp[Sort.ahead];done) | (simp[Sort.ahead];omega),hk⟩
  refine⟨some ⟨g,0,none⟩,c,by rw[hsl],by rw[hsl];exact hcc.1,hcc.2,(fun h=>by cases h),fun _=>⟨g,0,rfl,by first | (simp[Sort.ahead];done) | (simp[Sort.ahead];omega),fun i x hx j v hv=>?_⟩⟩
  have hj:j=0:=by
   have:=(aw.1 hv).1;simp[intC]at this;omega
  subst hj;simp[intC]at hv
  subst hv;obtain⟨hi,hx'⟩:=aw.1 hx;have:=(hgrow i (by simpa using hi)).1;rw[show 0+i*1+0=0+i by omega,this];simp[hi,hx']
theorem pU:(Tryz.prog.info? 185).map (fun i=>(i.zero,i.size,i.bytes))=some (some (.agg #[.int .i64 0,.int .i64 0]),2,16):=by kernel_rfl
def LvRet (l:List Hld) (i:Int) (N:Nat) (w:World) (e:Ending) (w':World):Prop:=∃u P,e= .returned u∧RSps w' w'.heap.size u P∧P.length≤N∧RFrom w.heap.size u∧LvlOK l i P∧Below w.heap.size w w'
theorem LvS.keep {B Z mb n:Nat} {D:DataW Unit} {ts:List Int} {W W':World} (h:LvS B Z mb n D ts W) (hZ:Z+1<B∧mb<B) (hB:B≤W.heap.size) (k:∀q,q<W.heap.size→W'.heap[q]? =W.heap[q]?):LvS B Z mb n D ts W':=by
 obtain⟨vo,bm,hm,bt,ow,hwf⟩:=h;exact⟨vo,(k _ (by omega)).trans bm,fP hm (k _ (by omega)),(k _ (by omega)).trans bt,cV ow (fun q hq=>k q (ow.lt q hq).2),hwf⟩
theorem ic (l:List Hld) (i:Int) (ul:Value) (w:World) (hl:RRow hldC 5 w w.heap.size ul l) (h5:l.length≤512) (hv:∀h∈l,hVal h∧1≤h.sz∧h.sz≤65536):
  Calls Tryz.prog 65 #[ul,.int .i64 i] w (LvRet l i (2*l.length) w):=by
 obtain⟨al,cl,rfl,l1,l2,l3,l4⟩:=hl;unfold maxLen at l2;have hll:l.length≤9223372036854775807:=by omega
 have HL:=aa l4;have HV:=aa hv;obtain⟨i0,hin,hz0,hz1,hz2⟩:=info_parts pU;have hmm:=@run_makeMap Tryz.prog;have hcall:∀args W,(callFunc 108 args).run Tryz.prog W= .ok (.enter 108 args) W:=fun _ _=>by kernel_rfl
 clear l3 l4 hv;go_enter Tryz.func65,Tryz.ntmps65
 go_upto_region 4 with fail
 obtain⟨w4,hw4⟩:=cR (((w.alloc (.map #[] 0)).alloc (.cells #[.map (some w.heap.size)] 186)).alloc (.cells #[.slice none 0 0] 22))
 rw[hw4];have hB4:Below w.heap.size w w4:=by rw[←hw4];exact cZ
 have hm4:w4.ownsMap Tryz.prog 3 (plainElem (H:=Unit) Tryz.prog 3) w.heap.size 0 (.map []):=by rw[←hw4];exact fP (World.ownsMap_made w _ _ _) ((ak _ _ _ (by simp;omega)).trans (ak _ _ _ (by simp)))
 have b41:Boxed w4 (w.heap.size+1) 186 (.map (some w.heap.size)):=by rw[←hw4];exact(by repeat (first | exact cY (by first | rfl | (simp;done)) | refine(ak _ _ _ (by first | (simp;done) | (simp;omega))).trans ?_))
 have b42:Boxed w4 (w.heap.size+1+1) 22 (.slice none 0 0):=by rw[←hw4];exact(by repeat (first | exact cY (by first | rfl | (simp;done)) | refine(ak _ _ _ (by first | (simp;done) | (simp;omega))).trans ?_))
 have hs4:w.heap.size+1+1<w4.heap.size:=b42.lt;have HS0:Hid (LvS w4.heap.size (w.heap.size+1) w.heap.size 0 (.map []) [] w4):=aa ⟨_,b41,hm4,b42,aX _ _ _ _,fun x hx=>by cases hx⟩;clear hw4 hm4 b41 b42;go_wp2
 go_loopw [18] (fun iv wr=>∃(k n:Nat) (D:DataW Unit) (ts:List Int),k≤l.length∧iv= .int .i64 k∧n≤2*k∧ts.length≤2*k∧Hid (LvS w4.heap.size (w.heap.size+1) w.heap.size n D ts wr∧LvM D (chg (l.take k) i) ts n∧∀h∈l.take k,h.nd=i→h.fr∈ts∧h.tt∈ts)∧Hid (∀x∈ts,0≤x∧x≤1099511627776)∧Below w.heap.size w wr∧w4.heap.size≤wr.heap.size) (fun iv _=>l.length-(intOf iv).toNat)
 case atStart=>exact⟨0,0,_,[],aE _,rfl,aj _,aj _,aa ⟨HS0.out,LvM.nil i,fun h hh=>by simp at hh⟩,aa (fun x hx=>by cases hx),hB4,aj _⟩
 case round=>
  clear hB4 HS0;obtain⟨k,n,D,ts,hk,rfl,hn,hts,HSM,HTB,hB,hsr⟩:=hrel;have HS:Hid _:=aa HSM.out.1;by_cases hlt:k<l.length
  ·obtain⟨bb,o,rfl,hbn,hcell⟩:=HL.out (by omega)
   obtain⟨x,hx⟩:∃x,l[k]? =some x:=⟨_,am hlt⟩
   have q0:wr.cell? ⟨bb,o+k*5,none⟩=some (.int .i64 x.nd):=(hB.cell (p:=⟨bb,o+k*5+0,none⟩) hbn).trans (hcell k x hx 0 _ rfl);have q1:wr.cell? ⟨bb,o+k*5+1,none⟩=some (.int .i64 x.fr):=(hB.cell (p:=⟨bb,o+k*5+1,none⟩) hbn).trans (hcell k x hx 1 _ rfl);have q2:wr.cell? ⟨bb,o+k*5+2,none⟩=some (.int .i64 x.tt):=(hB.cell (p:=⟨bb,o+k*5+2,none⟩) hbn).trans (hcell k x hx 2 _ rfl);have q3:wr.cell? ⟨bb,o+k*5+3,none⟩=some (.int .i64 x.sz):=(hB.cell (p:=⟨bb,o+k*5+3,none⟩) hbn).trans (hcell k x hx 3 _ rfl);have q4:wr.cell? ⟨bb,o+k*5+4,none⟩=some (.int .i64 x.tk):=(hB.cell (p:=⟨bb,o+k*5+4,none⟩) hbn).trans (hcell k x hx 4 _ rfl);have k0:(0:Int)≤(k:Int):=by omega
   have k1:(k:Int)<(l.length:Int):=by omega
   have hxv:=HV.out x (az hx);obtain⟨⟨v1,v2,v3⟩,v4,v5⟩:=hxv;have HXV:Hid (0≤x.fr∧x.fr<x.tt∧x.tt≤1099511627776):=aa ⟨v1,v2,v3⟩;have HTK:Hid (l.take (k+1)=l.take k++[x]):=aa (by rw[aN,hx];rfl);have hws:IntKind.i64.wrap (- x.sz)= - x.sz:=by rw[ax];omega
   have hws0:IntKind.i64.wrap (0-x.sz)= - x.sz:=by rw[ax];omega
   have hws2:wrap64 (- x.sz)= - x.sz:=by unfold wrap64;omega
   have hsb: -65536≤x.sz∧x.sz≤65536:=by omega
   have hsb2: -65536≤ - x.sz∧ - x.sz≤65536:=by omega
   have wf1:(Lit.int .i64 x.fr).wf=true:=WalkArith.wf_i64 (by omega);have wf2:(Lit.int .i64 x.tt).wf=true:=WalkArith.wf_i64 (by omega);have WF1:=aa wf1;have WF2:=aa wf2;clear hx hcell v1 v2 v3 v4 v5 wf1 wf2;go_upto_region 7 with fail
   obtain⟨w6,hw6⟩:=cR (wr.alloc (.cells #[.int .i64 x.nd,.int .i64 x.fr,.int .i64 x.tt,.int .i64 x.sz,.int .i64 x.tk] 75))
   rw[hw6];have hB6:Below w.heap.size w w6:=by rw[←hw6];exact de hB
   have hK6:∀q,q<wr.heap.size→w6.heap[q]? =wr.heap[q]?:=by rw[←hw6];exact fun q hq=>ak _ _ _ hq
   have GX:w6.heap[wr.heap.size]? =some (.cells #[.int .i64 x.nd,.int .i64 x.fr,.int .i64 x.tt,.int .i64 x.sz,.int .i64 x.tk] 75 (0,0)):=by rw[←hw6];exact cW
   have hs6:wr.heap.size<w6.heap.size:=by rw[←hw6];simp
   clear hw6 q0 q1 q2 q3 q4;have HS6:Hid (LvS w4.heap.size (w.heap.size+1) w.heap.size n D ts w6):=aa (HS.out.keep (by omega) hsr hK6);have cx:=fun q=>cU GX q
   by_cases z:x.nd=i
   ·have f1:(x.nd==i)=true:=by rw[beq_iff_eq];exact z
    have z_:=z;clear z;go_wp2_with fail
    have HZ:=aa z_;clear z_;refine(mL w4.heap.size (w.heap.size+1) w.heap.size n D (chg (l.take k) i) ts x.fr x.sz _ HSM.out.2.1 hsb (by omega) (by omega) (by omega) HS6.out (by omega) (by omega) WF1.out).mono ?_
    rintro e w7 hn7;obtain⟨rfl,⟨D7,ts7,ht7,hmb7,hM7,hS7⟩,hk7,hb7⟩:=hn7;have HM7:=aa hM7;clear hM7;have hB7:Below w.heap.size w w7:=hB6.trans hb7;have GX7:w7.heap[wr.heap.size]? =some (.cells #[.int .i64 x.nd,.int .i64 x.fr,.int .i64 x.tt,.int .i64 x.sz,.int .i64 x.tk] 75 (0,0)):=(hk7.2 _ _ _ _ GX (by decide) (by omega)).trans GX;have hs7:w6.heap.size≤w7.heap.size:=hk7.1;have hx7:wr.heap.size<w7.heap.size:=by omega
    have hl7:ts7.length≤2*k+1:=by rcases ht7 with rfl | ⟨t,rfl⟩<;>(try simp)<;>omega
    have HS7:=aa hS7;have HT7:=aa hmb7;clear hmb7;clear cx GX ht7 hS7 hk7 hb7 hK6;have cx:=fun q=>cU GX7 q
    go_wp2_with fail
    refine(mL w4.heap.size (w.heap.size+1) w.heap.size (n+1) D7 (updF (chg (l.take k) i) x.fr x.sz) ts7 x.tt (- x.sz) _ HM7.out hsb2 (by omega) (by omega) (by omega) HS7.out (by omega) (by omega) WF2.out).mono ?_
    rintro e w8 hn8;obtain⟨rfl,⟨D8,ts8,ht8,hmb8,hM8,hS8⟩,hk8,hb8⟩:=hn8;have HM8:=aa hM8;have HT8:=aa hmb8;clear hM8 hmb8;have hB8:Below w.heap.size w w8:=hB7.trans hb8;have hs8:w7.heap.size≤w8.heap.size:=hk8.1;have hl8:ts8.length≤2*k+2:=by rcases ht8 with rfl | ⟨t,rfl⟩<;>(try simp)<;>omega
    have HS8:=aa hS8;clear cx GX7 ht8 hS8 hk8 hb8;go_wp2
    go_roundw
    case rel=>exact⟨k+1,n+1+1,D8,ts8,by omega,by go_num,by omega,by omega,aa (by rw[HTK.out];exact⟨HS8.out,LvM.two HZ.out HM8.out,fun h hh e=>by
      rcases aA.1 hh with hh | hh
      ·have:=HSM.out.2.2 h hh e;exact⟨(HT8.out _).2 (.inr ((HT7.out _).2 (.inr this.1))),(HT8.out _).2 (.inr ((HT7.out _).2 (.inr this.2)))⟩
      ·rw[aH.1 hh];exact⟨(HT8.out _).2 (.inr ((HT7.out _).2 (.inl rfl))),(HT8.out _).2 (.inl rfl)⟩⟩),aa (fun y hy=>by
      have hv:=HXV.out;rcases(HT8.out y).1 hy with rfl | hy
      ·omega
      ·rcases(HT7.out y).1 hy with rfl | hy
       ·omega
       ·exact HTB.out y hy),hB8,by omega⟩
    case measure=>simp[intOf];omega
   ·have f1:(x.nd==i)=false:=by rw[beq_eq_false_iff_ne];exact z
    have HZ:=aa z;clear z;go_wp2
    go_roundw
    case rel=>exact⟨k+1,n,D,ts,by omega,by go_num,by omega,by omega,aa (by rw[HTK.out];exact⟨HS6.out,LvM.none HZ.out HSM.out.2.1,fun h hh e=>by
      rcases aA.1 hh with hh | hh
      ·exact HSM.out.2.2 h hh e
      ·rw[aH.1 hh]at e;exact absurd e HZ.out⟩),HTB,hB6,by omega⟩
    case measure=>simp[intOf];omega
  ·obtain rfl:k=l.length:=by omega
   obtain⟨vo,bm,hm,bt,ow,hwf⟩:=HS.out;obtain⟨va,vc,rfl⟩:=dg ow;have HBM:=aa bm;have HM:=aa hm;have HBT:=aa bt;have HOW:=aa ow;have HWF:=aa hwf;have ct:=bt.cell;have zt:=bt.lt;clear bm hm bt ow hwf;go_wp2_with fail
   refine(sorti_any ts _ _ _ HOW.out (by omega)).mono ?_
   rintro e w5 hp5;obtain⟨rfl,⟨ss,hsl,hsm,hslt,hrow⟩,⟨o1,o2,o3⟩,hs5,hk5⟩:=hp5;have HLT:Hid (ss.Pairwise (· < ·)):=aa (hslt HSM.out.2.1.nod);have HSS:Hid (∀x,x∈ss↔x∈ts):=aa hsm;have HFM:Hid (∀h∈l,h.nd=i→h.fr∈ss∧h.tt∈ss):=aa (fun h hh e=>by
    have:=HSM.out.2.2 h (by rw[aL];exact hh) e;exact⟨(hsm _).2 this.1,(hsm _).2 this.2⟩)
   have HLM:Hid (LvM D (chg l i) ts n):=aa (by have:=HSM.out.2.1;rwa [aL]at this);clear hslt;have hown:∀q,q<w4.heap.size→(Value.slice va ts.length vc).ownBlock≠some q:=fun q hq e=>by have:=(HOW.out.lt q e).1;omega
   have hB5:Below w.heap.size w w5:=⟨o1.trans hB.os,o2.trans hB.tape,o3.trans hB.output,aK hB.size hs5,fun q hq=>(hk5 q (by omega) (hown q (by omega))).trans (hB.block q hq)⟩
   have HM5:Hid (w5.ownsMap Tryz.prog 3 (plainElem (H:=Unit) Tryz.prog 3) w.heap.size n D):=aa (fP HM.out (hk5 _ (by omega) (hown _ (by omega))));have HBM5:Hid (Boxed w5 (w.heap.size+1) 186 (.map (some w.heap.size))):=aa ((hk5 _ (by omega) (hown _ (by omega))).trans HBM.out);have HBT5:Hid (Boxed w5 (w.heap.size+1+1) 22 (.slice va ts.length vc)):=aa ((hk5 _ (by omega) (hown _ (by omega))).trans HBT.out);have HSM2:Hid (∀x∈ss,(Lit.int .i64 x).wf=true):=aa (fun x hx=>HWF.out x ((hsm x).1 hx));have hss5:ss.length≤2000:=by omega
   have hss6:ss.length≤2*l.length:=by omega
   rw[←hsl]at HBT5;have hrow':RRow intC 1 w5 w5.heap.size (.slice va ss.length vc) ss:=by rw[hsl];exact hrow
   obtain⟨as5,cs5,e5,r1,r2,r3,r4⟩:=hrow';injection e5 with e51 e52 e53
   subst e51 e53;unfold maxLen at r2;have hrl:ss.length≤9223372036854775807:=by omega
   have HR4:=aa r4;have ct5:=HBT5.out.cell;have zt5:=HBT5.out.lt;clear ct zt hsl hsm hrow o1 o2 o3 hk5 hown r3 r4 hB;go_wp2
   go_loopw [10,44,11] (fun ov iv sv wr=>∃(k:Nat) (P:List Sp) (S:Int),k≤ss.length∧iv= .int .i64 k∧sv= .int .i64 S∧Hid (P=lvF (chg l i) (ss.take k) 0∧S=sumF (chg l i) (ss.take k))∧P.length≤k∧Hid (wr.ownsRow w5.heap.size 185 2 ov P.length (sps P))∧Below w5.heap.size w5 wr) (fun _ iv _ _=>ss.length-(intOf iv).toNat)
   case atStart=>exact⟨0,[],0,aE _,rfl,rfl,aa ⟨rfl,rfl⟩,aj _,aa (aX _ _ _ _),ap _ _⟩
   case round=>
    clear ct5 hlt;obtain⟨k,P,S,hk,rfl,rfl,HPS,hpl,HO,hB⟩:=hrel;obtain⟨pa,pc,rfl⟩:=dg HO.out;have hsr2:w5.heap.size≤wr.heap.size:=hB.size;have zz0:w.heap.size+1<w5.heap.size:=by omega
    have cmr:wr.cell? ⟨w.heap.size+1,0,none⟩=some (.map (some w.heap.size)):=(hB.cell (p:=⟨w.heap.size+1,0,none⟩) zz0).trans HBM5.out.cell;have zmr:w.heap.size+1<wr.heap.size:=by omega
    have HMr:Hid (wr.ownsMap Tryz.prog 3 (plainElem (H:=Unit) Tryz.prog 3) w.heap.size n D):=aa (fP HM5.out (hB.block _ (by omega)));by_cases hlt:k<ss.length
    ·obtain⟨bb,o,rfl,hbn,hcell⟩:=HR4.out (by omega)
     obtain⟨x,hx⟩:∃x,ss[k]? =some x:=⟨_,am hlt⟩
     have q0:wr.cell? ⟨bb,o+k,none⟩=some (.int .i64 x):=(hB.cell (p:=⟨bb,o+k,none⟩) hbn).trans (by have:=hcell k x hx 0 _ rfl;simpa using this);have k0:(0:Int)≤(k:Int):=by omega
     have k1:(k:Int)<(ss.length:Int):=by omega
     have hkey:keyOf Tryz.prog 3 (.int .i64 x)=some (.int .i64 x):=keyOf_int_mk bp (HSM2.out x (az hx));obtain⟨c,hlook,hat,-⟩:=HMr.out.lookup_int nW Tryz.underlying186 bp (mK _) hkey;have HC:Hid (chg l i x=c):=aa (HLM.out.val (HSM2.out x (az hx)) hat);have HTK:Hid (ss.take (k+1)=ss.take k++[x]):=aa (by rw[aN,hx];rfl);have hSc:wrap64 (S+c)=S+c:=HLM.out.sum HPS.out.2 HC.out (by omega) (by rw[aS];omega);have hSc2:IntKind.i64.wrap (S+c)=S+c:=(ax _).trans (by unfold wrap64 at hSc;omega);clear hcell hx hat;by_cases z:c=0
     ·have dz:(c==0)=true:=by rw[beq_iff_eq];exact z
      have HZ:=aa z;clear z;go_wp2
      go_roundw
      case rel=>exact⟨k+1,P,S,by omega,by go_num,rfl,aa (by rw[HTK.out,ix,i8,HC.out,HZ.out,if_pos rfl];exact⟨HPS.out.1,by rw[Int.add_zero];exact HPS.out.2⟩),by omega,HO,hB⟩
      case measure=>simp[intOf];omega
     ·have dz:(c==0)=false:=by rw[beq_eq_false_iff_ne];exact z
      have HZ:=aa z;clear z;go_wp2_with (at_builtin;refine dK _ rfl _ _ _ rfl w5.heap.size 185 i0 _ 2 16 Tryz.underlying136 hin hz0 hz1 hz2 rfl (by omega) (.slice pa P.length pc) P.length (sps P) rfl (cV HO.out (fun q hq=>ak _ _ _ (HO.out.lt q hq).2)) ⟨wr.heap.size,0,none⟩ 1 1 (spC (x,S+c)) rfl rfl (dI cW) (by simp[spC,Value.oneCell']) (by simp only[maxLen];omega) (by omega) (by simp;omega) (by omega) ?_;intro vo w9 ho9 hg9 hf9)
      have hB9:Below w5.heap.size w5 w9:=Below.grown (balloc hB hsr2) hg9 (by simp;omega) (fun q hq=>(HO.out.lt q hq).1);have HO9:=aa ho9;clear ho9 hg9 hf9 hlook;go_wp2
      go_roundw
      case rel=>exact⟨k+1,P++[(x,S+c)],S+c,by omega,by go_num,by go_num,aa (by rw[HTK.out,ix,i8,HC.out,if_neg HZ.out,←HPS.out.2,←HPS.out.1,Int.zero_add];exact⟨rfl,rfl⟩),by simp;omega,aa (by rw[ay,gn];simpa [sps]using HO9.out),hB9⟩
      case measure=>simp[intOf];omega
    ·obtain rfl:k=ss.length:=by omega
     go_wp2
     go_ret
     exact⟨_,P,rfl,RSps.of_own HO.out,by omega,(gx HO.out).le (by have:=hB5.size;omega),(by rw[HPS.out.1,aL];exact LvlOK.mk' (fun h hh=>(HV.out h hh).1.2.1) HLT.out HFM.out (fun x hx=>HTB.out x ((HSS.out x).1 hx))),hB5.trans (hB.mono hB5.size)⟩
end
end Go.Proofs.YtfnciigbbolckaaGreat
