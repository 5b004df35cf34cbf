/- Part 27 of the proof about mailboattop.TopOthers. No condition. -/
import Derived.Test.YtfnciigbbolckaaGreatQ00
import Derived.Test.YtfnciigbbolckaaGreatQ16
import Derived.Test.YtfnciigbbolckaaGreatQ21
import Derived.Test.YtfnciigbbolckaaGreatQ26
set_option linter.unusedVariables false
set_option linter.unusedSimpArgs false
set_option maxRecDepth 100000
set_option maxHeartbeats 64000000
namespace Go.Proofs.YtfnciigbbolckaaGreat
attribute [local go_sem] Oper.semAt_some
attribute [local go_sem] pw gu B_app pv B_get B_toList
section
open Go Go.RowKit Iv Go.Shelf
theorem infoLbl:(Tryz.prog.info? 153).map (fun i=>(i.zero,i.size,i.bytes))=some (some (.agg #[.int .i64 0,.int .i64 0,.int .i64 0,.int .i64 0]),4,32):=by kernel_rfl
structure LS (w w2:World) (gB dB oB:Nat) (vd vo:Value) (D O:List Lbl) (W:World):Prop where
 gb:W.heap[w.heap.size]? =some (.cells #[.pointer (some ⟨gB,0,none⟩)] 147 (0,0))
 bd:W.heap[dB]? =some (.cells #[vd] 62 (0,0))
 bo:W.heap[oB]? =some (.cells #[vo] 62 (0,0))
 od:W.ownsRow w2.heap.size 153 4 vd D.length (lbs D)
 oo:W.ownsRow w2.heap.size 153 4 vo O.length (lbs O)
 ne:∀q,vd.ownBlock=some q→vo.ownBlock≠some q
 bel:Below w.heap.size w W
 sz:w2.heap.size≤W.heap.size
theorem LS.stay {w w2:World} {gB dB oB:Nat} {vd vo:Value} {D O:List Lbl} {W W':World} (h:LS w w2 gB dB oB vd vo D O W) (k:Below W.heap.size W W'):LS w w2 gB dB oB vd vo D O W':=
 ⟨(k.block _ (ai.1 h.gb).1).trans h.gb,(k.block _ (ai.1 h.bd).1).trans h.bd,(k.block _ (ai.1 h.bo).1).trans h.bo,cV h.od (fun q hq=>k.block q (h.od.lt q hq).2),cV h.oo (fun q hq=>k.block q (h.oo.lt q hq).2),h.ne,h.bel.trans (k.mono h.bel.size),aK h.sz k.size⟩
theorem LS.pushO {w w2:World} {gB dB oB:Nat} {vd vo v':Value} {D O:List Lbl} {W W1:World} (h:LS w w2 gB dB oB vd vo D O W) (x:Lbl) (hz:w.heap.size<dB∧dB<oB∧oB<w2.heap.size) (ho:W1.ownsRow w2.heap.size 153 4 v' (O.length+1) (lbs O++lblC x)) (hg:W.grownBy W1 vo.ownBlock) (hf:v'.ownBlock=vo.ownBlock∨v'.ownBlock=some W.heap.size):
  LS w w2 gB dB oB vd v' D (O++[x]) (W1.setCell ⟨oB,0,none⟩ v'):=by
 have hsz:=h.sz;have hvo:∀q,vo.ownBlock=some q→w2.heap.size≤q:=fun q hq=>(h.oo.lt q hq).1
 have hk:∀q,q<W.heap.size→vo.ownBlock≠some q→q≠oB→∀u:Value,(W1.setCell ⟨oB,0,none⟩ u).heap[q]? =W.heap[q]?:=fun q hq n1 n2 u=>(bD _ _ _ _ n2).trans (hg.block q hq (fun e=>n1 e.symm))
 have hB1:Below w.heap.size w W1:=h.bel.grown hg h.bel.size (fun q e=>by have:=hvo q e;omega);refine⟨(hk _ (by omega) (fun e=>by have:=hvo _ e;omega) (by omega) _).trans h.gb,(hk _ (by omega) (fun e=>by have:=hvo _ e;omega) (by omega) _).trans h.bd,?_,cV h.od (fun q hq=>hk q (h.od.lt q hq).2 (h.ne q hq) (by have:=(h.od.lt q hq).1;omega) _),?_,fun q hq=>?_,hB1.trans (bset (ap _ _) (by show w.heap.size≤oB;omega)),?_⟩
 ·exact eD ((hg.block oB (by omega) (fun e=>by have:=hvo _ e.symm;omega)).trans h.bo) 0 v'
 ·rw[ay,mA]
  exact cV ho (fun q hq=>bD _ _ _ _ (show q≠oB by have:=(ho.lt q hq).1;omega))
 ·rcases hf with e | e
  ·rw[e];exact h.ne q hq
  ·rw[e];intro e';injection e' with e';have:=(h.od.lt q hq).2;omega
 ·have:=hg.size;simp;omega
theorem LS.pushD {w w2:World} {gB dB oB:Nat} {vd vo v':Value} {D O:List Lbl} {W W1:World} (h:LS w w2 gB dB oB vd vo D O W) (x:Lbl) (hz:w.heap.size<dB∧dB<oB∧oB<w2.heap.size) (ho:W1.ownsRow w2.heap.size 153 4 v' (D.length+1) (lbs D++lblC x)) (hg:W.grownBy W1 vd.ownBlock) (hf:v'.ownBlock=vd.ownBlock∨v'.ownBlock=some W.heap.size):
  LS w w2 gB dB oB v' vo (D++[x]) O (W1.setCell ⟨dB,0,none⟩ v'):=by
 have hsz:=h.sz;have hvd:∀q,vd.ownBlock=some q→w2.heap.size≤q:=fun q hq=>(h.od.lt q hq).1
 have hk:∀q,q<W.heap.size→vd.ownBlock≠some q→q≠dB→∀u:Value,(W1.setCell ⟨dB,0,none⟩ u).heap[q]? =W.heap[q]?:=fun q hq n1 n2 u=>(bD _ _ _ _ n2).trans (hg.block q hq (fun e=>n1 e.symm))
 have hB1:Below w.heap.size w W1:=h.bel.grown hg h.bel.size (fun q e=>by have:=hvd q e;omega);refine⟨(hk _ (by omega) (fun e=>by have:=hvd _ e;omega) (by omega) _).trans h.gb,?_,(hk _ (by omega) (fun e=>by have:=hvd _ e;omega) (by omega) _).trans h.bo,?_,cV h.oo (fun q hq=>hk q (h.oo.lt q hq).2 (fun e=>h.ne q e hq) (by have:=(h.oo.lt q hq).1;omega) _),fun q hq hq2=>?_,hB1.trans (bset (ap _ _) (by show w.heap.size≤dB;omega)),?_⟩
 ·exact eD ((hg.block dB (by omega) (fun e=>by have:=hvd _ e.symm;omega)).trans h.bd) 0 v'
 ·rw[ay,mA]
  exact cV ho (fun q hq=>bD _ _ _ _ (show q≠dB by have:=(ho.lt q hq).1;omega))
 ·rcases hf with e | e
  ·rw[e]at hq;exact h.ne q hq hq2
  ·rw[e]at hq;injection hq with hq;have:=(h.oo.lt q hq2).2;omega
 ·have:=hg.size;simp;omega
theorem LS.growO {w w2:World} {gB dB oB:Nat} {vd vo:Value} {D O:List Lbl} {W W1:World} (h:LS w w2 gB dB oB vd vo D O W) (hz:w.heap.size<dB∧dB<oB∧oB<w2.heap.size) (hg:W.grownBy W1 vo.ownBlock):W1.heap[oB]? =some (.cells #[vo] 62 (0,0)):=
 (hg.block oB (by have:=h.sz;omega) (fun e=>by have:=(h.oo.lt _ e.symm).1;omega)).trans h.bo
theorem LS.growD {w w2:World} {gB dB oB:Nat} {vd vo:Value} {D O:List Lbl} {W W1:World} (h:LS w w2 gB dB oB vd vo D O W) (hz:w.heap.size<dB∧dB<oB∧oB<w2.heap.size) (hg:W.grownBy W1 vd.ownBlock):W1.heap[dB]? =some (.cells #[vd] 62 (0,0)):=
 (hg.block dB (by have:=h.sz;omega) (fun e=>by have:=(h.od.lt _ e.symm).1;omega)).trans h.bd
theorem LS.del {w w2:World} {gB dB oB gO:Nat} {vd vo v':Value} {D O O':List Lbl} {W W1:World} (h:LS w w2 gB dB oB vd vo D O W) (hz:w.heap.size<dB∧dB<oB∧oB<w2.heap.size) (hv:vo.ownBlock=some gO) (hv':v'.ownBlock=some gO) (ho:W1.ownsRow w2.heap.size 153 4 v' O'.length (lbs O')) (hk:∀q,q<W.heap.size→q≠gO→W1.heap[q]? =W.heap[q]?) (hb:Below w2.heap.size W W1):
  LS w w2 gB dB oB vd v' D O' (W1.setCell ⟨oB,0,none⟩ v'):=by
 have hsz:=h.sz;have hg:=h.oo.lt gO hv;have hbs:=hb.size;have hkk:∀q,q<W.heap.size→q≠gO→q≠oB→∀u:Value,(W1.setCell ⟨oB,0,none⟩ u).heap[q]? =W.heap[q]?:=fun q hq n1 n2 u=>(bD _ _ _ _ n2).trans (hk q hq n1)
 refine⟨(hkk _ (by omega) (by omega) (by omega) _).trans h.gb,(hkk _ (by omega) (by omega) (by omega) _).trans h.bd,eD ((hk oB (by omega) (by omega)).trans h.bo) 0 v',cV h.od (fun q hq=>hkk q (h.od.lt q hq).2 (fun e=>h.ne q hq (by rw[hv,e])) (by have:=(h.od.lt q hq).1;omega) _),cV ho (fun q hq=>bD _ _ _ _ (show q≠oB by have:=(ho.lt q hq).1;omega)),fun q hq=>by rw[hv',←hv];exact h.ne q hq,(h.bel.trans (hb.mono (by omega))).trans (bset (ap _ _) (by show w.heap.size≤oB;omega)),by simp;omega⟩
def lenAt (W:World) (b:Nat):Nat:=match W.cell? ⟨b,0,none⟩with | some (.slice _ n _)=>n | _=>0
theorem LS.lenD {w w2:World} {gB dB oB:Nat} {vd vo:Value} {D O:List Lbl} {W:World} (h:LS w w2 gB dB oB vd vo D O W):lenAt W dB=D.length:=by
 obtain⟨a,c,e⟩:=dg h.od;unfold lenAt;rw[cU h.bd,e];rfl
theorem MarkOK.keep {B:Nat} {W W':World} {ds:List Deferred} (h:MarkOK B W ds) (k:∀(q:Nat) (o:Option (List Deferred)),W.heap[q]? =some (.deferred o)→W'.heap[q]? =some (.deferred o)):MarkOK B W' ds:=by
 obtain⟨Ds,e,hn,hd⟩:=h;exact⟨Ds,e,hn,fun D hD=>⟨(hd D hD).1,k D _ (hd D hD).2⟩⟩
theorem eX {w:World} {base n size:Nat} {e:TypeId} {v:Value} {xs:List Value} (h:w.ownsRow base e size v n xs) {g:Nat} (hv:v.ownBlock=some g):∃cs,w.heap[g]? =some (.cells cs e (0,0)):=by
 rcases h.2 with⟨rfl,_⟩ | ⟨g',cap,cur,rfl,_,hh,_⟩
 ·cases hv
 ·injection hv with hv
  subst hv;exact⟨cur,hh⟩
theorem LS.own {w w2:World} {gB dB oB C:Nat} {vd vo:Value} {D O:List Lbl} {W W':World} {row:Option Nat} (h:LS w w2 gB dB oB vd vo D O W) (hC:w.heap.size≤C) (hg:W.grownBy W' row) (hr:∀r,row=some r→C≤r∧∃o:Obj,W.heap[r]? =some o∧o.isCells=false):LS w w2 gB dB oB vd vo D O W':=by
 have hk:∀(v:Value) (xs:List Value) (n:Nat),W.ownsRow w2.heap.size 153 4 v n xs→W'.ownsRow w2.heap.size 153 4 v n xs:=fun v xs n ho=>cV ho (fun q hq=>by
  obtain⟨cs,hh⟩:=eX ho hq;rw[iS hg hr _ _ _ _ hh,hh])
 exact⟨iS hg hr _ _ _ _ h.gb,iS hg hr _ _ _ _ h.bd,iS hg hr _ _ _ _ h.bo,hk _ _ _ h.od,hk _ _ _ h.oo,h.ne,h.bel.grown hg h.bel.size (fun q e=>by have:=(hr q e).1;omega),aK h.sz hg.size⟩
structure RL (w w2 w9:World) (gB dB oB Z:Nat) (vd vo:Value) (D O:List Lbl) (W:World):Prop where
 ls:LS w w2 gB dB oB vd vo D O W
 dk:∀(q:Nat) (o:Option (List Deferred)),w9.heap[q]? =some (.deferred o)→W.heap[q]? =some (.deferred o)
 nz:∀q,vo.ownBlock=some q→q≠Z∧q≠Z+1
 sz:w9.heap.size≤W.heap.size
theorem RL.own {w w2 w9:World} {gB dB oB Z:Nat} {vd:Value} {D:List Lbl} {α:Type} {f:α→List Lbl} (h2:w.heap.size≤w9.heap.size):OwnFrom w9.heap.size (fun(x:α) W=>∃vo,RL w w2 w9 gB dB oB Z vd vo D (f x) W):=fun x A C row hs hg hr=>by
 obtain⟨vo,h⟩:=hs;exact⟨vo,h.ls.own h2 hg hr,fun q o ho=>(hg.block q (ai.1 (h.dk q o ho)).1 (fun e=>by have h1:=(hr q e.symm).1;have h3:=(ai.1 ho).1;omega)).trans (h.dk q o ho),h.nz,aK h.sz hg.size⟩
theorem RL.stay {w w2 w9:World} {gB dB oB Z:Nat} {vd vo:Value} {D O:List Lbl} {W W':World} (h:RL w w2 w9 gB dB oB Z vd vo D O W) (k:Below W.heap.size W W'):RL w w2 w9 gB dB oB Z vd vo D O W':=
 ⟨h.ls.stay k,fun q o ho=>(k.block q (ai.1 (h.dk q o ho)).1).trans (h.dk q o ho),h.nz,aK h.sz k.size⟩
theorem nm {F:Fence} {n:Nat} {P:Program} {Q:Exit→Act→World→Prop} {S:World→Prop} {kd:List Nat} {l rl:List Oper} {i:Nat} {r:List Nat} {o:Oper} {a:Act} {w:World} (hd:l.drop i=o::rl) (hk:kd.getD i 2=3) (hw:Region.wanted o (yielded l.toArray a.tmps)=false)
  (hf:∀f,F.fn f) (h:wpPlanIn F n P l.toArray Q S kd r (a.put o.dst undef) w):wpPlanIn F n P l.toArray Q S kd (i::r) a w:=by
 have ho:=eq hd;unfold wpPlanIn;rw[ho];simp only;rw[if_neg (by omega),if_neg (by omega)];unfold wpOpIn;simp only[ho,hw];exact⟨fun f _=>hf f,h⟩
theorem RL.push {w w2 w9:World} {gB dB oB Z:Nat} {vd vo v':Value} {D O:List Lbl} {W W1:World} (h:RL w w2 w9 gB dB oB Z vd vo D O W) (x:Lbl) (hz:w.heap.size<dB∧dB<oB∧oB<w2.heap.size) (hZ:w2.heap.size≤Z) (hZ9:Z+2≤w9.heap.size) (ho:W1.ownsRow w2.heap.size 153 4 v' (O.length+1) (lbs O++lblC x)) (hg:W.grownBy W1 vo.ownBlock) (hf:v'.ownBlock=vo.ownBlock∨v'.ownBlock=some W.heap.size):
  RL w w2 w9 gB dB oB Z vd v' D (O++[x]) (W1.setCell ⟨oB,0,none⟩ v')∧KeepsFrom w9.heap.size W (W1.setCell ⟨oB,0,none⟩ v')∧KpP w.heap.size Z (Z+1) W (W1.setCell ⟨oB,0,none⟩ v'):=by
 have hsz:=h.sz;have hs2:=h.ls.sz;have hbs:=h.ls.bel.size;have hgs:=hg.size;have hk:∀q,q<W.heap.size→vo.ownBlock≠some q→q≠oB→∀u:Value,(W1.setCell ⟨oB,0,none⟩ u).heap[q]? =W.heap[q]?:=fun q hq n1 n2 u=>(bD _ _ _ _ n2).trans (hg.block q hq (fun e=>n1 e.symm))
 have hnc:∀q (o:Obj),W.heap[q]? =some o→o.isCells=false→vo.ownBlock≠some q∧q≠oB:=by
  intro q o hq hc;constructor
  ·intro e
   obtain⟨_,hh⟩:=eX h.ls.oo e;rw[hh]at hq;injection hq with hq
   subst hq
   cases hc
  ·intro e
   subst e;rw[h.ls.bo]at hq;injection hq with hq
   subst hq
   cases hc
 refine⟨⟨h.ls.pushO x hz ho hg hf,fun q o hq=>?_,fun q hq=>?_,by simp;omega⟩,⟨by simp;omega,fun q o hC hq hc=>?_⟩,⟨by simp;omega,fun q cs e f hq hp=>?_⟩⟩
 ·have h1:=h.dk q o hq
  obtain⟨n1,n2⟩:=hnc q _ h1 rfl;exact(hk q (ai.1 h1).1 n1 n2 _).trans h1
 ·rcases hf with e | e
  ·exact h.nz q (by rw[←e];exact hq)
  ·rw[e]at hq
   injection hq with hq
   omega
 ·obtain⟨n1,n2⟩:=hnc q _ hq hc
  exact(hk q (ai.1 hq).1 n1 n2 _).trans hq
 ·refine(hk q (ai.1 hq).1 (fun e1=>?_) (fun e1=>?_) _).trans hq
  ·have hl:=h.ls.oo.lt q e1
   have hn:=h.nz q e1;obtain⟨_,hh⟩:=eX h.ls.oo e1;rw[hh]at hq;injection hq with hq
   injection hq with h1 h2 h3
   subst h2;rcases hp with h | h | h | h | h | h
   ·omega
   ·omega
   ·omega
   all_goals exact absurd h (by decide)
  ·subst e1
   rw[h.ls.bo]at hq;injection hq with hq
   injection hq with h1 h2 h3
   subst h2;rcases hp with h | h | h | h | h | h
   ·omega
   ·omega
   ·omega
   all_goals exact absurd h (by decide)
theorem ig (g:Gp) (hg:GOK g) (gB:Nat) (w:World) (h:Gr w gB g) (hne:g.src≠g.dst):
  Calls Tryz.prog 77 #[.pointer (some ⟨gB,0,none⟩)] w fun e w'=>∃(D:List Lbl) (v:Value),e= .returned v∧RRow lblC 4 w' w'.heap.size v D∧LabOK g D∧Below w.heap.size w w':=by
 refine(callsIn_wide (n:=12)).1 ?_
 refine callsIn_of_wp_marks Tryz.func77 rfl trivial ?_ rfl
 simp only[Tryz.ntmps77,bJ,aI,bE,Nat.reduceAdd,Nat.reduceSub,bS,bT,cH,bW,br,a8];refine wpIn_wide.2 ?_
 have HG:=aa hg;have HGR:=aa h;have hgl:=h.lt;obtain⟨i0,hin,hz0,hz1,hz2⟩:=info_parts infoLbl;have HIN:=aa (cS hin (cS hz0 (cS hz1 hz2)));clear hg h hin hz0 hz1 hz2;go_upto_region 2 with fail
 obtain⟨w2,hw2⟩:=cR (((w.alloc (.cells #[.pointer (some ⟨gB,0,none⟩)] 147)).alloc (.cells #[.slice none 0 0] 62)).alloc (.cells #[.slice none 0 0] 62))
 rw[hw2];have X0:w2.heap[w.heap.size]? =some (.cells #[.pointer (some ⟨gB,0,none⟩)] 147 (0,0)):=by rw[←hw2];exact(by repeat (first | exact cY (by first | rfl | (simp;done)) | refine(ak _ _ _ (by first | (simp;done) | (simp;omega))).trans ?_))
 have X1:w2.heap[w.heap.size+1]? =some (.cells #[.slice none 0 0] 62 (0,0)):=by rw[←hw2];exact(ak _ _ _ (by simp)).trans (cY (by simp))
 have X2:w2.heap[w.heap.size+1+1]? =some (.cells #[.slice none 0 0] 62 (0,0)):=by rw[←hw2];exact cY (by simp)
 have B2:Below w.heap.size w w2:=by rw[←hw2];exact cZ
 have z2:w.heap.size+1+1<w2.heap.size:=by rw[←hw2];simp
 obtain⟨dB,hdB⟩:=cR (w.heap.size+1)
 rw[hdB]at X1 X2 z2 ⊢;obtain⟨oB,hoB⟩:=cR (dB+1)
 rw[hoB]at X2 z2 ⊢;have HLS0:LS w w2 gB dB oB (.slice none 0 0) (.slice none 0 0) [] [] w2:=⟨X0,X1,X2,⟨rfl,.inl ⟨rfl,rfl⟩⟩,⟨rfl,.inl ⟨rfl,rfl⟩⟩,fun q h=>(by cases h),B2,aj _⟩
 clear hw2 X0 X1 X2 B2;obtain⟨uq,uc,ub,uh,ug,ur,ud,g1,-,-,g4,-⟩:=HGR.out.box;have hbw2:=HLS0.bel;obtain⟨a,c,rfl,e1,e2,e3⟩:=g4;obtain⟨bR,oR,rfl,hbR,hcR⟩:=e3 (by have:=HG.out.s0;omega);obtain⟨n,hn⟩:=bh HG.out.s0.1;have hnl:n<g.R.length:=by have:=HG.out.s0.2;omega
 obtain⟨l,hl⟩:∃l,g.R[n]? =some l:=⟨_,am hnl⟩
 obtain⟨u,hu,hru⟩:=hcR n l hl;have hrs:=HG.out.rs l (az hl);have HRS:=aa hrs.2;have hll:=hrs.1;have HL:Hid (g.R.getD g.src.toNat []=l):=aa (by rw[hn,bN,aJ,hl];rfl);have HN:=aa hn;have HRU:=aa hru;obtain⟨la,lc,rfl,l1,l2,-,-⟩:=hru;unfold maxLen at l2 e2;have cg:=fun q=>(hbw2.cell (p:=⟨gB,q,none⟩) hgl).trans (cU g1 q)
 have hu:=(hbw2.cell (p:=⟨bR,oR+n,none⟩) hbR).trans hu;have c0:=cU HLS0.gb 0;have hg2:gB<w2.heap.size:=by omega
 have n0:(0:Int)≤(n:Int):=by omega
 have n1:(n:Int)<(g.R.length:Int):=by omega
 have hsrc:g.src=(n:Int):=hn;have HLS:=aa HLS0;clear hcR hl hrs e3 g1 HLS0 hn hbw2;rw[hsrc]at cg;clear hsrc;go_quiet (fail)
 obtain⟨w3,hw3⟩:=cR (w2.drewN nq)
 rw[hw3];have HLS3:Hid (LS w w2 gB dB oB (.slice none 0 0) (.slice none 0 0) [] [] w3):=aa (HLS.out.stay (by rw[←hw3];exact eu (ap _ _) _));clear hw3 cg c0 hu;go_wp2_with fail
 go_loopw [21] (fun kv wr=>∃(k:Nat) (vo:Value),k≤l.length∧kv= .int .i64 (k:Int)∧Hid (LS w w2 gB dB oB (.slice none 0 0) vo [] (begL g (l.take k)) wr)) (fun kv _=>l.length-(intOf kv).toNat)
 case atStart=>exact⟨0,_,aE _,rfl,HLS3⟩
 case round=>
  obtain⟨k,vo,hk,rfl,HS⟩:=hrel;by_cases hlt:k<l.length
  ·obtain⟨r,hr⟩:∃r,l[k]? =some r:=⟨_,am hlt⟩
   obtain⟨a',c',e',-,-,-,h4⟩:=HRU.out.below (C:=w.heap.size) HS.out.bel (aj _) HS.out.bel.size;obtain⟨rb,ro,e2',hrb,hrc⟩:=h4 (by omega);have e3':la=some ⟨rb,ro,none⟩:=by injection e' with q1 q2 q3;rw[q1,e2']
   subst e3';have q0:=sp0 hrc hr;have q1:=sp1 hrc hr;have hro:=HRS.out r (az hr);unfold spOK at hro;have HR:=aa hr;have HSN:Hid (begL g (l.take (k+1))=if begB g r then begL g (l.take k)++[⟨g.src,r.1,r.2,g.rd⟩]else begL g (l.take k)):=aa (by rw[aN,hr];exact qd _ _ _);have k0:(0:Int)≤(k:Int):=by omega
   have kk1:(k:Int)<(l.length:Int):=by omega
   clear hr e' e2' h4 hrc;go_upto_region 5 with fail
   obtain⟨w4,hw4⟩:=cR (wr.alloc (.cells #[.int .i64 r.1,.int .i64 r.2] 86))
   rw[hw4];have hb4:Below wr.heap.size wr w4:=by rw[←hw4];exact de (ap _ _)
   have XR:Hid (w4.heap[wr.heap.size]? =some (.cells #[.int .i64 r.1,.int .i64 r.2] 86 (0,0))):=aa (by rw[←hw4];exact cW);have zr4:wr.heap.size<w4.heap.size:=by rw[←hw4];simp
   obtain⟨rB,hrB⟩:=cR wr.heap.size
   have HRB:=aa hrB;have HS4:=aa (HS.out.stay hb4);rw[hrB]at XR zr4 ⊢;clear hw4 hrB hb4 q0 q1;obtain⟨vq,vc,vb,vh,vg,vr,vd,G1,-⟩:=(HGR.out.ck (CK.of HS4.out.bel)).box;have hg4:gB<w4.heap.size:=(ai.1 G1).1;have cg:=fun q=>cU G1 q
   have c0:=cU HS4.out.gb 0;have cr:=fun q=>cU XR.out q
   have co:=cU HS4.out.bo 0;have fo:=dC HS4.out.bo 0;clear G1;by_cases y0:r.1≤g.rd
   case neg=>
    have d0:decide (r.1≤g.rd)=false:=decide_eq_false y0;have HE:Hid (begL g (l.take (k+1))=begL g (l.take k)):=aa (by rw[HSN.out];unfold begB;rw[d0];rfl);clear y0;go_quiet (fail)
    go_wp2
    go_roundw
    case rel=>exact⟨k+1,_,by omega,by go_num,aa (by rw[HE.out];exact HS4.out.stay (eu (ap _ _) _))⟩
    case measure=>simp[intOf];omega
   have d0:decide (r.1≤g.rd)=true:=decide_eq_true y0;by_cases y1:g.rd<r.2
   case neg=>
    have d1:decide (g.rd<r.2)=false:=decide_eq_false y1;have HE:Hid (begL g (l.take (k+1))=begL g (l.take k)):=aa (by rw[HSN.out];unfold begB;rw[d0,d1];rfl);clear y0 y1;go_quiet (fail)
    go_wp2
    go_roundw
    case rel=>exact⟨k+1,_,by omega,by go_num,aa (by rw[HE.out];exact HS4.out.stay (eu (ap _ _) _))⟩
    case measure=>simp[intOf];omega
   have d1:decide (g.rd<r.2)=true:=decide_eq_true y1;have HE:Hid (begL g (l.take (k+1))=begL g (l.take k)++[⟨g.src,r.1,r.2,g.rd⟩]):=aa (by rw[HSN.out];unfold begB;rw[d0,d1];rfl);have hol:(begL g (l.take k)).length≤1100:=by
    unfold begL;rw[aZ];have h1:=bn (begB g) (l.take k);rw[aS]at h1;omega
   clear y0 y1;go_quiet (fail)
   obtain⟨w5,hw5⟩:=cR (w4.drewN nq)
   rw[hw5];have hb5:Below w4.heap.size w4 w5:=by rw[←hw5];exact eu (ap _ _) _
   have HS5:=aa (HS4.out.stay hb5);have cg5:=fun q=>(hb5.cell (p:=⟨gB,q,none⟩) hg4).trans (cg q)
   have c05:=cU HS5.out.gb 0;have cr5:=fun q=>cU ((hb5.block _ zr4).trans XR.out) q
   have co5:=cU HS5.out.bo 0;clear hw5 hb5 cg c0 cr co fo;go_wp2_with fail
   refine dd (fun V=>V.cell? ⟨oB,0,none⟩=some vo∧V.cell? ⟨w.heap.size,0,none⟩=some (.pointer (some ⟨gB,0,none⟩))∧(∀q,V.cell? ⟨gB,q,none⟩=(#[vq,vc,vb,vh,.int .i64 g.src,.int .i64 g.dst,.int .i64 g.sz,.int .i64 g.rd,.int .i64 g.D,.int .i64 g.pr,.bool g.cu,vg,vr,vd])[q]?)∧(∀q,V.cell? ⟨rB,q,none⟩=(#[.int .i64 r.1,.int .i64 r.2])[q]?)) [1,1,0,0,0,1,0,1,0,1,1,0,0,0,1,0,2,3,3] [0,1,2,3,4,5,6,7,8,9,10,11,12,13,14,15,16,17,18] (by kernel_rfl) (by kernel_rfl) ?_ ?_
   case refine_1=>exact⟨co5,c05,cg5,cr5⟩
   (iterate 16 (refine cX rfl (by decide) (by rfl) (fun w1 hS=>by(try(have hS:=hS rfl;obtain hS:=hS;repeat (obtain⟨_,hS⟩:=hS)));go_simp;rfl) ?_;simp only[Act.put,ae,af,ag]))
   (refine dA rfl rfl (by rfl) (fun K hK=>?_);go_simp)
   obtain⟨w6,hw6⟩:=cR ((w5.alloc (.cells #[.int .i64 g.src,.int .i64 r.1,.int .i64 r.2,.int .i64 g.rd] 153)).drew)
   rw[hw6];have X6:w6.heap[w5.heap.size]? =some (.cells (lblC ⟨g.src,r.1,r.2,g.rd⟩).toArray 153 (0,0)):=by rw[←hw6];exact cW
   have hb6:Below w5.heap.size w5 w6:=by rw[←hw6];exact bdrew (de (ap _ _))
   have HS6:=aa (HS5.out.stay hb6);have zg5:gB<w5.heap.size:=by have:=HS5.out.bel.size;omega
   have zr5:rB<w5.heap.size:=by
    rcases bq rB w5.heap.size with h | h
    ·exact h
    ·have:=cr5 0
     rw[World.cell?,bQ h]at this
     cases this
   have co6:=cU HS6.out.bo 0;have c06:=cU HS6.out.gb 0;have cg6:=fun q=>(hb6.cell (p:=⟨gB,q,none⟩) zg5).trans (cg5 q)
   have cr6:=fun q=>(hb6.cell (p:=⟨rB,q,none⟩) zr5).trans (cr5 q)
   clear hw6 hb6 co5 c05 cg5 cr5
   (refine hK _ _ (by exact⟨co6,c06,cg6,cr6⟩) ?_;clear hK K;(try simp only[Act.put,ae,af,ag]))
   clear co6 c06 cg6 cr6;refine di rfl rfl (by rfl) (fun K hK=>?_)
   refine dW _ _ _ _ rfl w2.heap.size 153 i0 _ 4 32 Tryz.underlying62 HIN.out.1 HIN.out.2.1 HIN.out.2.2.1 HIN.out.2.2.2 rfl (by omega) vo (begL g (l.take k)).length (lbs (begL g (l.take k))) rfl HS6.out.oo ⟨w5.heap.size,0,none⟩ 1 1 (lblC ⟨g.src,r.1,r.2,g.rd⟩) rfl rfl (dI X6) (by simp[lblC,Value.oneCell']) (by simp only[maxLen];omega) (by omega) HS6.out.sz (by omega) ?_
   intro v' w7 ho7 hg7 hf7;obtain⟨a7,c7,rfl⟩:=dg ho7;have hzz:w.heap.size<dB∧dB<oB∧oB<w2.heap.size:=by omega
   have X7:=HS6.out.growO hzz hg7;have HP:=aa (HS6.out.pushO _ hzz ho7 hg7 hf7);have co7:=cU X7 0;have fo7:=dC X7 0;clear ho7 hg7 hf7 X6 X7
   (refine hK _ _ ?_;clear hK K;(try simp only[Act.put,ae,af,ag]))
   (refine di rfl rfl (by rfl) (fun K hK=>?_);go_simp)
   (refine hK _ _ ?_;clear hK K;(try simp only[Act.put,ae,af,ag]))
   refine du ?_
   clear co7 fo7;go_wp2
   go_roundw
   case rel=>exact⟨k+1,_,by omega,by go_num,aa (by rw[HE.out];exact HP.out)⟩
   case measure=>simp[intOf];omega
  ·obtain rfl:k=l.length:=by omega
   have HLI:Hid (LI g [] (begL g (l.take l.length))):=aa (by rw[aL,←HL.out];exact LI.start HG.out);have hzz:w.heap.size<dB∧dB<oB∧oB<w2.heap.size:=by omega
   go_wp2_with fail
   refine wp_loop (fun ac W=>∃(D O:List Lbl) (vd vo:Value) (ds:List Deferred) (v7 v62 v63 v64 v65 v66 v67 v68 v69 v70 v71 v72 v73 v74 v75 v76:Value),ac={tmps:=#[.pointer (some ⟨gB,0,none⟩),.pointer (some ⟨w.heap.size,0,none⟩),.slice none 0 0,.pointer (some ⟨dB,0,none⟩),.pointer (some ⟨oB,0,none⟩),undef,u6,v7,undef,.pointer (some ⟨gB,0,none⟩),.pointer (some ⟨gB,0,none⟩),.pointer (some ⟨gB,12,none⟩),.slice (some ⟨bR,oR,none⟩) g.R.length c,.pointer (some ⟨gB,0,none⟩),.pointer (some ⟨gB,0,none⟩),.pointer (some ⟨gB,4,none⟩),.pointer (some ⟨gB,4,none⟩),.int .i64 (n:Int),.pointer (some ⟨bR,oR+n,none⟩),.slice la l.length lc,.int .i64 (l.length:Int),.int .i64 (l.length:Int),.bool false,u23,u24,u25,u26,u27,u28,u29,u30,u31,u32,u33,u34,u35,u36,u37,u38,u39,u40,u41,u42,u43,u44,u45,u46,u47,u48,u49,u50,u51,u52,u53,u54,u55,u56,u57,u58,u59,u60,u61,v62,v63,v64,v65,v66,v67,v68,v69,v70,v71,v72,v73,v74,v75,v76,undef,undef,undef,undef,undef,undef,undef,undef,undef,undef,undef,undef,undef,undef,undef,undef,undef,undef,undef,undef,undef,undef,undef,undef],defers:=ds}∧LI g D O∧LS w w2 gB dB oB vd vo D O W∧MarkOK w2.heap.size W ds) (fun ac W=>(univ g).length - lenAt W dB) ⟨[],_,_,_,[],_,_,_,_,_,_,_,_,_,_,_,_,_,_,_,_,rfl,HLI.out,HS.out,⟨[],rfl,List.nodup_nil,fun D hD=>by cases hD⟩⟩ ?_
   rintro ac wr ⟨D,O,vd,vo,ds,v7,v62,v63,v64,v65,v66,v67,v68,v69,v70,v71,v72,v73,v74,v75,v76,rfl,hLI,hLS,hM⟩;have HLI:=aa hLI;have HS:=aa hLS;have HM:=aa hM;have hsz:=hLS.sz;have hol:=hLI.olen HG.out;obtain⟨ao,co_,rfl⟩:=dg hLS.oo;obtain⟨ad,cd_,rfl⟩:=dg hLS.od;have co:=cU hLS.bo 0;have cd:=cU hLS.bd 0;clear hLI hLS hM;by_cases hp:0<O.length
   ·have dp:decide ((O.length:Int)>0)=true:=decide_eq_true (by omega)
    obtain⟨gO,cO,eO⟩:=fd HS.out.oo hp;injection eO with e1 e2 e3
    subst e1 e3;go_wp2_with fail
    refine(minf_any O _ _ (RRow.of_lbs HS.out.oo) hp (by omega)).mono ?_
    rintro e w3 ⟨⟨x,hx,rfl,hmin⟩,hb3⟩;have HMIN:=aa hmin;have HXO:=aa hx;have HS3:=aa (HS.out.stay hb3);have HM3:=aa (HM.out.stay hb3);clear hmin hx hb3 co cd;go_upto_region 10 with fail
    obtain⟨w4,hw4⟩:=cR (w3.alloc (.cells #[.int .i64 x.nd,.int .i64 x.fr,.int .i64 x.tt,.int .i64 x.tm] 153))
    rw[hw4];have hb4:Below w3.heap.size w3 w4:=by rw[←hw4];exact de (ap _ _)
    have XV:Hid (w4.heap[w3.heap.size]? =some (.cells #[.int .i64 x.nd,.int .i64 x.fr,.int .i64 x.tt,.int .i64 x.tm] 153 (0,0))):=aa (by rw[←hw4];exact cW);have z4:w3.heap.size<w4.heap.size:=by rw[←hw4];simp
    obtain⟨xB,hxB⟩:=cR w3.heap.size
    rw[hxB]at XV z4 ⊢;have HS4:=aa (HS3.out.stay hb4);have HM4:=aa (HM3.out.stay hb4);have zx:w2.heap.size≤xB:=by have:=HS3.out.sz;omega
    have zgO:gO<xB:=by have:=(HS3.out.oo.lt gO rfl).2;omega
    have hdx:∀q,(Value.slice ad D.length cd_).ownBlock=some q→q<xB:=fun q hq=>by have:=(HS3.out.od.lt q hq).2;omega
    clear hw4 hb4 hxB;have co:=cU HS4.out.bo 0;have fo:=dC HS4.out.bo 0;have HPD:Hid (PredD 122 #[.pointer (some ⟨xB,0,none⟩)] (sameL x) gO w4 O):=aa ⟨enters_of Tryz.func122 (by kernel_rfl) rfl,fun y W _ hW hk=>lab1_any x y xB W ((hk xB z4 (by omega)).trans XV.out)⟩;go_wp2_with fail
    refine(del_any O w2.heap.size gO _ _ _ (sameL x) _ HS4.out.oo HPD.out ⟨x,HXO.out,by unfold sameL;simp⟩ (by omega)).mono ?_
    rintro e w5 ⟨rfl,ho5,hk5,hb5⟩;have hk0:w4.heap.size≤w5.heap.size:=hb5.size;have co5:=cU ((hk5 oB (by have:=HS4.out.sz;omega) (by have:=(HS4.out.oo.lt gO rfl).1;omega)).trans HS4.out.bo) 0;have fo5:=dC ((hk5 oB (by have:=HS4.out.sz;omega) (by have:=(HS4.out.oo.lt gO rfl).1;omega)).trans HS4.out.bo) 0;have HS5:=aa (HS4.out.del hzz rfl rfl ho5 hk5 hb5);have XV5:Hid (w5.heap[xB]? =some (.cells #[.int .i64 x.nd,.int .i64 x.fr,.int .i64 x.tt,.int .i64 x.tm] 153 (0,0))):=aa ((hk5 xB z4 (by omega)).trans XV.out);have HM5:Hid (MarkOK w2.heap.size w5 ds):=aa (HM4.out.keep (fun q cs hq=>by
     rcases bq q w4.heap.size with h | h
     ·refine(hk5 q h (fun e=>?_)).trans hq
      subst e;obtain⟨_,hh⟩:=eX HS4.out.oo rfl;rw[hh]at hq
      cases hq
     ·rw[bQ h]at hq;cases hq))
    have XO5:=aa ((hk5 oB (by have:=HS4.out.sz;omega) (by have:=(HS4.out.oo.lt gO rfl).1;omega)).trans HS4.out.bo);clear ho5 hk5 hb5 co fo;go_upto_region 11 with fail
    obtain⟨w6,hw6⟩:=cR (w5.setCell ⟨oB,0,none⟩ (.slice (some ⟨gO,0,none⟩) (O.filter (fun y=> !sameL x y)).length co_))
    rw[hw6]at HS5 ⊢;have z56:w5.heap.size=w6.heap.size:=by rw[←hw6];simp
    have XV6:Hid (w6.heap[xB]? =some (.cells #[.int .i64 x.nd,.int .i64 x.fr,.int .i64 x.tt,.int .i64 x.tm] 153 (0,0))):=aa (by rw[←hw6];exact(bD _ _ _ _ (show xB≠oB by omega)).trans XV5.out);have HM6:Hid (MarkOK w2.heap.size w6 ds):=aa (HM5.out.keep (fun q cs hq=>by
     by_cases e:q=oB
     ·exfalso
      subst e;rw[XO5.out]at hq
      cases hq
     ·rw[←hw6];exact(bD _ _ _ _ (show q≠oB from e)).trans hq))
    have zx6:xB<w6.heap.size:=by omega
    have HZ56:=aa z56;clear hw6 z56 XV5 HM5;have cd6:=cU HS5.out.bd 0;have cx6:=fun q=>cU XV6.out q
    have hdl:D.length≤17600:=aK (HLI.out.dlen HG.out) (iT HG.out);have z26:=HS5.out.sz;go_upto_region 12 with(at_builtin;refine dK _ rfl _ _ _ rfl w2.heap.size 153 i0 _ 4 32 Tryz.underlying62 HIN.out.1 HIN.out.2.1 HIN.out.2.2.1 HIN.out.2.2.2 rfl (by omega) (.slice ad D.length cd_) D.length (lbs D) rfl (cV HS5.out.od (fun q hq=>ak _ _ _ (HS5.out.od.lt q hq).2)) ⟨w6.heap.size,0,none⟩ 1 1 (lblC x) rfl rfl (dI cW) (by simp[lblC,Value.oneCell']) (by simp only[maxLen];omega) (by omega) (by simp;omega) (by omega) ?_;intro v7_ w7 ho7 hg7 hf7;obtain⟨a7,c7,rfl⟩:=dg ho7;have X7:=(HS5.out.stay (de (ap _ _))).growD hzz hg7;have c7d:=cU X7 0;have f7d:=dC X7 0)
    have hal:Below w6.heap.size w6 (w6.alloc (.cells (lblC x).toArray 153)):=de (ap _ _);have HS8:=aa ((HS5.out.stay hal).pushD x hzz ho7 hg7 hf7);have hkk:∀q,q<w6.heap.size→(Value.slice ad D.length cd_).ownBlock≠some q→q≠dB→(w7.setCell ⟨dB,0,none⟩ (.slice a7 (D.length+1) c7)).heap[q]? =w6.heap[q]?:=fun q hq n1 n2=>(bD _ _ _ _ (show q≠dB from n2)).trans ((hg7.block q (by simp;omega) (fun e=>n1 e.symm)).trans (hal.block q hq))
    have hz8:w6.heap.size<(w7.setCell ⟨dB,0,none⟩ (.slice a7 (D.length+1) c7)).heap.size:=by have:=hg7.size;simp at this ⊢;omega
    obtain⟨w8,hw8⟩:=cR (w7.setCell ⟨dB,0,none⟩ (.slice a7 (D.length+1) c7))
    rw[hw8]at HS8 hkk hz8 ⊢;have XV8:Hid (w8.heap[xB]? =some (.cells #[.int .i64 x.nd,.int .i64 x.fr,.int .i64 x.tt,.int .i64 x.tm] 153 (0,0))):=aa ((hkk xB zx6 (fun e=>by have:=hdx _ e;omega) (by omega)).trans XV6.out);have HM8:Hid (MarkOK w2.heap.size w8 ds):=aa (HM6.out.keep (fun q cs hq=>by
     refine(hkk q (ai.1 hq).1 (fun e=>?_) (fun e=>?_)).trans hq
     ·obtain⟨_,hh⟩:=eX HS5.out.od e
      rw[hh]at hq
      cases hq
     ·subst e
      rw[HS5.out.bd]at hq
      cases hq))
    clear hw8 hkk ho7 hg7 hf7 X7 c7d f7d hal cx6 cd6;have cx8:=fun q=>cU XV8.out q
    have cg8:=cU HS8.out.gb 0;go_wp2_with fail
    refine(jl gB x _).mono ?_
    obtain⟨Z,hZ⟩:=cR w8.heap.size
    unfold MovW;rw[hZ];rintro e w9 ⟨rfl,hb9,hs9,hx1,hx2⟩;rw[←hZ]at hb9;replace hs9:Z+2≤w9.heap.size:=Nat.le_of_eq hs9.symm
    have HS9:=aa (HS8.out.stay hb9);have HM9:=aa (HM8.out.stay hb9);have HXS:=aa (cS hx1 hx2);have zx9:xB<Z:=by omega
    have z29:w2.heap.size<w9.heap.size:=by omega
    clear cx8 cg8 hb9 hx1 hx2;go_wp2_with fail
    refine(wpIn_wide (n:=12)).1 ?_
    have HXL:Hid (lOK x):=aa (by obtain⟨_,_,_,_,h1,h2⟩:=HLI.out.vo x HXO.out;have:=HG.out.d1;unfold lOK;omega);refine wpIn_rangeFunc_ownH rfl (by omega) (gf:=126) (lb:=#[.pointer (some ⟨Z,0,none⟩),.pointer (some ⟨Z+1,0,none⟩)]) rfl trivial (enters_of Tryz.func126 (by kernel_rfl) rfl)
     (gG g HG.out gB Z (Z+1) x w w9 HGR.out (CK.of HS9.out.bel) HXS.out.1 HXS.out.2 HXL.out)
     (fun h k=>h.trans k) (fun W l o o' _ hl hc _=>KpP.putObj W l o' hl hc) (ap _ _) (fun _=>rfl)
     (fun pre W=>∃vo,RL w w2 w9 gB dB oB Z (.slice a7 (D.length+1) c7) vo (D++[x]) (O.filter (fun y=> !sameL x y)++newL g (D++[x]) (pre.map (·.1))) W)
     (fun _ _ _=>False) ?hI (fun _ _ _ _ _ hs _ _=>hs) ?h0
     (fun m a' W=>∃mB:Nat,w9.heap.size≤mB∧mB<W.heap.size∧W.heap[mB]? =some (.cells (mvC m.1) 158 (0,0))∧a'={tmps:=#[.pointer (some ⟨gB,0,none⟩),.pointer (some ⟨w.heap.size,0,none⟩),.slice none 0 0,.pointer (some ⟨dB,0,none⟩),.pointer (some ⟨oB,0,none⟩),undef,u6,.pointer (some ⟨xB,0,none⟩),.pointer (some ⟨mB,0,none⟩),.pointer (some ⟨gB,0,none⟩),.pointer (some ⟨gB,0,none⟩),.pointer (some ⟨gB,12,none⟩),.slice (some ⟨bR,oR,none⟩) g.R.length c,.pointer (some ⟨gB,0,none⟩),.pointer (some ⟨gB,0,none⟩),.pointer (some ⟨gB,4,none⟩),.pointer (some ⟨gB,4,none⟩),.int .i64 (n:Int),.pointer (some ⟨bR,oR+n,none⟩),.slice la l.length lc,.int .i64 (l.length:Int),.int .i64 (l.length:Int),.bool false,u23,u24,u25,u26,u27,u28,u29,u30,u31,u32,u33,u34,u35,u36,u37,u38,u39,u40,u41,u42,u43,u44,u45,u46,u47,u48,u49,u50,u51,u52,u53,u54,u55,u56,u57,u58,u59,u60,u61,.slice (some ⟨gO,0,none⟩) O.length co_,.int .i64 (O.length:Int),.bool true,.slice (some ⟨gO,0,none⟩) O.length co_,.agg #[.int .i64 x.nd,.int .i64 x.fr,.int .i64 x.tt,.int .i64 x.tm],.slice (some ⟨gO,0,none⟩) O.length co_,.func (.func 122) #[] #[.pointer (some ⟨xB,0,none⟩)],.slice (some ⟨gO,0,none⟩) (O.filter (fun y=> !sameL x y)).length co_,.slice ad D.length cd_,.agg #[.int .i64 x.nd,.int .i64 x.fr,.int .i64 x.tt,.int .i64 x.tm],.slice (some ⟨w6.heap.size,0,none⟩) 1 1,.slice a7 (D.length+1) c7,.pointer (some ⟨gB,0,none⟩),.agg #[.int .i64 x.nd,.int .i64 x.fr,.int .i64 x.tt,.int .i64 x.tm],.func (.func 126) #[] #[.pointer (some ⟨Z,0,none⟩),.pointer (some ⟨Z+1,0,none⟩)],.agg (mvC m.1),undef,undef,undef,undef,undef,undef,undef,undef,undef,undef,undef,undef,undef,undef,undef,undef,undef,undef,undef,undef,undef,undef,undef],defers:=[]}) ?hA ?assign ?body ?done ?stop
    case hI=>exact RL.own (by omega)
    case h0=>exact⟨_,by simpa [newL]using HS9.out,fun q o ho=>ho,fun q hq=>(by have e:gO=q:=(by injection hq);omega),aj _⟩
    case hA=>
     rintro m a' s' A C row ⟨mB,h1,h2,h3,h4⟩ hg hr';exact⟨mB,h1,by have:=hg.size;omega,iS hg hr' _ _ _ _ h3,h4⟩
    case assign=>
     rintro l' pre m W K' ⟨vo,hRL⟩ hK';have HK:=aa hK';have HRL:=aa hRL;clear hRL hK';simp only[mvC];gi_wp2
     refine HK.out _ _ ((KeepsOthers.alloc _ _).from _) (KpP.of (CK.of (de (ap _ _)))) ⟨vo,HRL.out.stay (de (ap _ _))⟩ ⟨W.heap.size,HRL.out.sz,by simp,cW,rfl⟩
    case body=>
     rintro l' pre m a' W hll hlp ⟨vo,hRL⟩ ⟨mB,e1,e2,e3,rfl⟩ hlt';obtain⟨uq',uc',ub',uh',ug',ur',ud',hgb,-⟩:=(HGR.out.ck (CK.of hRL.ls.bel)).box;have hml:gB<W.heap.size:=(ai.1 hgb).1;have c1:=cU hRL.ls.gb 0;have c2:=fun q=>cU hgb q
     have c3:=fun q=>cU e3 q
     have c4:=cU hRL.ls.bd 0;have hlO:=hRL.ls.oo;have HNS:Hid (newL g (D++[x]) ((pre++[m]).map (·.1))=if newB g (D++[x]) m.1 then newL g (D++[x]) (pre.map (·.1))++[m.1.1]else newL g (D++[x]) (pre.map (·.1))):=aa (by
      rw[bL];exact p9 _ _ _ _)
     have hln:(newL g (D++[x]) (pre.map (·.1))).length≤70400:=by
      have h1:(newL g (D++[x]) (pre.map (·.1))).length≤(pre.map (·.1)).length:=by unfold newL;rw[aZ];exact bn _ _
      have h2:=kC HG.out x;rw[aZ]at h1;omega
     have hfl:(O.filter (fun y=> !sameL x y)).length≤O.length:=bn _ _;obtain⟨OO,hOO⟩:=cR (O.filter (fun y=> !sameL x y)++newL g (D++[x]) (pre.map (·.1)))
     have hOl:OO.length≤3000000000:=by rw[←hOO,ay];omega
     rw[hOO]at hRL hlO;have HOO:=aa hOO;have HRL:=aa hRL;have HMX:=aa e3;unfold mvC at c3;obtain⟨⟨⟨nd,fr,tt,tm⟩,hp⟩,hmem⟩:=m;simp only at c3 HNS;clear hRL hgb e3 hlO hOO hln hfl hlt';gi_wp2
     by_cases y0:nd=g.dst
     case pos=>
      have dy:(nd != g.dst)=false:=by simpa using y0
      have HNB:Hid (newB g (D++[x]) (⟨nd,fr,tt,tm⟩,hp)=false):=aa (by unfold newB;rw[show((⟨nd,fr,tt,tm⟩,hp):Mv).1.nd=nd from rfl,dy];rfl);clear y0;refine dN (fun V=>V.cell? ⟨w.heap.size,0,none⟩=some (.pointer (some ⟨gB,0,none⟩))∧(∀q,V.cell? ⟨gB,q,none⟩=(#[uq',uc',ub',uh',.int .i64 g.src,.int .i64 g.dst,.int .i64 g.sz,.int .i64 g.rd,.int .i64 g.D,.int .i64 g.pr,.bool g.cu,ug',ur',ud'])[q]?)∧(∀q,V.cell? ⟨mB,q,none⟩=(#[.int .i64 nd,.int .i64 fr,.int .i64 tt,.int .i64 tm,.int .i64 hp.1,.int .i64 hp.2.1,.int .i64 hp.2.2.1,.int .i64 hp.2.2.2])[q]?)∧V.cell? ⟨dB,0,none⟩=some (.slice a7 (D.length+1) c7)) [0,0,1,1,0,0,0,1,0,0,1,0,3,0,0] [0,1,2,3,4,5,6,7,8,9,10,11,12,13,14] (by kernel_rfl) (by kernel_rfl) ?_ ?_
      ·exact⟨c1,c2,c3,c4⟩
      (iterate 10 (refine dP rfl (by decide) (by rfl) (fun w1=>by rfl) (fun w1 hS=>by(try(have hS:=hS rfl;obtain hS:=hS;repeat (obtain⟨_,hS⟩:=hS)));go_simp;rfl) ?_;simp only[Act.put,ae,af,ag]))
      (iterate 2 (refine gq rfl (by decide) (by rfl) (fun w=>by rfl) ?_;simp only[Act.put,ae,af,ag]))
      (refine nm rfl (by decide) (by rfl) (fun _=>trivial) ?_;simp only[Act.put,ae,af,ag])
      (iterate 1 (refine gq rfl (by decide) (by rfl) (fun w=>by rfl) ?_;simp only[Act.put,ae,af,ag]))
      (iterate 1 (refine dP rfl (by decide) (by rfl) (fun w1=>by rfl) (fun w1 hS=>by(try(have hS:=hS rfl;obtain hS:=hS;repeat (obtain⟨_,hS⟩:=hS)));go_simp;rfl) ?_;simp only[Act.put,ae,af,ag]))
      refine ev ?_
      gi_wp2
      have hbd:Below W.heap.size W W.drew:=bdrew (ap _ _);refine⟨dZ hbd,KpP.of (CK.of hbd),vo,?_⟩
      rw[HNS.out,HNB.out,if_neg (by simp),HOO.out];exact HRL.out.stay hbd
     have dy:(nd != g.dst)=true:=by simpa using y0
     refine dN (fun V=>V.cell? ⟨w.heap.size,0,none⟩=some (.pointer (some ⟨gB,0,none⟩))∧(∀q,V.cell? ⟨gB,q,none⟩=(#[uq',uc',ub',uh',.int .i64 g.src,.int .i64 g.dst,.int .i64 g.sz,.int .i64 g.rd,.int .i64 g.D,.int .i64 g.pr,.bool g.cu,ug',ur',ud'])[q]?)∧(∀q,V.cell? ⟨mB,q,none⟩=(#[.int .i64 nd,.int .i64 fr,.int .i64 tt,.int .i64 tm,.int .i64 hp.1,.int .i64 hp.2.1,.int .i64 hp.2.2.1,.int .i64 hp.2.2.2])[q]?)∧V.cell? ⟨dB,0,none⟩=some (.slice a7 (D.length+1) c7)) [0,0,1,1,0,0,0,1,0,0,1,0,3,0,0] [0,1,2,3,4,5,6,7,8,9,10,11,12,13,14] (by kernel_rfl) (by kernel_rfl) ?_ ?_
     ·exact⟨c1,c2,c3,c4⟩
     (iterate 12 (refine dP rfl (by decide) (by rfl) (fun w1=>by rfl) (fun w1 hS=>by(try(have hS:=hS rfl;obtain hS:=hS;repeat (obtain⟨_,hS⟩:=hS)));go_simp;rfl) ?_;simp only[Act.put,ae,af,ag]))
     (refine fi rfl rfl (by rfl) (fun K hK=>?_);go_simp)
     obtain⟨AN,hAN⟩:=cR ((D++[x]).any (fun y=>sameL ⟨nd,fr,tt,tm⟩ y))
     have HNB:Hid (newB g (D++[x]) (⟨nd,fr,tt,tm⟩,hp)= !AN):=aa (by
      unfold newB;rw[show((⟨nd,fr,tt,tm⟩,hp):Mv).1.nd=nd from rfl,dy,Bool.true_and,←hAN])
     have hPL:PredL 124 #[.pointer (some ⟨mB,0,none⟩)] (fun y=>sameL ⟨nd,fr,tt,tm⟩ y) W.drew (D++[x]):=⟨enters_of Tryz.func124 (by kernel_rfl) rfl,fun y V _ hV=>lab2_any ⟨nd,fr,tt,tm⟩ y hp mB V ((hV.block mB e2).trans HMX.out)⟩
     refine⟨trivial,CallsIn.inRound l' (callsIn_wide.2 ((j4 (D++[x]) _ _ _ (fun y=>sameL ⟨nd,fr,tt,tm⟩ y) _ (RRow.of_lbs (HRL.out.stay (bdrew (ap _ _))).ls.od) hPL).mono ?_))⟩
     rw[hAN];have HAN:=aa hAN;rintro e W2 ⟨rfl,hb2⟩;have hbd:Below W.heap.size W W2:=dq (bdrew (ap _ _)) hb2;have HBD:=aa hbd;have HRL2:=aa (HRL.out.stay hbd);clear hPL hAN hb2 hbd
     (refine hK _ _ ?_;clear hK K;(try simp only[Act.put,ae,af,ag]))
     cases AN with
     | true=>
      (iterate 2 (refine dP rfl (by decide) (by rfl) (fun w1=>by rfl) (fun w1 hS=>by(try(have hS:=hS rfl;obtain hS:=hS;repeat (obtain⟨_,hS⟩:=hS)));go_simp;rfl) ?_;simp only[Act.put,ae,af,ag]))
      refine ev ?_
      gi_wp2
      refine⟨dZ HBD.out,KpP.of (CK.of HBD.out),vo,?_⟩
      rw[HNS.out,HNB.out,if_neg (by simp),HOO.out];exact HRL2.out
     | false=>
      (iterate 2 (refine dP rfl (by decide) (by rfl) (fun w1=>by rfl) (fun w1 hS=>by(try(have hS:=hS rfl;obtain hS:=hS;repeat (obtain⟨_,hS⟩:=hS)));go_simp;rfl) ?_;simp only[Act.put,ae,af,ag]))
      refine ev ?_
      have c32:=fun q=>(HBD.out.cell (p:=⟨mB,q,none⟩) e2).trans (c3 q)
      have c52:=cU HRL2.out.ls.bo 0;have z2W:=HRL2.out.ls.sz;clear c1 c2 c3 c4;obtain⟨av,cv,rfl⟩:=dg HRL2.out.ls.oo;gi_wp2_with (gi_at_builtin;refine gH _ rfl _ _ _ rfl rfl w2.heap.size 153 i0 _ 4 32 Tryz.underlying62 HIN.out.1 HIN.out.2.1 HIN.out.2.2.1 HIN.out.2.2.2 rfl (by omega) (.slice av OO.length cv) OO.length (lbs OO) rfl (cV HRL2.out.ls.oo (fun q hq=>ak _ _ _ (HRL2.out.ls.oo.lt q hq).2)) ⟨W2.heap.size,0,none⟩ 1 1 (lblC ⟨nd,fr,tt,tm⟩) rfl rfl (dI cW) (by simp[lblC,Value.oneCell']) (by omega) (by simp only[maxLen];omega) (by omega) (by simp;omega) (W2.heap.size+1) (by simp) ?_;intro gN capN wN hoN hgN haN hlN;have XN:=(HRL2.out.stay (de (ap _ _))).ls.growO hzz hgN;have cN:=cU XN 0;have fN:=dC XN 0)
      have hal:Below W2.heap.size W2 (W2.alloc (.cells (lblC ⟨nd,fr,tt,tm⟩).toArray 153)):=de (ap _ _);obtain⟨r1,r2,r3⟩:=(HRL2.out.stay hal).push (⟨nd,fr,tt,tm⟩:Lbl) hzz (by omega) hs9 hoN hgN (by
       rcases haN with h | h
       ·exact .inl h.symm
       ·exact .inr (by rw[h];show some _=some _;simp))
      refine⟨((dZ HBD.out).trans (dZ hal)).trans r2,((KpP.of (CK.of HBD.out)).trans (KpP.of (CK.of hal))).trans r3,.slice (some ⟨gN,0,none⟩) (OO.length+1) capN,?_⟩
      rw[HNS.out,HNB.out,if_pos (by rfl),←aY,HOO.out];exact r1
    case done=>
     rintro Dm ys W hDm hys ⟨vo,hRL⟩ hK';rw[hys]at hRL;have hst:=HLI.out.step HG.out HXO.out HMIN.out;have hm:MarkOK w2.heap.size W (mark Dm::ds):=by
      obtain⟨Ds,rfl,hnd,hds⟩:=HM9.out;have hold:∀D'∈Ds,D'<w9.heap.size:=fun D' hD'=>(ai.1 (hds D' hD').2).1
      refine⟨Dm::Ds,rfl,cL.2 ⟨fun hm=>?_,hnd⟩,fun D' hD'=>?_⟩
      ·have:=hold Dm hm;omega
      ·rcases aG.1 hD' with rfl | hD'
       ·exact⟨by omega,hK'⟩
       ·exact⟨(hds D' hD').1,hRL.dk D' _ (hds D' hD').2⟩
     have hme:(univ g).length - lenAt W dB<(univ g).length - lenAt wr dB:=by
      have h1:=hRL.ls.lenD;have h2:=HS.out.lenD;have h3:=HLI.out.dlen' HG.out hp;rw[ay]at h1;simp only[List.length_singleton]at h1;omega
     have HME:=aa hme;have HST:=aa hst;have HMN:=aa hm;have HRL:=aa hRL;clear hRL hm hys hK' hst hme;go_wp2
     exact⟨⟨D++[x],_,.slice a7 (D.length+1) c7,vo,mark Dm::ds,.pointer (some ⟨xB,0,none⟩),.slice (some ⟨gO,0,none⟩) O.length co_,.int .i64 (O.length:Int),.bool true,.slice (some ⟨gO,0,none⟩) O.length co_,.agg #[.int .i64 x.nd,.int .i64 x.fr,.int .i64 x.tt,.int .i64 x.tm],.slice (some ⟨gO,0,none⟩) O.length co_,.func (.func 122) #[] #[.pointer (some ⟨xB,0,none⟩)],.slice (some ⟨gO,0,none⟩) (O.filter (fun y=> !sameL x y)).length co_,.slice ad D.length cd_,.agg #[.int .i64 x.nd,.int .i64 x.fr,.int .i64 x.tt,.int .i64 x.tm],.slice (some ⟨w6.heap.size,0,none⟩) 1 1,.slice a7 (D.length+1) c7,.pointer (some ⟨gB,0,none⟩),.agg #[.int .i64 x.nd,.int .i64 x.fr,.int .i64 x.tt,.int .i64 x.tm],.func (.func 126) #[] #[.pointer (some ⟨Z,0,none⟩),.pointer (some ⟨Z+1,0,none⟩)],rfl,HST.out,HRL.out.ls,HMN.out⟩,HME.out⟩
    case stop=>
     rintro D_ c' pre W _ _ h _;exact h.elim
   ·obtain rfl:O=[]:=aF (by omega)
    have dp:decide (((([]:List Lbl).length:Nat):Int)>0)=false:=by decide
    have hdl:D.length≤17600:=aK (HLI.out.dlen HG.out) (iT HG.out);go_wp2_with fail
    refine(sortl_any D _ _ _ HS.out.od (by omega) hsz).mono ?_
    rintro e w9 ⟨rfl,D',hpm,hr,hb,hk⟩;have cd9:=cU ((hb.block dB (by omega)).trans HS.out.bd) 0;obtain⟨Ds,rfl,hnd,hds⟩:=HM.out;have HD:=aa (cS hnd (fun D' hD'=>cS (hds D' hD').1 ((hk D' (ai.1 (hds D' hD').2).1 (fun e=>by
     obtain⟨_,hh⟩:=eX HS.out.od e;have:=(hds D' hD').2;rw[hh]at this
     cases this)).trans (hds D' hD').2)))
    have HR:=aa hr;have HPM:=aa hpm;have HB:=aa hb;clear hnd hds hk hr hb hpm co cd;go_wp2
    refine fG Ds _ _ HD.out.1 HD.out.2 ⟨rfl,rfl,rfl,aj _,fun q _=>⟨fun _ _ _ _=>rfl,fun _=>rfl⟩⟩ (fun w' hp=>?_)
    refine⟨_,results_tmp (t:=2) rfl _ _ _,D',.slice ad D.length cd_,rfl,HR.out.ck ⟨hp.2.2.2.1,fun q cs e f hq=>((hp.2.2.2.2 q (ai.1 hq).1).1 cs e f hq).trans hq⟩,HLI.out.done.perm HPM.out,?_⟩
    have hbs:=HB.out.size;exact(HS.out.bel.trans (HB.out.mono (by omega))).trans ⟨hp.1,hp.2.1,hp.2.2.1,hp.2.2.2.1,fun k hk=>(hp.2.2.2.2 k (by omega)).2 (by omega)⟩
end
end Go.Proofs.YtfnciigbbolckaaGreat
