/- Part 26 of the proof about mailboattop.TopOthers. No condition. -/
import Derived.Test.YtfnciigbbolckaaGreatQ00
import Derived.Test.YtfnciigbbolckaaGreatQ20
import Derived.Test.YtfnciigbbolckaaGreatQ21
set_option linter.unusedVariables false
set_option linter.unusedSimpArgs false
set_option maxRecDepth 100000
set_option maxHeartbeats 64000000
namespace Go.Proofs.YtfnciigbbolckaaGreat
attribute [local go_sem] Oper.semAt_some
attribute [local go_sem] pw gu B_app pv B_get B_toList
section
open Go Go.RowKit Iv Go.Shelf
theorem gq {F:Fence} {n:Nat} {P:Program} {Q:Exit→Act→World→Prop} {S:World→Prop} {kd:List Nat} {l rl:List Oper} {i:Nat} {r:List Nat} {o:Oper} {a:Act} {w:World} (hd:l.drop i=o::rl) (hk:kd.getD i 2≤1) (hw:Region.wanted o (yielded l.toArray a.tmps)=false)
  (hb:∀w,o.about P w a.eval=none) (h:wpPlanIn F n P l.toArray Q S kd r (a.put o.dst undef) w):wpPlanIn F n P l.toArray Q S kd (i::r) a w:=by
 have ho:=eq hd;unfold wpPlanIn;rw[ho];simp only;rw[if_pos hk];exact⟨undef,⟨.inr ⟨hw,rfl⟩,hb⟩,h⟩
def mark (D:Nat):Deferred:={target:=.collected D,args:=#[]}
def MarkOK (B:Nat) (W:World) (ds:List Deferred):Prop:=∃Ds:List Nat,ds=Ds.map mark∧Ds.Nodup∧∀D∈Ds,B≤D∧W.heap[D]? =some (.deferred (some []))
def Puts (B:Nat) (w w':World):Prop:=w'.os=w.os∧w'.tape=w.tape∧w'.output=w.output∧w.heap.size≤w'.heap.size∧∀q,q<w.heap.size→(∀cs t f,w.heap[q]? =some (.cells cs t f)→w'.heap[q]? =w.heap[q]?)∧(q<B→w'.heap[q]? =w.heap[q]?)
theorem fG {F:Fence} {n:Nat} {P:Program} {fn:Func} {tmps:Array Value} {R:Ending→World→Prop} {B:Nat}:∀(Ds:List Nat) (w0 w:World),Ds.Nodup→(∀D∈Ds,B≤D∧w.heap[D]? =some (.deferred (some [])))→Puts B w0 w→
  (∀w',Puts B w0 w'→LeavesInM F n P fn tmps R [] .returning w')→LeavesInM F n P fn tmps R (Ds.map mark) .returning w
 | [],w0,w,_,_,hp,h=>h w hp
 | D::Ds,w0,w,hn,hd,hp,h=>by
  obtain⟨h1,h2⟩:=hd D (by simp);have hg:=grownBy_putObj' w D;refine⟨by simp,.inl ⟨_,_,rfl,run_takeDeferred h2,?_⟩⟩
  refine fG Ds w0 _ (cL.1 hn).2 (fun D' hD'=>?_) ?_ h
  ·obtain⟨g1,g2⟩:=hd D' (by simp[hD'])
   refine⟨g1,((hg _).block D' (ai.1 g2).1 (fun e=>?_)).trans g2⟩
   injection e with e
   exact(cL.1 hn).1 (e ▸ hD')
  ·obtain⟨p1,p2,p3,p4,p5⟩:=hp
   refine⟨(hg _).os.trans p1,(hg _).tape.trans p2,(hg _).output.trans p3,aK p4 (hg _).size,fun q hq=>⟨fun cs t f hc=>?_,fun hqB=>?_⟩⟩
   ·have e1:=(p5 q hq).1 cs t f hc
    refine((hg _).block q (by omega) (fun e=>?_)).trans e1
    injection e with e
    subst e;rw[e1,hc]at h2
    cases h2
   ·refine((hg _).block q (by omega) (fun e=>?_)).trans ((p5 q hq).2 hqB)
    injection e with e
    omega
def stepA (g:Gp) (p:Int×Bool) (m:Mv):Int×Bool:=if m.1.nd=g.dst∧(p.2=false∨m.1.tm<p.1)then(m.1.tm,true)else p
def movesAll (g:Gp) (O:List Lbl):List Mv:=O.flatMap (movesL g)
def foldA (g:Gp) (l:List Mv):Int×Bool:=l.foldl (stepA g) (0,false)
def arrL (g:Gp) (O:List Lbl):Int×Bool:=foldA g (movesAll g O)
theorem oh (g:Gp) (l:List Mv) (m:Mv):foldA g (l++[m])=stepA g (foldA g l) m:=by unfold foldA;rw[List.foldl_append];rfl
theorem lf (g:Gp) (O:List Lbl) (x:Lbl):movesAll g (O++[x])=movesAll g O++movesL g x:=by unfold movesAll;rw[aV];simp
def Oth3 (a b:Nat) (w w':World):Prop:=w.heap.size≤w'.heap.size∧∀q,q<w.heap.size→q≠a→q≠b→w'.heap[q]? =w.heap[q]?
theorem Oth3.trans {x y:Nat} {a b c:World} (h:Oth3 x y a b) (k:Oth3 x y b c):Oth3 x y a c:=⟨aK h.1 k.1,fun q hq n1 n2=>(k.2 q (by have:=h.1;omega) n1 n2).trans (h.2 q hq n1 n2)⟩
structure AR (w w2:World) (bB iB:Nat) (p:Int×Bool) (W:World):Prop where
 bb:W.heap[bB]? =some (.cells #[.int .i64 p.1] 3 (0,0))
 ib:W.heap[iB]? =some (.cells #[.bool p.2] 4 (0,0))
 oth:Oth3 bB iB w2 W
 bel:Below w.heap.size w W
theorem iS {A B':World} {row:Option Nat} {Pr:Nat→Prop} (hg:A.grownBy B' row) (hr:∀r,row=some r→Pr r∧∃o:Obj,A.heap[r]? =some o∧o.isCells=false) (q:Nat) (cs:Array Value) (e:TypeId) (f:Nat×Nat) (hq:A.heap[q]? =some (.cells cs e f)):B'.heap[q]? =some (.cells cs e f):=by
 have hlt:q<A.heap.size:=(ai.1 hq).1;refine(hg.block q hlt (fun e'=>?_)).trans hq
 obtain⟨_,o,ho,hc⟩:=hr q e'.symm;rw[hq]at ho;injection ho with ho
 subst ho
 cases hc
theorem AR.own {w w2 wR:World} {bB iB:Nat} {α:Type} {f:α→Int×Bool} (h2:w2.heap.size≤wR.heap.size) (hw:w.heap.size≤wR.heap.size):OwnFrom wR.heap.size (fun(x:α) W=>AR w w2 bB iB (f x) W∧wR.heap.size≤W.heap.size∧Oth3 bB iB wR W):=fun x A C row hs hg hr=>by
 obtain⟨⟨h1,h2_,h3,h4⟩,h5,h6⟩:=hs;have hk:∀q,q<wR.heap.size→C.heap[q]? =A.heap[q]?:=fun q hq=>hg.block q (by omega) (fun e=>by have:=(hr q e.symm).1;omega)
 exact⟨⟨iS hg hr _ _ _ _ h1,iS hg hr _ _ _ _ h2_,⟨aK h3.1 hg.size,fun q hq n1 n2=>(hk q (by omega)).trans (h3.2 q hq n1 n2)⟩,h4.grown hg (by omega) (fun q e=>by have:=(hr q e).1;omega)⟩,aK h5 hg.size,⟨aK h6.1 hg.size,fun q hq n1 n2=>(hk q hq).trans (h6.2 q hq n1 n2)⟩⟩
theorem AR.stay {w w2:World} {bB iB:Nat} {p:Int×Bool} {W W':World} (h:AR w w2 bB iB p W) (hw:w.heap.size≤W.heap.size) (k:Below W.heap.size W W'):AR w w2 bB iB p W':=
 ⟨(k.block _ (ai.1 h.bb).1).trans h.bb,(k.block _ (ai.1 h.ib).1).trans h.ib,h.oth.trans ⟨k.size,fun q hq _ _=>k.block q hq⟩,h.bel.trans (k.mono hw)⟩
theorem MarkOK.stay {B:Nat} {W W':World} {ds:List Deferred} (h:MarkOK B W ds) (k:Below W.heap.size W W'):MarkOK B W' ds:=by
 obtain⟨Ds,e,hn,hd⟩:=h;exact⟨Ds,e,hn,fun D hD=>⟨(hd D hD).1,(k.block _ (ai.1 (hd D hD).2).1).trans (hd D hD).2⟩⟩
theorem o8 (g:Gp) (hg:GOK g) (gB:Nat) (O:List Lbl) (u:Value) (w:World) (h:Gr w gB g) (ho:RRow lblC 4 w w.heap.size u O) (hO:∀x∈O,lOK x):
  Calls Tryz.prog 78 #[.pointer (some ⟨gB,0,none⟩),u] w fun e w'=>e= .returned (.tuple #[.int .i64 (arrL g O).1,.bool (arrL g O).2])∧Below w.heap.size w w':=by
 refine(callsIn_wide (n:=12)).1 ?_
 refine callsIn_of_wp_marks Tryz.func78 rfl trivial ?_ rfl
 simp only[Tryz.ntmps78,bJ,aI,bE,Nat.reduceAdd,Nat.reduceSub,bS,bT,cH,bW,br,a8];refine wpIn_wide.2 ?_
 have HG:=aa hg;have HGR:=aa h;have HO:=aa hO;have hgl:=h.lt;obtain⟨a,c,rfl,h1,h2,h3,h4⟩:=ho;have H4:=aa h4;unfold maxLen at h2;clear h3 h4 hg h hO;go_upto_region 2 with fail
 obtain⟨w2,hw2⟩:=cR (((w.alloc (.cells #[.pointer (some ⟨gB,0,none⟩)] 147)).alloc (.cells #[.int .i64 0] 3)).alloc (.cells #[.bool false] 4))
 rw[hw2];have X0:Hid (w2.heap[w.heap.size]? =some (.cells #[.pointer (some ⟨gB,0,none⟩)] 147 (0,0))):=aa (by rw[←hw2];exact(by repeat (first | exact cY (by first | rfl | (simp;done)) | refine(ak _ _ _ (by first | (simp;done) | (simp;omega))).trans ?_)));have X1:w2.heap[w.heap.size+1]? =some (.cells #[.int .i64 0] 3 (0,0)):=by rw[←hw2];exact(by repeat (first | exact cY (by first | rfl | (simp;done)) | refine(ak _ _ _ (by first | (simp;done) | (simp;omega))).trans ?_))
 have X2:w2.heap[w.heap.size+1+1]? =some (.cells #[.bool false] 4 (0,0)):=by rw[←hw2];exact(by repeat (first | exact cY (by first | rfl | (simp;done)) | refine(ak _ _ _ (by first | (simp;done) | (simp;omega))).trans ?_))
 have B2:Below w.heap.size w w2:=by rw[←hw2];exact cZ
 have z2:w.heap.size+1+1<w2.heap.size:=by rw[←hw2];simp
 obtain⟨bB,hbB⟩:=cR (w.heap.size+1)
 rw[hbB]at X1 X2 z2 ⊢;obtain⟨iB,hiB⟩:=cR (bB+1)
 rw[hiB]at X2 z2 ⊢;have HAR0:AR w w2 bB iB (0,false) w2:=⟨X1,X2,⟨aj _,fun q _ _ _=>rfl⟩,B2⟩
 clear hw2 X1 X2 B2;go_wp2_with fail
 refine wp_loop (fun ac W=>∃(k:Nat) (ds:List Deferred) (u9 u14 u15 u16 u17 u18 u19 u44:Value),ac={tmps:=#[.pointer (some ⟨gB,0,none⟩),.slice a O.length c,.pointer (some ⟨w.heap.size,0,none⟩),undef,.int .i64 0,.bool false,.pointer (some ⟨bB,0,none⟩),.pointer (some ⟨iB,0,none⟩),undef,u9,undef,.slice a O.length c,.int .i64 (O.length:Int),.int .i64 (k:Int),u14,u15,u16,u17,u18,u19,undef,undef,undef,undef,undef,undef,undef,undef,undef,undef,undef,undef,undef,undef,undef,undef,undef,undef,undef,undef,undef,undef,undef,undef,u44,undef,undef],defers:=ds}∧k≤O.length∧AR w w2 bB iB (foldA g (movesAll g (O.take k))) W∧MarkOK w2.heap.size W ds) (fun a W=>O.length-(intOf (a.tmps.getD 13 undef)).toNat) ⟨0,[],_,_,_,_,_,_,_,_,rfl,aE _,HAR0,⟨[],rfl,List.nodup_nil,fun D hD=>by cases hD⟩⟩ ?_
 rintro ac wr ⟨k,ds,u9,u14,u15,u16,u17,u18,u19,u44,rfl,hk,hAR,hM⟩;have HA:=aa hAR;have HM:=aa hM;have zr:=hAR.oth.1;clear hAR hM HAR0;by_cases hlt:k<O.length
 ·obtain⟨bb,o,rfl,hbn,hcell⟩:=H4.out (by omega)
  obtain⟨x,hx⟩:∃x,O[k]? =some x:=⟨_,am hlt⟩
  have q0:wr.cell? ⟨bb,o+k*4,none⟩=some (.int .i64 x.nd):=(HA.out.bel.cell (p:=⟨bb,o+k*4+0,none⟩) hbn).trans (hcell k x hx 0 _ rfl);have q1:wr.cell? ⟨bb,o+k*4+1,none⟩=some (.int .i64 x.fr):=(HA.out.bel.cell (p:=⟨bb,o+k*4+1,none⟩) hbn).trans (hcell k x hx 1 _ rfl);have q2:wr.cell? ⟨bb,o+k*4+2,none⟩=some (.int .i64 x.tt):=(HA.out.bel.cell (p:=⟨bb,o+k*4+2,none⟩) hbn).trans (hcell k x hx 2 _ rfl);have q3:wr.cell? ⟨bb,o+k*4+3,none⟩=some (.int .i64 x.tm):=(HA.out.bel.cell (p:=⟨bb,o+k*4+3,none⟩) hbn).trans (hcell k x hx 3 _ rfl);have k0:(0:Int)≤(k:Int):=by omega
  have k1:(k:Int)<(O.length:Int):=by omega
  have HX:=aa hx;have hxl:=HO.out x (az hx);have HXL:=aa hxl;clear hcell hx hxl;go_upto_region 5 with fail
  obtain⟨w4,hw4⟩:=cR (wr.alloc (.cells #[.int .i64 x.nd,.int .i64 x.fr,.int .i64 x.tt,.int .i64 x.tm] 153))
  rw[hw4];have K4:Hid (Below wr.heap.size wr w4):=aa (by rw[←hw4];exact de (ap _ _));have XV:Hid (w4.heap[wr.heap.size]? =some (.cells #[.int .i64 x.nd,.int .i64 x.fr,.int .i64 x.tt,.int .i64 x.tm] 153 (0,0))):=aa (by rw[←hw4];exact cW);have z4:wr.heap.size<w4.heap.size:=by rw[←hw4];simp
  obtain⟨xB,hxB⟩:=cR wr.heap.size
  have HXB:=aa hxB;rw[hxB]at XV z4 ⊢;clear hw4 q0 q1 q2 q3;have HA4:=aa (HA.out.stay (by omega) K4.out);have HM4:=aa (HM.out.stay K4.out);have cx:=fun q=>cU XV.out q
  have cg:=cU ((HA4.out.oth.2 _ (by omega) (by omega) (by omega)).trans X0.out) 0;go_wp2_with fail
  refine(jl gB x _).mono ?_
  obtain⟨Z,hZ⟩:=cR w4.heap.size
  unfold MovW;rw[hZ];rintro e w5 ⟨rfl,hb5,hs5,hx1,hx2⟩;rw[←hZ]at hb5;replace hs5:Z+2≤w5.heap.size:=Nat.le_of_eq hs5.symm
  have HB5:=aa hb5;have HA5:=aa (HA4.out.stay (by omega) hb5);have HM5:=aa (HM4.out.stay hb5);have HXS:=aa (cS hx1 hx2);have hbw:w.heap.size≤w5.heap.size:=by omega
  have zx:xB<Z:=by omega
  clear cx cg hb5 hx1 hx2 K4 HA4 HM4;go_wp2_with fail
  refine(wpIn_wide (n:=12)).1 ?_
  refine wpIn_rangeFunc_ownH rfl (by omega) (gf:=126) (lb:=#[.pointer (some ⟨Z,0,none⟩),.pointer (some ⟨Z+1,0,none⟩)]) rfl trivial (enters_of Tryz.func126 (by kernel_rfl) rfl)
   (gG g HG.out gB Z (Z+1) x w w5 HGR.out (CK.of HA5.out.bel) HXS.out.1 HXS.out.2 HXL.out)
   (fun h k=>h.trans k) (fun W l o o' _ hl hc _=>KpP.putObj W l o' hl hc) (ap _ _) (fun _=>rfl)
   (fun pre W=>AR w w2 bB iB (foldA g (movesAll g (O.take k)++pre.map (·.1))) W∧w5.heap.size≤W.heap.size∧Oth3 bB iB w5 W)
   (fun _ _ _=>False) ?hI (fun _ _ _ _ _ hs _ _=>hs) ?h0
   (fun m a' W=>∃mB:Nat,w5.heap.size≤mB∧mB<W.heap.size∧W.heap[mB]? =some (.cells (mvC m.1) 158 (0,0))∧a'={tmps:=#[.pointer (some ⟨gB,0,none⟩),.slice (some ⟨bb,o,none⟩) O.length c,.pointer (some ⟨w.heap.size,0,none⟩),undef,.int .i64 0,.bool false,.pointer (some ⟨bB,0,none⟩),.pointer (some ⟨iB,0,none⟩),undef,.pointer (some ⟨xB,0,none⟩),.pointer (some ⟨mB,0,none⟩),.slice (some ⟨bb,o,none⟩) O.length c,.int .i64 (O.length:Int),.int .i64 (k:Int),.bool true,.pointer (some ⟨bb,o+k*4,none⟩),.agg #[.int .i64 x.nd,.int .i64 x.fr,.int .i64 x.tt,.int .i64 x.tm],.pointer (some ⟨gB,0,none⟩),.agg #[.int .i64 x.nd,.int .i64 x.fr,.int .i64 x.tt,.int .i64 x.tm],.func (.func 126) #[] #[.pointer (some ⟨Z,0,none⟩),.pointer (some ⟨Z+1,0,none⟩)],.agg (mvC m.1),undef,undef,undef,undef,undef,undef,undef,undef,undef,undef,undef,undef,undef,undef,undef,undef,undef,undef,undef,undef,undef,undef,undef,u44,undef,undef],defers:=[]}) ?hA ?assign ?body ?done ?stop
  case hI=>exact AR.own (by omega) (by omega)
  case h0=>exact⟨by simpa using HA5.out,aj _,aj _,fun q _ _ _=>rfl⟩
  case hA=>
   rintro m a' s' A C row ⟨mB,h1,h2,h3,h4⟩ hg hr';exact⟨mB,h1,by have:=hg.size;omega,iS hg hr' _ _ _ _ h3,h4⟩
  case assign=>
   rintro l' pre m W K' ⟨hAR,hW5,hOT⟩ hK';have HK:=aa hK';have HAR:=aa hAR;have HOT:=aa hOT;have zW:=hOT.1;have zw:=hAR.bel.size;clear hAR hK' hOT;simp only[mvC];gi_wp2
   refine HK.out _ _ ((KeepsOthers.alloc _ _).from _) (KpP.of (CK.of (de (ap _ _)))) ⟨HAR.out.stay zw (de (ap _ _)),by simp;omega,HOT.out.trans ⟨by simp,fun q hq _ _=>ak _ _ _ hq⟩⟩ ⟨W.heap.size,hW5,by simp,cW,rfl⟩
  case body=>
   rintro l' pre m a' W hll hlp ⟨hAR,hW5,hOT⟩ ⟨mB,e1,e2,e3,rfl⟩ hlt';clear hlt';have hbel:=hAR.bel;have z5:=hAR.oth.1;obtain⟨uq,uc,ub,uh,ug,ur,ud,hgb,-⟩:=(HGR.out.ck (CK.of hbel)).box;have hml:gB<W.heap.size:=(ai.1 hgb).1;obtain⟨P,hP⟩:=cR (foldA g (movesAll g (O.take k)++pre.map (·.1)))
   rw[hP]at hAR;have HSN:Hid (foldA g (movesAll g (O.take k)++(pre++[m]).map (·.1))=stepA g P m.1):=aa (by
    rw[bL,←aY];show foldA g (_++[m.1])=_;rw[oh,hP])
   obtain⟨p1,p2⟩:=P;have c1:=cU ((hAR.oth.2 _ (by omega) (by omega) (by omega)).trans X0.out) 0;have c2:=fun q=>cU hgb q
   have c3:=fun q=>cU e3 q
   have c4:=cU hAR.bb 0;have c5:=cU hAR.ib 0;have f4:=dC hAR.bb 0;have f5:=dC hAR.ib 0;have nbi:bB≠iB:=by omega
   have nmb:mB≠bB:=by omega
   have nmi:mB≠iB:=by omega
   have HAR:=aa hAR;have HOT:=aa hOT;have HPR:=aa hP;unfold mvC at c3;obtain⟨⟨⟨nd,fr,tt,tm⟩,hp⟩,hmem⟩:=m;simp only at c3 c4 c5 HSN;clear hAR hOT hgb e3 hbel hP;gi_wp2
   have HSAME:Hid (stepA g (p1,p2) (⟨nd,fr,tt,tm⟩,hp)=(p1,p2)→∀T,ownPostG w5.heap.size (KpP w.heap.size Z (Z+1)) (fun(pre:List {m:Mv // m∈movesL g x}) W=>AR w w2 bB iB (foldA g (movesAll g (O.take k)++pre.map (·.1))) W∧w5.heap.size≤W.heap.size∧Oth3 bB iB w5 W) (fun _ _ _=>False) (pre++[⟨(⟨nd,fr,tt,tm⟩,hp),hmem⟩]) W .normal T W.drew):=aa (fun he T=>by
    refine⟨⟨aj _,fun k o hk ho hc'=>ho⟩,KpP.of ⟨aj _,fun _ _ _ _ h=>h⟩,?_,hW5,⟨HOT.out.1,HOT.out.2⟩⟩
    rw[HSN.out,he];exact⟨HAR.out.bb,HAR.out.ib,⟨HAR.out.oth.1,HAR.out.oth.2⟩,HAR.out.bel.trans (bdrew (ap _ _))⟩)
   have HNEW:Hid (stepA g (p1,p2) (⟨nd,fr,tt,tm⟩,hp)=(tm,true)→∀T,ownPostG w5.heap.size (KpP w.heap.size Z (Z+1)) (fun(pre:List {m:Mv // m∈movesL g x}) W=>AR w w2 bB iB (foldA g (movesAll g (O.take k)++pre.map (·.1))) W∧w5.heap.size≤W.heap.size∧Oth3 bB iB w5 W) (fun _ _ _=>False) (pre++[⟨(⟨nd,fr,tt,tm⟩,hp),hmem⟩]) W .normal T ((W.drew.setCell ⟨bB,0,none⟩ (.int .i64 tm)).setCell ⟨iB,0,none⟩ (.bool true))):=aa (fun he T=>by
    have hh:∀q,q≠bB→q≠iB→∀u v:Value,((W.drew.setCell ⟨bB,0,none⟩ u).setCell ⟨iB,0,none⟩ v).heap[q]? =W.heap[q]?:=fun q n1 n2 u v=>(bD _ _ _ _ n2).trans (bD _ _ _ _ n1)
    refine⟨⟨by simp,fun q o hq ho hc'=>(hh q (by omega) (by omega) _ _).trans ho⟩,⟨by simp,fun q cs e f hq hp=>(hh q ?_ ?_ _ _).trans hq⟩,?_,by simp;omega,⟨by simp;exact HOT.out.1,fun q hq n1 n2=>(hh q n1 n2 _ _).trans (HOT.out.2 q hq n1 n2)⟩⟩
    ·rintro rfl
     rw[HAR.out.bb]at hq;injection hq with hq
     injection hq with h1 h2 h3
     subst h2;rcases hp with h | h | h | h | h | h
     ·omega
     ·omega
     ·omega
     all_goals exact absurd h (by decide)
    ·rintro rfl
     rw[HAR.out.ib]at hq;injection hq with hq
     injection hq with h1 h2 h3
     subst h2;rcases hp with h | h | h | h | h | h
     ·omega
     ·omega
     ·omega
     all_goals exact absurd h (by decide)
    ·rw[HSN.out,he]
     have h1:=eD (w:=W.drew) HAR.out.bb 0 (.int .i64 tm);have h2:=eD (w:=W.drew.setCell ⟨bB,0,none⟩ (.int .i64 tm)) (g:=iB) ((bD _ _ _ _ (Ne.symm nbi)).trans HAR.out.ib) 0 (.bool true);exact⟨(bD _ _ _ _ nbi).trans h1,h2,⟨by simp;exact HAR.out.oth.1,fun q hq n1 n2=>(hh q n1 n2 _ _).trans (HAR.out.oth.2 q hq n1 n2)⟩,HAR.out.bel.trans (bset (bset (bdrew (ap _ _)) (by show w.heap.size≤bB;omega)) (by show w.heap.size≤iB;omega))⟩)
   by_cases y0:nd=g.dst
   case neg=>
    have dy:(nd==g.dst)=false:=by simpa using y0
    refine dN (fun V=>V.cell? ⟨w.heap.size,0,none⟩=some (.pointer (some ⟨gB,0,none⟩))∧(∀q,V.cell? ⟨gB,q,none⟩=(#[uq,uc,ub,uh,.int .i64 g.src,.int .i64 g.dst,.int .i64 g.sz,.int .i64 g.rd,.int .i64 g.D,.int .i64 g.pr,.bool g.cu,ug,ur,ud])[q]?)∧(∀q,V.cell? ⟨mB,q,none⟩=(#[.int .i64 nd,.int .i64 fr,.int .i64 tt,.int .i64 tm,.int .i64 hp.1,.int .i64 hp.2.1,.int .i64 hp.2.2.1,.int .i64 hp.2.2.2])[q]?)∧V.cell? ⟨bB,0,none⟩=some (.int .i64 p1)∧V.cell? ⟨iB,0,none⟩=some (.bool p2)) [0,0,1,1,0,0,0,1,0,0,1,0,0,0,0,1,1,0,0,0] [0,1,2,3,4,5,6,7,8,9,10,11,12,13,14,15,16,17,18,19] (by kernel_rfl) (by kernel_rfl) ?_ ?_
    ·exact⟨c1,c2,c3,c4,c5⟩
    (iterate 10 (refine dP rfl (by decide) (by rfl) (fun w1=>by rfl) (fun w1 hS=>by(try(have hS:=hS rfl;obtain hS:=hS;repeat (obtain⟨_,hS⟩:=hS)));go_simp;rfl) ?_;simp only[Act.put,ae,af,ag]))
    (iterate 9 (refine gq rfl (by decide) (by rfl) (fun w=>by rfl) ?_;simp only[Act.put,ae,af,ag]))
    (iterate 1 (refine dP rfl (by decide) (by rfl) (fun w1=>by rfl) (fun w1 hS=>by(try(have hS:=hS rfl;obtain hS:=hS;repeat (obtain⟨_,hS⟩:=hS)));go_simp;rfl) ?_;simp only[Act.put,ae,af,ag]))
    refine ev ?_
    gi_wp2
    exact HSAME.out (if_neg (fun h=>y0 h.1)) _
   have dy:(nd==g.dst)=true:=by simpa using y0
   have Y0:=aa y0;clear y0
   cases p2 with
   | false=>
    refine dN (fun V=>V.cell? ⟨w.heap.size,0,none⟩=some (.pointer (some ⟨gB,0,none⟩))∧(∀q,V.cell? ⟨gB,q,none⟩=(#[uq,uc,ub,uh,.int .i64 g.src,.int .i64 g.dst,.int .i64 g.sz,.int .i64 g.rd,.int .i64 g.D,.int .i64 g.pr,.bool g.cu,ug,ur,ud])[q]?)∧(∀q,V.cell? ⟨mB,q,none⟩=(#[.int .i64 nd,.int .i64 fr,.int .i64 tt,.int .i64 tm,.int .i64 hp.1,.int .i64 hp.2.1,.int .i64 hp.2.2.1,.int .i64 hp.2.2.2])[q]?)∧V.cell? ⟨bB,0,none⟩=some (.int .i64 p1)∧V.cell? ⟨iB,0,none⟩=some (.bool false)) [0,0,1,1,0,0,0,1,0,0,1,0,0,0,0,1,1,0,0,0] [0,1,2,3,4,5,6,7,8,9,10,11,12,13,14,15,16,17,18,19] (by kernel_rfl) (by kernel_rfl) ?_ ?_
    ·exact⟨c1,c2,c3,c4,c5⟩
    (iterate 13 (refine dP rfl (by decide) (by rfl) (fun w1=>by rfl) (fun w1 hS=>by(try(have hS:=hS rfl;obtain hS:=hS;repeat (obtain⟨_,hS⟩:=hS)));go_simp;rfl) ?_;simp only[Act.put,ae,af,ag]))
    (iterate 5 (refine gq rfl (by decide) (by rfl) (fun w=>by rfl) ?_;simp only[Act.put,ae,af,ag]))
    (iterate 2 (refine dP rfl (by decide) (by rfl) (fun w1=>by rfl) (fun w1 hS=>by(try(have hS:=hS rfl;obtain hS:=hS;repeat (obtain⟨_,hS⟩:=hS)));go_simp;rfl) ?_;simp only[Act.put,ae,af,ag]))
    refine ev ?_
    gi_wp2
    exact HNEW.out (if_pos ⟨Y0.out,.inl rfl⟩) _
   | true=>
    by_cases y1:tm<p1
    ·have d1:decide (tm<p1)=true:=decide_eq_true y1
     refine dN (fun V=>V.cell? ⟨w.heap.size,0,none⟩=some (.pointer (some ⟨gB,0,none⟩))∧(∀q,V.cell? ⟨gB,q,none⟩=(#[uq,uc,ub,uh,.int .i64 g.src,.int .i64 g.dst,.int .i64 g.sz,.int .i64 g.rd,.int .i64 g.D,.int .i64 g.pr,.bool g.cu,ug,ur,ud])[q]?)∧(∀q,V.cell? ⟨mB,q,none⟩=(#[.int .i64 nd,.int .i64 fr,.int .i64 tt,.int .i64 tm,.int .i64 hp.1,.int .i64 hp.2.1,.int .i64 hp.2.2.1,.int .i64 hp.2.2.2])[q]?)∧V.cell? ⟨bB,0,none⟩=some (.int .i64 p1)∧V.cell? ⟨iB,0,none⟩=some (.bool true)) [0,0,1,1,0,0,0,1,0,0,1,0,0,0,0,1,1,0,0,0] [0,1,2,3,4,5,6,7,8,9,10,11,12,13,14,15,16,17,18,19] (by kernel_rfl) (by kernel_rfl) ?_ ?_
     ·exact⟨c1,c2,c3,c4,c5⟩
     (iterate 20 (refine dP rfl (by decide) (by rfl) (fun w1=>by rfl) (fun w1 hS=>by(try(have hS:=hS rfl;obtain hS:=hS;repeat (obtain⟨_,hS⟩:=hS)));go_simp;rfl) ?_;simp only[Act.put,ae,af,ag]))
     refine ev ?_
     gi_wp2
     exact HNEW.out (if_pos ⟨Y0.out,.inr y1⟩) _
    ·have d1:decide (tm<p1)=false:=decide_eq_false y1
     refine dN (fun V=>V.cell? ⟨w.heap.size,0,none⟩=some (.pointer (some ⟨gB,0,none⟩))∧(∀q,V.cell? ⟨gB,q,none⟩=(#[uq,uc,ub,uh,.int .i64 g.src,.int .i64 g.dst,.int .i64 g.sz,.int .i64 g.rd,.int .i64 g.D,.int .i64 g.pr,.bool g.cu,ug,ur,ud])[q]?)∧(∀q,V.cell? ⟨mB,q,none⟩=(#[.int .i64 nd,.int .i64 fr,.int .i64 tt,.int .i64 tm,.int .i64 hp.1,.int .i64 hp.2.1,.int .i64 hp.2.2.1,.int .i64 hp.2.2.2])[q]?)∧V.cell? ⟨bB,0,none⟩=some (.int .i64 p1)∧V.cell? ⟨iB,0,none⟩=some (.bool true)) [0,0,1,1,0,0,0,1,0,0,1,0,0,0,0,1,1,0,0,0] [0,1,2,3,4,5,6,7,8,9,10,11,12,13,14,15,16,17,18,19] (by kernel_rfl) (by kernel_rfl) ?_ ?_
     ·exact⟨c1,c2,c3,c4,c5⟩
     (iterate 20 (refine dP rfl (by decide) (by rfl) (fun w1=>by rfl) (fun w1 hS=>by(try(have hS:=hS rfl;obtain hS:=hS;repeat (obtain⟨_,hS⟩:=hS)));go_simp;rfl) ?_;simp only[Act.put,ae,af,ag]))
     refine ev ?_
     gi_wp2
     exact HSAME.out (if_neg (fun h=>h.2.elim (fun h=>Bool.noConfusion h) (fun h=>absurd (show tm<p1 from h) (by omega)))) _
  case done=>
   rintro D ys W hD hys ⟨hAR,hW5,hOT⟩ hK';rw[hys]at hAR;have ek:movesAll g (O.take k)++movesL g x=movesAll g (O.take (k+1)):=by rw[aN,HX.out,←lf];rfl
   rw[ek]at hAR;have hm:MarkOK w2.heap.size W (mark D::ds):=by
    obtain⟨Ds,rfl,hnd,hds⟩:=HM5.out;have hold:∀D'∈Ds,D'<w5.heap.size:=fun D' hD'=>(ai.1 (hds D' hD').2).1
    refine⟨D::Ds,rfl,cL.2 ⟨fun hm=>?_,hnd⟩,fun D' hD'=>?_⟩
    ·have:=hold D hm;omega
    ·rcases aG.1 hD' with rfl | hD'
     ·exact⟨by omega,hK'⟩
     ·have h1:=hds D' hD'
      exact⟨h1.1,(hOT.2 D' (hold D' hD') (by have:=h1.1;omega) (by have:=h1.1;omega)).trans h1.2⟩
   have HAR:=aa hAR;have HMN:=aa hm;clear hAR hOT hm hys hK' ek;go_wp2
   refine⟨⟨k+1,mark D::ds,.pointer (some ⟨xB,0,none⟩),.bool true,_,_,_,_,_,_,rfl,by omega,HAR.out,HMN.out⟩,?_⟩
   simp[intOf];omega
  case stop=>
   rintro D c' pre W _ _ h _;exact h.elim
 ·obtain rfl:k=O.length:=by omega
  have cb:=cU HA.out.bb 0;have ci:=cU HA.out.ib 0;have HE:Hid (foldA g (movesAll g (O.take O.length))=arrL g O):=aa (by rw[aL];rfl);obtain⟨Ds,rfl,hnd,hds⟩:=HM.out;have HD:=aa (cS hnd hds);clear hnd hds;go_upto_region 10 with fail
  go_quiet (fail)
  go_wp2
  refine fG Ds _ _ HD.out.1 HD.out.2 ⟨rfl,rfl,rfl,aj _,fun q _=>⟨fun _ _ _ _=>rfl,fun _=>rfl⟩⟩ (fun w' hp=>?_)
  have hdn:Below wr.heap.size wr (wr.drewN nq):=eu (ap _ _) _;have hbw:=HA.out.bel.size;have hdz:=hdn.size;exact⟨_,results_tmp2 rfl _ _ _,rfl,(HA.out.bel.trans (hdn.mono hbw)).trans ⟨hp.1,hp.2.1,hp.2.2.1,hp.2.2.2.1,fun k hk=>(hp.2.2.2.2 k (by omega)).2 (by omega)⟩⟩
end
section
open Go Go.RowKit Iv
theorem fx {α:Type} [DecidableEq α]:∀(a b:List α),a.Nodup→(∀x∈a,x∈b)→a.length≤b.length
 | [],b,_,_=>aE _
 | x::a,b,hn,hs=>by
  have hx:=hs x (by simp);obtain⟨h1,h2⟩:=cL.1 hn;have:=fx a (b.erase x) h2 (fun y hy=>(List.mem_erase_of_ne (fun e=>h1 (by rw[←e];exact hy))).2 (hs y (by simp[hy])));rw[List.length_erase_of_mem hx]at this;have:0<b.length:=List.length_pos_of_mem hx;simp only[aI];omega
def keyL (x:Lbl):Int×Int:=(x.nd,x.fr)
theorem gU {x y:Lbl}:sameL x y=true↔keyL x=keyL y:=by unfold sameL keyL;simp
def VL (g:Gp) (x:Lbl):Prop:=∃n:Nat,x.nd=n∧n<g.R.length∧(x.fr,x.tt)∈g.R.getD n []∧0≤x.tm∧x.tm≤g.D
def rowU (R:List (List Sp)) (n:Nat):List (Int×Int):=(R.getD n []).map fun s=>((n:Int),s.1)
def univ (g:Gp):List (Int×Int):=(List.range g.R.length).flatMap (rowU g.R)
theorem VL.univ {g:Gp} {x:Lbl} (h:VL g x):keyL x∈univ g:=by
 obtain⟨n,h1,h2,h3,_⟩:=h;unfold Go.Proofs.YtfnciigbbolckaaGreat.univ;rw[cw];refine⟨n,List.mem_range.2 h2,?_⟩
 unfold rowU;rw[bu];exact⟨_,h3,by unfold keyL;rw[h1]⟩
theorem fR {α β:Type} (f:α→List β) (b:Nat):∀l:List α,(∀x∈l,(f x).length≤b)→(l.flatMap f).length≤l.length*b
 | [],_=>by simp
 | x::l,h=>by
  have h1:=fR f b l (fun y hy=>h y (by simp[hy]));have h2:=h x (by simp);rw[cG,ay,aI,Nat.succ_mul];omega
theorem oq {g:Gp} (hg:GOK g) (n:Nat):(roomsP g n).length≤1100:=by
 unfold roomsP;split
 ·simp
 ·rw[aJ]
  cases h:g.R[n]? with
  | none=>simp
  | some l=>exact(hg.rs l (az h)).1
theorem iT {g:Gp} (hg:GOK g):(univ g).length≤17600:=by
 have h:=fR (rowU g.R) 1100 (List.range g.R.length) (fun n hn=>by
  have hl:=List.mem_range.1 hn;unfold rowU;rw[aZ,aJ,am hl];exact(hg.rs _ (bY hl)).1)
 rw[List.length_range]at h;have:=hg.r16;unfold univ;omega
theorem kC {g:Gp} (hg:GOK g) (x:Lbl):(movesL g x).length≤70400:=by
 have h:=fR (movesI g x) 1100 (List.range g.cs.length) (fun i _=>by
  unfold movesI;split
  ·exact aK (List.length_filterMap_le _ _) (oq hg _)
  ·simp)
 rw[List.length_range]at h;have:=hg.c64;unfold movesL movesP;omega
theorem p7 {g:Gp} {x:Lbl} {m:Mv} (hm:m∈movesL g x):∃(i:Nat) (r:Sp),i<g.cs.length∧(conA g i).fr=x.nd∧r∈roomsA g i∧moveOf g x i r=some m:=by
 unfold movesL movesP at hm;obtain⟨i,hi,h⟩:=cw.1 hm;unfold movesI at h;split at h
 ·rename_i hf
  obtain⟨r,hr,hm⟩:=List.mem_filterMap.1 h;exact⟨i,r,List.mem_range.1 hi,hf,hr,hm⟩
 ·cases h
theorem ni {g:Gp} {x:Lbl} {i:Nat} {r:Sp} {m:Mv} (h:moveOf g x i r=some m):∃b,hopG (gapA g i) (durA g i) (max x.tm r.1)=some b∧mvOK g x (conA g i) r (b+durA g i) (b+durA g i+(conA g i).rg)∧m.1=⟨(conA g i).tt,r.1,r.2,b+durA g i+(conA g i).rg⟩:=by
 unfold moveOf at h
 cases hb:hopG (gapA g i) (durA g i) (max x.tm r.1)with
 | none=>rw[hb]at h;cases h
 | some b=>
  rw[hb]at h;simp only at h;split at h
  ·rename_i hk
   injection h with h
   exact⟨b,rfl,hk,by rw[←h]⟩
  ·cases h
theorem conA_mem {g:Gp} {i:Nat} (hi:i<g.cs.length):conA g i∈g.cs:=by
 unfold conA;rw[aJ,am hi];exact bY hi
theorem durA_mem {g:Gp} (hg:GOK g) {i:Nat} (hi:i<g.cs.length):durA g i∈g.Ds:=by
 unfold durA;rw[aJ,am (by rw[hg.dl];exact hi)];exact bY _
theorem ie {g:Gp} (hg:GOK g) {x:Lbl} {m:Mv} (hm:m∈movesL g x):x.tm<m.1.tm∧m.1.tm≤g.D∧(m.1.nd≠g.dst→0≤x.tm→VL g m.1):=by
 obtain⟨i,r,hi,hf,hr,h⟩:=p7 hm;obtain⟨b,hb,hk,e⟩:=ni h;obtain⟨s,_,e2,_⟩:=i7 hb;have hd:=hg.ds _ (durA_mem hg hi);have hc:=hg.con _ (conA_mem hi);have hcf:=ee hc.1;have hrg:=hcf.rg0;have htt:=hcf.tt0;rw[e];refine⟨by show x.tm<b+durA g i+(conA g i).rg;omega,hk.2.1,fun hne h0=>?_⟩
 obtain⟨t,ht⟩:=bh htt;refine⟨t,ht,by have:=hc.2.2;omega,?_,by show 0≤b+durA g i+(conA g i).rg;omega,hk.2.1⟩
 have:roomsA g i=g.R.getD t []:=by
  unfold roomsA roomsP;rw[ht,bN,if_neg (by rw[←ht];exact hne)]
 rw[←this];exact hr
def SrcL (g:Gp) (x:Lbl):Prop:=x.nd=g.src∧x.tm=g.rd∧x.fr≤g.rd∧g.rd<x.tt∧(x.fr,x.tt)∈g.R.getD g.src.toNat []
structure LI (g:Gp) (D O:List Lbl):Prop where
 nod:(D.map keyL).Nodup
 vd:∀x∈D,VL g x
 vo:∀x∈O,VL g x
 dis:∀x∈O,∀y∈D,keyL x≠keyL y
 sup:∀x,x∈D∨x∈O→SrcL g x∨∃y∈D,∃m∈movesL g y,m.1=x∧m.1.nd≠g.dst
 beg:∀r∈g.R.getD g.src.toNat [],r.1≤g.rd→g.rd<r.2→∃y,(y∈D∨y∈O)∧keyL y=(g.src,r.1)∧y.tm≤g.rd
 cls:∀x∈D,∀m∈movesL g x,m.1.nd≠g.dst→∃y,(y∈D∨y∈O)∧keyL y=keyL m.1∧y.tm≤m.1.tm
 ord:∀x∈D,∀y∈O,x.tm≤y.tm
 len:O.length≤(D.length+1)*70400
theorem LI.dlen {g:Gp} (hg:GOK g) {D O:List Lbl} (h:LI g D O):D.length≤(univ g).length:=by
 have:=fx _ (univ g) h.nod (fun k hk=>by
  obtain⟨x,hx,rfl⟩:=bu.1 hk;exact(h.vd x hx).univ)
 simpa using this
theorem LI.dlen' {g:Gp} (hg:GOK g) {D O:List Lbl} (h:LI g D O) (hp:0<O.length):D.length<(univ g).length:=by
 obtain⟨x,hx⟩:∃x,x∈O:=⟨O[0],bY hp⟩
 have:=fx ((x::D).map keyL) (univ g) (by
  rw[List.map_cons];refine cL.2 ⟨fun hm=>?_,h.nod⟩
  obtain⟨y,hy,e⟩:=bu.1 hm;exact h.dis x hx y hy e.symm) (fun k hk=>by
  obtain⟨y,hy,rfl⟩:=bu.1 hk;rcases aG.1 hy with rfl | hy
  ·exact(h.vo _ hx).univ
  ·exact(h.vd y hy).univ)
 simp at this
 omega
theorem LI.olen {g:Gp} (hg:GOK g) {D O:List Lbl} (h:LI g D O):O.length≤2000000000:=by
 have h1:=h.dlen hg;have h2:=iT hg;have h3:=h.len;have:(D.length+1)*70400≤17601*70400:=Nat.mul_le_mul_right _ (by omega);omega
def newB (g:Gp) (D:List Lbl) (m:Mv):Bool:=(m.1.nd != g.dst)&& !(D.any (fun y=>sameL m.1 y))
def newL (g:Gp) (D:List Lbl) (ms:List Mv):List Lbl:=(ms.filter (newB g D)).map (·.1)
theorem p9 (g:Gp) (D:List Lbl) (ms:List Mv) (m:Mv):newL g D (ms++[m])=if newB g D m then newL g D ms++[m.1]else newL g D ms:=by
 unfold newL;rw[aW,bL]
 cases h:newB g D m<;>simp[h]
theorem nk {g:Gp} {D:List Lbl} {m:Mv}:newB g D m=true↔m.1.nd≠g.dst∧∀y∈D,keyL m.1≠keyL y:=by
 unfold newB;rw[aQ,bne_iff_ne,Bool.not_eq_true',cM];refine and_congr Iff.rfl (forall_congr' fun y=>forall_congr' fun _=>?_)
 rw[gU]
theorem LI.step {g:Gp} (hg:GOK g) {D O:List Lbl} (h:LI g D O) {x:Lbl} (hx:x∈O) (hmin:∀y∈O,x.tm≤y.tm):LI g (D++[x]) (O.filter (fun y=> !sameL x y)++newL g (D++[x]) (movesL g x)):=by
 obtain⟨nod,vd,vo,dis,sup,beg,cls,ord,len⟩:=h;have hnew:∀z,z∈newL g (D++[x]) (movesL g x)↔∃m∈movesL g x,m.1=z∧m.1.nd≠g.dst∧∀y∈D++[x],keyL m.1≠keyL y:=by
  intro z;unfold newL;rw[bu];constructor
  ·rintro⟨m,hm,rfl⟩
   obtain⟨h1,h2⟩:=bG.1 hm;obtain⟨h3,h4⟩:=nk.1 h2;exact⟨m,h1,rfl,h3,h4⟩
  ·rintro⟨m,h1,rfl,h3,h4⟩
   exact⟨m,bG.2 ⟨h1,nk.2 ⟨h3,h4⟩⟩,rfl⟩
 have hfil:∀z,z∈O.filter (fun y=> !sameL x y)↔z∈O∧keyL x≠keyL z:=by
  intro z;rw[bG,Bool.not_eq_true'];refine and_congr Iff.rfl ?_
  rw[←Bool.not_eq_true,gU]
 have hxv:=vo x hx;have h0:0≤x.tm:=by obtain⟨n,_,_,_,h,_⟩:=hxv;exact h
 have hcov:∀y,y∈D∨y∈O→∃z,(z∈D++[x]∨z∈O.filter (fun y=> !sameL x y)++newL g (D++[x]) (movesL g x))∧keyL z=keyL y∧z.tm≤y.tm:=by
  rintro y (hy | hy)
  ·exact⟨y,.inl (by simp[hy]),rfl,aR _⟩
  ·by_cases e:keyL x=keyL y
   ·exact⟨x,.inl (by simp),e,hmin y hy⟩
   ·exact⟨y,.inr (aA.2 (.inl ((hfil y).2 ⟨hy,e⟩))),rfl,aR _⟩
 refine⟨?_,?_,?_,?_,?_,?_,?_,?_,?_⟩
 ·rw[bL,List.nodup_append]
  refine⟨nod,by simp,fun a ha b hb e=>?_⟩
  obtain⟨y,hy,rfl⟩:=bu.1 ha;simp at hb
  subst hb;exact dis x hx y hy e.symm
 ·intro y hy
  rcases aA.1 hy with hy | hy
  ·exact vd y hy
  ·rw[aH.1 hy];exact hxv
 ·intro y hy
  rcases aA.1 hy with hy | hy
  ·exact vo y ((hfil y).1 hy).1
  ·obtain⟨m,hm,rfl,hne,_⟩:=(hnew y).1 hy
   exact(ie hg hm).2.2 hne h0
 ·intro y hy z hz
  rcases aA.1 hy with hy | hy
  ·obtain⟨h1,h2⟩:=(hfil y).1 hy
   rcases aA.1 hz with hz | hz
   ·exact dis y h1 z hz
   ·rw[aH.1 hz];exact fun e=>h2 e.symm
  ·obtain⟨m,hm,rfl,_,h2⟩:=(hnew y).1 hy
   exact h2 z hz
 ·intro y hy
  have hold:∀y,y∈D∨y∈O→SrcL g y∨∃z∈D++[x],∃m∈movesL g z,m.1=y∧m.1.nd≠g.dst:=fun y hy=>by
   rcases sup y hy with h | ⟨z,hz,m,hm⟩
   ·exact .inl h
   ·exact .inr ⟨z,by simp[hz],m,hm⟩
  rcases hy with hy | hy
  ·rcases aA.1 hy with hy | hy
   ·exact hold y (.inl hy)
   ·rw[aH.1 hy];exact hold x (.inr hx)
  ·rcases aA.1 hy with hy | hy
   ·exact hold y (.inr ((hfil y).1 hy).1)
   ·obtain⟨m,hm,e,hne,_⟩:=(hnew y).1 hy
    exact .inr ⟨x,by simp,m,hm,e,hne⟩
 ·intro r hr h1 h2
  obtain⟨y,hy,e,ht⟩:=beg r hr h1 h2;obtain⟨z,hz,e2,ht2⟩:=hcov y hy;exact⟨z,hz,e2.trans e,Int.le_trans ht2 ht⟩
 ·intro y hy m hm hne
  rcases aA.1 hy with hy | hy
  ·obtain⟨z,hz,e,ht⟩:=cls y hy m hm hne
   obtain⟨z2,hz2,e2,ht2⟩:=hcov z hz;exact⟨z2,hz2,e2.trans e,Int.le_trans ht2 ht⟩
  ·rw[aH.1 hy]at hm
   by_cases hk:∀z∈D++[x],keyL m.1≠keyL z
   ·exact⟨m.1,.inr (aA.2 (.inr ((hnew m.1).2 ⟨m,hm,rfl,hne,hk⟩))),rfl,aR _⟩
   ·obtain⟨z,hk⟩:=Classical.not_forall.1 hk
    obtain⟨hz,hk⟩:=Classical.not_imp.1 hk;have e:=Classical.not_not.1 hk;have ht:z.tm≤x.tm:=by
     rcases aA.1 hz with hz | hz
     ·exact ord z hz x hx
     ·rw[aH.1 hz];exact aR _
    have:=(ie hg hm).1;exact⟨z,.inl hz,e.symm,by omega⟩
 ·intro y hy z hz
  have hyx:y.tm≤x.tm:=by
   rcases aA.1 hy with hy | hy
   ·exact ord y hy x hx
   ·rw[aH.1 hy];exact aR _
  rcases aA.1 hz with hz | hz
  ·exact Int.le_trans hyx (hmin z ((hfil z).1 hz).1)
  ·obtain⟨m,hm,rfl,_⟩:=(hnew z).1 hz
   have:=(ie hg hm).1;omega
 ·rw[ay,ay]
  have h1:(O.filter (fun y=> !sameL x y)).length≤O.length:=bn _ _;have h2:(newL g (D++[x]) (movesL g x)).length≤(movesL g x).length:=by
   unfold newL;rw[aZ];exact bn _ _
  have h3:=kC hg x;simp only[List.length_singleton];have h4:(D.length+1+1)*70400=(D.length+1)*70400+70400:=by omega
  omega
structure LabOK (g:Gp) (D:List Lbl):Prop where
 vd:∀x∈D,VL g x
 sup:∀x∈D,SrcL g x∨∃y∈D,∃m∈movesL g y,m.1=x∧m.1.nd≠g.dst
 beg:∀r∈g.R.getD g.src.toNat [],r.1≤g.rd→g.rd<r.2→∃y∈D,keyL y=(g.src,r.1)∧y.tm≤g.rd
 cls:∀x∈D,∀m∈movesL g x,m.1.nd≠g.dst→∃y∈D,keyL y=keyL m.1∧y.tm≤m.1.tm
 nod:(D.map keyL).Nodup
theorem LI.done {g:Gp} {D:List Lbl} (h:LI g D []):LabOK g D:=by
 refine⟨h.vd,fun x hx=>h.sup x (.inl hx),fun r hr h1 h2=>?_,fun x hx m hm hne=>?_,h.nod⟩
 ·obtain⟨y,hy,e⟩:=h.beg r hr h1 h2
  exact⟨y,hy.elim id (fun h=>by cases h),e⟩
 ·obtain⟨y,hy,e⟩:=h.cls x hx m hm hne
  exact⟨y,hy.elim id (fun h=>by cases h),e⟩
theorem LabOK.perm {g:Gp} {D D':List Lbl} (h:LabOK g D) (hpp:D'.Perm D):LabOK g D':=by
 have hp:∀x,x∈D'↔x∈D:=fun x=>hpp.mem_iff
 obtain⟨h1,h2,h3,h4,h5⟩:=h;refine⟨fun x hx=>h1 x ((hp x).1 hx),fun x hx=>?_,fun r hr a b=>?_,fun x hx m hm hne=>?_,(hpp.map keyL).nodup_iff.2 h5⟩
 ·rcases h2 x ((hp x).1 hx)with h | ⟨y,hy,h⟩
  ·exact .inl h
  ·exact .inr ⟨y,(hp y).2 hy,h⟩
 ·obtain⟨y,hy,e⟩:=h3 r hr a b
  exact⟨y,(hp y).2 hy,e⟩
 ·obtain⟨y,hy,e⟩:=h4 x ((hp x).1 hx) m hm hne
  exact⟨y,(hp y).2 hy,e⟩
def begB (g:Gp) (r:Sp):Bool:=decide (r.1≤g.rd)&&decide (g.rd<r.2)
def begL (g:Gp) (l:List Sp):List Lbl:=(l.filter (begB g)).map fun r=>⟨g.src,r.1,r.2,g.rd⟩
theorem qd (g:Gp) (l:List Sp) (r:Sp):begL g (l++[r])=if begB g r then begL g l++[⟨g.src,r.1,r.2,g.rd⟩]else begL g l:=by
 unfold begL;rw[aW,bL]
 cases h:begB g r<;>simp[h]
theorem LI.start {g:Gp} (hg:GOK g):LI g [] (begL g (g.R.getD g.src.toNat [])):=by
 have hmem:∀x,x∈begL g (g.R.getD g.src.toNat [])→∃r∈g.R.getD g.src.toNat [],r.1≤g.rd∧g.rd<r.2∧x=⟨g.src,r.1,r.2,g.rd⟩:=by
  intro x hx;unfold begL at hx;obtain⟨r,hr,rfl⟩:=bu.1 hx;obtain⟨h1,h2⟩:=bG.1 hr;unfold begB at h2;rw[aQ]at h2;exact⟨r,h1,of_decide_eq_true h2.1,of_decide_eq_true h2.2,rfl⟩
 obtain⟨n,hn⟩:=bh hg.s0.1;have hnl:n<g.R.length:=by have:=hg.s0.2;omega
 refine⟨List.nodup_nil,fun x h=>(by cases h),fun x hx=>?_,fun x _ y h=>(by cases h),fun x hx=>?_,fun r hr h1 h2=>?_,fun x h=>(by cases h),fun x h=>(by cases h),?_⟩
 ·obtain⟨r,hr,h1,h2,rfl⟩:=hmem x hx
  rw[hn,bN]at hr;exact⟨n,hn,hnl,hr,hg.r0.1,hg.r0.2⟩
 ·rcases hx with h | hx
  ·cases h
  ·obtain⟨r,hr,h1,h2,rfl⟩:=hmem x hx
   exact .inl ⟨rfl,rfl,h1,h2,hr⟩
 ·refine⟨⟨g.src,r.1,r.2,g.rd⟩,.inr ?_,rfl,aR _⟩
  unfold begL;refine bu.2 ⟨r,bG.2 ⟨hr,?_⟩,rfl⟩
  unfold begB;rw[decide_eq_true h1,decide_eq_true h2];rfl
 ·unfold begL
  rw[aZ];refine aK (bn _ _) ?_
  rw[hn,bN,aJ,am hnl];have:=(hg.rs _ (bY hnl)).1;show(g.R[n]).length≤_
  simp only[bE];omega
end
end Go.Proofs.YtfnciigbbolckaaGreat
