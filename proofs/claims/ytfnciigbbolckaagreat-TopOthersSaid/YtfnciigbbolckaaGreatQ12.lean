/- Part 12 of the proof about mailboattop.TopOthers. No condition. -/
import Derived.Test.YtfnciigbbolckaaGreatQ00
import Derived.Test.YtfnciigbbolckaaGreatQ01
import Derived.Test.YtfnciigbbolckaaGreatQ11
set_option linter.unusedVariables false
set_option linter.unusedSimpArgs false
set_option maxRecDepth 100000
set_option maxHeartbeats 64000000
namespace Go.Proofs.YtfnciigbbolckaaGreat
section
open Go Go.RowKit Iv
attribute [local go_sem] Oper.semAt_some
attribute [local go_sem] pw gu B_app pv B_get B_toList
def nextS (ts:List Tk):Int:=match ts.getLast? with
 | none=>1
 | some t=>t.no+1
theorem mR (ts:List Tk) (g:Nat) (T:TypeId) (cs:Array Value) (ut:Value) (w:World) (hg:w.heap[g]? =some (.cells cs T (0,0))) (h3:cs[3]? =some ut) (ht:RTks w ut ts) (hb:∀t,ts.getLast? =some t→0≤t.no∧t.no≤1152921504606846976):
  Calls Tryz.prog 44 #[.pointer (some ⟨g,0,none⟩)] w fun e w'=>e= .returned (.int .i64 (nextS ts))∧Below w.heap.size w w':=by
 obtain⟨ps,hps,hrow,hrh⟩:=ht;have HPS:=aa hps;obtain⟨a,c,rfl,h1,h2,-,h4⟩:=hrow;have c3:w.cell? ⟨g,3,none⟩=some (.slice a ps.length c):=(cU hg 3).trans h3;have zg:g<w.heap.size:=(ai.1 hg).1;unfold maxLen at h2
 cases hp:ps.length with
 | zero=>
  have HE:Hid (nextS ts=1):=aa (by rw[HPS.out,aF hp];rfl);rw[hp]at c3;clear h4 h1 hg h3 hps hrh hb hp;go_enter Tryz.func44,Tryz.ntmps44
  go_wp2
  go_ret
  exact⟨by rw[HE.out];rfl,cZ⟩
 | succ m=>
  obtain⟨bb,o,rfl,hbb,hcc⟩:=h4 (by omega);obtain⟨⟨t,u⟩,hx⟩:∃x,ps[m]? =some x:=⟨_,am (by omega)⟩
  obtain⟨g0,-⟩:=iA hcc hx;have hlast:ts.getLast? =some t:=by rw[HPS.out,List.getLast?_eq_getElem?,bO,aZ,hp,show m+1-1=m by omega,hx];rfl
  have HE:Hid (nextS ts=t.no+1):=aa (by unfold nextS;rw[hlast]);obtain⟨b0,b1⟩:=hb t hlast;obtain⟨no,hno⟩:=cR t.no
  rw[hno]at g0 b0 b1 HE;have wm:IntKind.i64.wrap ((m:Int)+1-1)=(m:Int):=by rw[ax];omega
  have wm2:IntKind.i64.wrap (m:Int)=(m:Int):=by rw[ax];omega
  have wn:IntKind.i64.wrap (no+1)=no+1:=by rw[ax];omega
  have m0:(0:Int)≤(m:Int):=by omega
  have m1:(m:Int)<(m:Int)+1:=by omega
  have d0:((m:Int)+1==0)=false:=by rw[beq_eq_false_iff_ne];omega
  clear hcc hx hlast h4 hg h3 hps hrh hb hno;go_enter Tryz.func44,Tryz.ntmps44
  go_upto_region 3 with fail
  go_quiet (fail)
  go_wp2
  go_ret
  exact⟨by rw[HE.out];rfl,eu (ap _ _) _⟩
def SetPost (ts:List Tk) (t:Tk) (base g:Nat) (ex:List Nat) (T:TypeId) (cs:Array Value) (ut:Value) (w:World) (e:Ending) (w':World):Prop:=
 e= .returned (.tuple #[])∧(∃ut',w'.heap[g]? =some (.cells (cs.setIfInBounds 3 ut') T (0,0))∧OwnT w' base (g::ex) ut' (setS ts t)∧(ut'.ownBlock=ut.ownBlock∨∀b,ut'.ownBlock=some b→w.heap.size≤b))∧KpO g ut.ownBlock w w'
theorem iJ (ts:List Tk) (t:Tk) (u:Value) (base g:Nat) (ex:List Nat) (T:TypeId) (cs:Array Value) (ut:Value) (w:World) (hg:w.heap[g]? =some (.cells cs T (0,0))) (hT:T≠41) (h3:cs[3]? =some ut) (ho:OwnT w base (g::ex) ut ts) (hbase:base≤w.heap.size) (hu:RHops w u t.hs) (hux:t.hs≠[]→(∀b,ut.ownBlock=some b→u.ownBlock≠some b)∧∀b∈g::ex,u.ownBlock≠some b) (hl:ts.length≤64):
  Calls Tryz.prog 45 #[.pointer (some ⟨g,0,none⟩),.agg #[.int .i64 t.no,.int .i64 t.q.src,.int .i64 t.q.dst,.int .i64 t.q.sz,.int .i64 t.q.rd,.int .i64 t.q.D,.int .i64 t.q.pr,.bool t.q.cu,u,.int .i64 t.st,.int .i64 t.un]] w (SetPost ts t base g ex T cs ut w):=by
 have hne:=ho.ne hg hT;obtain⟨ps,hps,hown,hh⟩:=ho;have hpl:ps.length=ts.length:=by rw[hps];simp
 obtain⟨ta,tc,rfl⟩:=dg hown;obtain⟨ua,uc,rfl,hu1,hu2,-,-⟩:=id hu;have HG:=aa hg;have H3:=aa h3;have HPS:=aa hps;have HOWN:=aa hown;have HH:=aa hh;have HU:=aa hu;have HUX:=aa hux;have HNE:=aa hne;have hp64:ps.length≤64:=by omega
 have zg:g<w.heap.size:=(ai.1 hg).1;clear hg h3 hps hown hh hu hux hpl hne;go_enter Tryz.func45,Tryz.ntmps45
 go_upto_region 1 with fail
 obtain⟨w1,hw1⟩:=cR (w.alloc (.cells #[.int .i64 t.no,.int .i64 t.q.src,.int .i64 t.q.dst,.int .i64 t.q.sz,.int .i64 t.q.rd,.int .i64 t.q.D,.int .i64 t.q.pr,.bool t.q.cu,(.slice ua t.hs.length uc),.int .i64 t.st,.int .i64 t.un] 41))
 rw[hw1];have B1:Below w.heap.size w w1:=by rw[←hw1];exact de (ap _ _)
 have X1:w1.heap[w.heap.size]? =some (.cells #[.int .i64 t.no,.int .i64 t.q.src,.int .i64 t.q.dst,.int .i64 t.q.sz,.int .i64 t.q.rd,.int .i64 t.q.D,.int .i64 t.q.pr,.bool t.q.cu,(.slice ua t.hs.length uc),.int .i64 t.st,.int .i64 t.un] 41 (0,0)):=by rw[←hw1];exact cW
 have z1:w.heap.size<w1.heap.size:=(ai.1 X1).1;have c3:w1.cell? ⟨g,3,none⟩=some (.slice ta ps.length tc):=(B1.cell (p:=⟨g,3,none⟩) zg).trans ((cU HG.out 3).trans H3.out);have zg1:g<w1.heap.size:=by omega
 have HO1:Hid _:=aa (cV HOWN.out (fun q hq=>B1.block q (HOWN.out.lt q hq).2));have HX:=aa X1;have HB1:=aa B1;clear hw1 X1 B1;go_wp2_with fail
 refine(index_tk ps _ t.no w.heap.size _ _ (dF (by decide) fI HO1.out) HX.out rfl).mono ?_
 unfold IdxPost;rintro e w2 ⟨hb2,hcase⟩;have B2:Below w.heap.size w w2:=dq HB1.out hb2;have Y1:=(hb2.block _ z1).trans HX.out;have z2:w.heap.size<w2.heap.size:=by have:=hb2.size;omega
 have zg2:g<w2.heap.size:=by omega
 have c32:w2.cell? ⟨g,3,none⟩=some (.slice ta ps.length tc):=(B2.cell (p:=⟨g,3,none⟩) zg).trans ((cU HG.out 3).trans H3.out);have HG2:Hid (w2.heap[g]? =some (.cells cs T (0,0))):=aa ((B2.block _ zg).trans HG.out);have f32:w2.frozen? ⟨g,3,none⟩=false:=dC HG2.out 3;have cy:=fun q=>cU Y1 q
 have HO2:Hid _:=aa (cV HO1.out (fun q hq=>hb2.block q (HO1.out.lt q hq).2));have HB2:=aa B2;clear c3 hb2 Y1 B2;have hwb:base≤w2.heap.size:=by omega
 have hone:∀v∈tkP (t,.slice ua t.hs.length uc),v.oneCell'=true:=fun v hv=>oX (fun _=>trivial) (ps:=[(t,.slice ua t.hs.length uc)]) (fun p hp=>by rw[aH.1 hp];exact⟨_,_,_,rfl⟩) v (by simpa using hv)
 have HONE:=aa hone;clear hone;rcases hcase with⟨rfl,hF⟩ | ⟨k,rfl,hk,hF,hkt⟩
 ·
  have HF:=aa hF;obtain⟨i0,hin,hz0,hz1,hz2⟩:=info_parts lX;clear hF;go_upto_region 3 with fail
  refine dd (fun V=>Below w2.heap.size w2 V) [0,0,0,0,0,1,1,2,3,0,0,0,3] [0,1,2,3,4,5,6,7,8,9,10,11,12] (by kernel_rfl) (by kernel_rfl) ?_ ?_
  case refine_1=>exact bdrew (ap _ _)
  (iterate 7 (first | (refine cX rfl (by decide) (by rfl) (fun w1 hS=>by(try(obtain⟨_,_⟩:=bcell (hS rfl)));go_simp;rfl) ?_;simp only[Act.put,ae,af,ag]) | (refine dm rfl (by decide) (by rfl) ?_;simp only[Act.put,ae,af,ag])))
  (refine dA rfl rfl (by rfl) (fun K hK=>?_);go_simp)
  (refine hK _ _ (by exact de (bdrew (ap _ _))) ?_;clear hK K;(try simp only[Act.put,ae,af,ag]))
  obtain⟨w3,hw3⟩:=cR ((w2.alloc (.cells #[.int .i64 t.no,.int .i64 t.q.src,.int .i64 t.q.dst,.int .i64 t.q.sz,.int .i64 t.q.rd,.int .i64 t.q.D,.int .i64 t.q.pr,.bool t.q.cu,(.slice ua t.hs.length uc),.int .i64 t.st,.int .i64 t.un] 41)).drew)
  rw[hw3];have X3:w3.heap[w2.heap.size]? =some (.cells (tkP (t,.slice ua t.hs.length uc)).toArray 41 (0,0)):=by rw[←hw3];exact cW
  have B3:Below w2.heap.size w2 w3:=by rw[←hw3];exact bdrew (de (ap _ _))
  have z3:w2.heap.size<w3.heap.size:=(ai.1 X3).1;have HO3:Hid _:=aa (cV HO2.out (fun q hq=>B3.block q (HO2.out.lt q hq).2));have HG3:Hid (w3.heap[g]? =some (.cells cs T (0,0))):=aa ((B3.block _ zg2).trans HG2.out);have HX3:=aa X3;have HB3:=aa (dq HB2.out B3);have hwb3:base≤w3.heap.size:=by omega
  clear hw3 X3 B3 cy c32 f32;refine di rfl rfl (by rfl) (fun K hK=>?_)
  refine dW _ _ _ _ rfl base 41 i0 _ 11 104 Tryz.underlying34 hin hz0 hz1 hz2 rfl (by omega) (.slice ta ps.length tc) ps.length (ps.flatMap tkP) rfl HO3.out ⟨w2.heap.size,0,none⟩ 1 1 (tkP (t,.slice ua t.hs.length uc)) rfl rfl (dI HX3.out) HONE.out (by simp only[maxLen];omega) (by omega) (by omega) (by omega) ?_
  intro vo w9 ho9 hg9 hf9;obtain⟨va,vc,rfl⟩:=dg ho9;have HG9:Hid (w9.heap[g]? =some (.cells cs T (0,0))):=aa ((dw hg9 (by omega) (fun e=>HNE.out e)).trans HG3.out);have hgl9:g<w9.heap.size:=(ai.1 HG9.out).1;have c9:w9.cell? ⟨g,3,none⟩=some (.slice ta ps.length tc):=(cU HG9.out 3).trans H3.out;have f9:w9.frozen? ⟨g,3,none⟩=false:=dC HG9.out 3;have HO9:=aa ho9;have HGR:=aa hg9;have HF9:=aa hf9;clear ho9 hg9 hf9;refine hK _ _ ?_
  clear hK K
  (try simp only[Act.put,ae,af,ag])
  (iterate 3 (first | (refine cX rfl (by decide) (by rfl) (fun w1 hS=>by(try(obtain⟨_,_⟩:=bcell (hS rfl)));go_simp;rfl) ?_;simp only[Act.put,ae,af,ag]) | (refine dm rfl (by decide) (by rfl) ?_;simp only[Act.put,ae,af,ag])))
  (refine di rfl rfl (by rfl) (fun K hK=>?_);go_simp)
  refine hK _ _ ?_
  clear hK K;refine du ?_
  go_wp2
  go_end0
  have hK1:KpO g (Value.slice ta ps.length tc).ownBlock w w9:=(KpO.of HB3.out).trans (KpO.grown HGR.out);refine⟨rfl,⟨_,eD HG9.out 3 _,?_,?ath⟩,hK1.trans (KpO.set g 3 _ w9 _)⟩
  have hset:setS ts t=(ps++[(t,Value.slice ua t.hs.length uc)]).map (·.1):=by
   rw[iI,HPS.out,bL]
   ·rfl
   ·intro x hx
    rw[HPS.out]at hx;obtain⟨p,hp,rfl⟩:=bu.1 hx;simpa using HF.out p hp
  rw[hset];have hat:(Value.slice va (ps.length+1) vc).ownBlock=(Value.slice ta ps.length tc).ownBlock∨∀b,(Value.slice va (ps.length+1) vc).ownBlock=some b→w.heap.size≤b:=by
   rcases HF9.out with h | h
   ·exact .inl h
   ·exact .inr (fun b hb=>by rw[h]at hb;have:=Option.some.inj hb;omega)
  refine OwnT.fin (ex:=ex) (ut:=.slice ta ps.length tc) (fun p hp=>?_) ?_ (hK1.trans (KpO.set g 3 _ w9 _)) hat
  ·rcases aA.1 hp with hp | hp
   ·obtain⟨h1,h2⟩:=HH.out p hp
    exact⟨h1,h2⟩
   ·rw[aH.1 hp]
    exact⟨HU.out,fun hn=>HUX.out hn⟩
  ·refine cV (w:=w9) (by rw[ay,aV];simpa using HO9.out) (fun q hq=>heap_setCell_other w9 ⟨g,3,none⟩ q _ (fun e=>?_))
   have e:q=g:=e;subst e;rcases HF9.out with h | h
   ·exact HNE.out (by rw[←h];exact hq)
   ·rw[h]at hq
    have:=Option.some.inj hq;omega
  case ath=>
   rcases HF9.out with h | h
   ·exact .inl h
   ·exact .inr (fun b hb=>by rw[h]at hb;have:=Option.some.inj hb;omega)
 ·
  obtain⟨⟨t0,u0⟩,hx⟩:∃x,ps[k]? =some x:=⟨_,am hk⟩
  have HF:=aa hF;have HT0:Hid (t0.no=t.no):=aa (by simpa using hkt _ hx);have HX0:=aa hx;have hpos:0<ps.length:=by omega
  obtain⟨tb,tc2,he⟩:=fd HO2.out hpos;injection he with he1 he2 he3
  subst he1 he3;have k0:(0:Int)≤(k:Int):=by omega
  have k1:(k:Int)<(ps.length:Int):=by omega
  have hnk:decide ((k:Int)<0)=false:=decide_eq_false (by omega);have htb:tb<w2.heap.size:=(HO2.out.lt tb rfl).2;have hthere:Hid (w2.there tb (k*11) 11):=aa (fun j hj=>by
   have h2:(ps.flatMap tkP)[k*11+j]? =(tkP (t0,u0))[j]?:=by rw[eG tkP 11 fI ps k j hj,HX0.out];rfl
   have h3:j<(tkP (t0,u0)).length:=by rw[fI];exact hj
   have h4:=HO2.out.cells (g:=tb) rfl _ _ (h2.trans (am h3));have h5:=HO2.out.frozenAt (g:=tb) (k*11+j);rw[fj]at h4;simp only[bx]at h4;refine⟨by rw[h4];rfl,?_⟩
   simpa using h5)
  clear hF hkt hx;go_upto_region 4 with fail
  refine dd (fun V=>Below w2.heap.size w2 V) [0,0,0,0,1,0,1,0,3] [0,1,2,3,4,5,6,7,8] (by kernel_rfl) (by kernel_rfl) ?_ ?_
  case refine_1=>exact bdrew (ap _ _)
  (iterate 8 (first | (refine cX rfl (by decide) (by rfl) (fun w1 hS=>by(try(obtain⟨_,_⟩:=bcell (hS rfl)));go_simp;rfl) ?_;simp only[Act.put,ae,af,ag]) | (refine dm rfl (by decide) (by rfl) ?_;simp only[Act.put,ae,af,ag])))
  refine di rfl rfl (by rfl) (fun K hK=>?_)
  refine wp_store_mid 41 _ _ rfl tb (k*11) #[.int .i64 t.no,.int .i64 t.q.src,.int .i64 t.q.dst,.int .i64 t.q.sz,.int .i64 t.q.rd,.int .i64 t.q.D,.int .i64 t.q.pr,.bool t.q.cu,(.slice ua t.hs.length uc),.int .i64 t.st,.int .i64 t.un] rfl rfl ((World.there_drew w2 tb (k*11) 11).2 hthere.out) (by kernel_rfl) (by simp[Value.oneCell']) ?_
  show K _ (w2.drew.setCells tb (k*11) (tkP (t,.slice ua t.hs.length uc)))
  have hown5:=own_setK (w:=w2.drew) (x:=(t,Value.slice ua t.hs.length uc)) (by decide) fI hk HO2.out rfl;have hK1:KpO g (Value.slice (some ⟨tb,0,none⟩) ps.length tc).ownBlock w (w2.drew.setCells tb (k*11) (tkP (t,.slice ua t.hs.length uc))):=((KpO.of HB2.out).trans (KpO.of (bdrew (ap _ _)))).trans (KpO.sets g tb _ w2.drew _);have hgtb:g≠tb:=fun e=>HNE.out (by rw[e];rfl)
  have hg5:(w2.drew.setCells tb (k*11) (tkP (t,.slice ua t.hs.length uc))).heap[g]? =some (.cells cs T (0,0)):=(dR tb g hgtb _ _ w2.drew).trans HG2.out;obtain⟨w5,hw5⟩:=cR (w2.drew.setCells tb (k*11) (tkP (t,.slice ua t.hs.length uc)))
  rw[hw5]at hown5 hK1 hg5;have H5:=aa (cS hown5 (cS hK1 hg5));clear hown5 hK1 hg5;rw[hw5];clear hw5;refine hK _ _ ?_
  clear hK K;refine du ?_
  go_wp2
  go_end0
  refine⟨rfl,⟨.slice (some ⟨tb,0,none⟩) ps.length tc,?_,?_,.inl rfl⟩,H5.out.2.1⟩
  ·rw[show cs.setIfInBounds 3 (Value.slice (some ⟨tb,0,none⟩) ps.length tc)=cs from by
    apply Array.ext_getElem?
    intro j;rw[Array.getElem?_setIfInBounds];split
    ·rename_i e
     subst e;rw[H3.out];rw[if_pos (ai.1 H3.out).1]
    ·rfl]
   exact H5.out.2.2
  ·have hset:setS ts t=(ps.set k (t,Value.slice ua t.hs.length uc)).map (·.1):=by
    rw[List.map_set,←HPS.out];refine oY (x:=t0) (fun x hx=>?_) (by rw[HPS.out,bO,HX0.out];rfl) HT0.out
    rw[HPS.out,←List.map_take]at hx;obtain⟨p,hp,rfl⟩:=bu.1 hx;simpa using HF.out p hp
   rw[hset];refine OwnT.fin (ex:=ex) (ut:=.slice (some ⟨tb,0,none⟩) ps.length tc) (fun p hp=>?_) ?_ H5.out.2.1 (.inl rfl)
   ·rcases List.mem_or_eq_of_mem_set hp with hp | rfl
    ·obtain⟨h1,h2⟩:=HH.out p hp
     exact⟨h1,h2⟩
    ·exact⟨HU.out,fun hn=>HUX.out hn⟩
   ·rw[List.length_set]
    exact H5.out.1
end
section
open Go Go.RowKit Iv
attribute [local go_sem] Oper.semAt_some
attribute [local go_sem] pw gu B_app pv B_get B_toList
def HoV (B oB:Nat) (vo:Value) (L:List Hld) (W:World):Prop:=Boxed W oB 42 vo∧W.ownsRow B 75 5 vo L.length (L.flatMap hldC)
def AddPost (B oB:Nat) (vo:Value) (L:List Hld) (W:World) (e:Ending) (W':World):Prop:=e= .returned (.tuple #[])∧(∃vo',HoV B oB vo' L W'∧(vo'.ownBlock=vo.ownBlock∨∀b,vo'.ownBlock=some b→W.heap.size≤b))∧KpO oB vo.ownBlock W W'
def addL (L:List Hld) (node from_ to_ sz tk:Int):List Hld:=L++(if from_<to_ then[⟨node,from_,to_,sz,tk⟩]else[])
theorem mS (B oB nB fB qB tB:Nat) (vo:Value) (L:List Hld) (q:Rq) (node from_ to_ tk:Int) (W:World) (h:HoV B oB vo L W) (hoB:oB<B) (hB:B≤W.heap.size) (hn:Boxed W nB 3 (.int .i64 node)) (hf:Boxed W fB 3 (.int .i64 from_)) (hq:W.heap[qB]? =some (.cells #[.int .i64 q.src,.int .i64 q.dst,.int .i64 q.sz,.int .i64 q.rd,.int .i64 q.D,.int .i64 q.pr,.bool q.cu] 38 (0,0))) (ht:Boxed W tB 3 (.int .i64 tk)) (hl:L.length≤100000):
  Calls Tryz.prog 96 #[.int .i64 to_,.pointer (some ⟨fB,0,none⟩),.pointer (some ⟨oB,0,none⟩),.pointer (some ⟨nB,0,none⟩),.pointer (some ⟨qB,0,none⟩),.pointer (some ⟨tB,0,none⟩)] W (AddPost B oB vo (addL L node from_ to_ q.sz tk) W):=by
 obtain⟨bo,ow⟩:=h;obtain⟨va,vc,rfl⟩:=dg ow;have HBO:=aa bo;have HOW:=aa ow;have co:=bo.cell;have fo:=bo.frozen;have zo:=bo.lt;have cn:=hn.cell;have cf:=hf.cell;have ct:=ht.cell;have zn:=hn.lt;have zf:=hf.lt;have zt:=ht.lt;have cq:=fun o=>cU hq o
 have zq:qB<W.heap.size:=(ai.1 hq).1;obtain⟨i0,hin,hz0,hz1,hz2⟩:=info_parts iF;clear bo ow hn hf hq ht;by_cases z:from_<to_
 case neg=>
  have d0:decide (from_<to_)=false:=decide_eq_false z;have HE:Hid (addL L node from_ to_ q.sz tk=L):=aa (by unfold addL;rw[if_neg z,cK]);rw[HE.out];clear z;go_enter Tryz.func96,Tryz.ntmps96
  go_wp2
  go_end0
  exact⟨rfl,⟨_,⟨HBO.out,HOW.out⟩,.inl rfl⟩,KpO.of (ap _ _)⟩
 have d0:decide (from_<to_)=true:=decide_eq_true z;have HE:Hid (addL L node from_ to_ q.sz tk=L++[⟨node,from_,to_,q.sz,tk⟩]):=aa (by unfold addL;rw[if_pos z]);rw[HE.out];clear z;obtain⟨sz,hsz⟩:=cR q.sz
 rw[hsz]at cq ⊢;clear hsz;go_enter Tryz.func96,Tryz.ntmps96
 go_wp2_with (at_builtin;refine dK _ rfl _ _ _ rfl B 75 i0 _ 5 40 bV hin hz0 hz1 hz2 rfl (by omega) (.slice va L.length vc) L.length (L.flatMap hldC) rfl (cV HOW.out (fun q hq=>ak _ _ _ (HOW.out.lt q hq).2)) ⟨W.heap.size,0,none⟩ 1 1 (hldC ⟨node,from_,to_,sz,tk⟩) rfl rfl (dI cW) (by simp[hldC,Value.oneCell']) (by simp only[maxLen];omega) (by omega) (by simp;omega) (by omega) ?_;intro vo9 w9 ho9 hg9 hf9;obtain⟨va9,vc9,rfl⟩:=dg ho9;have HB9:Hid (Boxed w9 oB 42 (.slice va L.length vc)):=aa ((dw hg9 (by simp;omega) (fun e=>by have:=(HOW.out.lt oB e).1;omega)).trans ((ak _ _ _ zo).trans HBO.out));have co9:=HB9.out.cell;have fo9:=HB9.out.frozen;have zo9:=HB9.out.lt;have HO9:=aa ho9;have HG9:=aa hg9;have HF9:=aa hf9;clear ho9 hg9 hf9)
 go_end0
 have hK:KpO oB (Value.slice va L.length vc).ownBlock W w9:=(KpO.of (de (ap _ _))).trans (KpO.grown HG9.out);have hat:(Value.slice va9 (L.length+1) vc9).ownBlock=(Value.slice va L.length vc).ownBlock∨∀b,(Value.slice va9 (L.length+1) vc9).ownBlock=some b→W.heap.size≤b:=by
  rcases HF9.out with h | h
  ·exact .inl h
  ·exact .inr (fun b hb=>by rw[h]at hb;have:=Option.some.inj hb;simp at this;omega)
 refine⟨rfl,⟨.slice va9 (L.length+1) vc9,⟨HB9.out.set _,?_⟩,hat⟩,hK.trans (KpO.set oB 0 _ w9 _)⟩
 refine cV (w:=w9) (by rw[ay,aV];simpa using HO9.out) (fun q hq=>heap_setCell_other w9 ⟨oB,0,none⟩ q _ (fun e=>?_))
 have e:q=oB:=e;have:=(HO9.out.lt q hq).1;omega
end
section
open Go Go.RowKit
inductive PT where
 | fin:PT
 | go (i:Nat) (t:PT):PT
 | br2 (i j:Nat) (t u:PT):PT
 | br3 (i j k:Nat) (t u v:PT):PT
def PT.size:PT→Nat
 | .fin=>0
 | .go _ t=>t.size+1
 | .br2 _ _ t _=>t.size+1
 | .br3 _ _ _ t _ _=>t.size+1
section
variable {P:Program} {ops:Array Oper} {Q:Exit→Act→World→Prop} {md:Region.Mode} {S:World→Prop} {kd:List Nat}
def treeB (md:Region.Mode) (ops:Array Oper) (kd:List Nat):PT→Array Bool→Bool
 | .fin,listed=>(Region.ready md ops listed).isEmpty
 | .go i t,listed=>(if kd.getD i 2≤1 then(Region.ready md ops listed).contains i&&Region.free md ops listed i else decide (Region.ready md ops listed=[i]))&&treeB md ops kd t (listed.setIfInBounds i true)
 | .br2 i j t u,listed=>decide (Region.ready md ops listed=[i,j])&&decide (kd.getD i 2=2)&&decide (kd.getD j 2=2)&&decide (t.size=u.size)&&treeB md ops kd t (listed.setIfInBounds i true)&&treeB md ops kd u (listed.setIfInBounds j true)
 | .br3 i j k t u v,listed=>decide (Region.ready md ops listed=[i,j,k])&&decide (kd.getD i 2=2)&&decide (kd.getD j 2=2)&&decide (kd.getD k 2=2)&&decide (t.size=u.size)&&decide (t.size=v.size)&&treeB md ops kd t (listed.setIfInBounds i true)&&treeB md ops kd u (listed.setIfInBounds j true)&&treeB md ops kd v (listed.setIfInBounds k true)
def wpTree (P:Program) (ops:Array Oper) (Q:Exit→Act→World→Prop) (S:World→Prop) (kd:List Nat):PT→Act→World→Prop
 | .fin,a,w=>Q .normal a w
 | .go i t,a,w=>
  match ops[i]? with
  | none=>False
  | some o=>
   if kd.getD i 2≤1 then ∃v,YieldsIf P ops (fun w=>kd.getD i 2=1→S w) o v a∧wpTree P ops Q S kd t (a.put o.dst v) w
   else if kd.getD i 2=2 then wpOp P ops Q i (fun a' w'=>S w'∧wpTree P ops Q S kd t a' w') a w
   else wpOp P ops Q i (wpTree P ops Q S kd t) a w
 | .br2 i j t u,a,w=>wpOp P ops Q i (fun a' w'=>S w'∧wpTree P ops Q S kd t a' w') a w∧wpOp P ops Q j (fun a' w'=>S w'∧wpTree P ops Q S kd u a' w') a w
 | .br3 i j k t u v,a,w=>wpOp P ops Q i (fun a' w'=>S w'∧wpTree P ops Q S kd t a' w') a w∧wpOp P ops Q j (fun a' w'=>S w'∧wpTree P ops Q S kd u a' w') a w∧wpOp P ops Q k (fun a' w'=>S w'∧wpTree P ops Q S kd v a' w') a w
theorem dS (hB:lateB md ops kd=true) (hB2:smallB kd=true) (hsel:Region.noSelect ops=true) (hQ:∀c a a' w,Q (.panic c) a w→Q (.panic c) a' w):
  ∀(t:PT) (listed:Array Bool) (a:Act) (w:World),Closed md ops listed→treeB md ops kd t listed=true→(Live kd listed→S w)→wpTree P ops Q S kd t a w→wpAnyM P md ops Q S kd t.size listed a w
 | .fin,listed,a,w,_,hp,_,h=>⟨by simpa [treeB]using hp,h⟩
 | .go i t,listed,a,w,hc,hp,hS,h=>by
  simp only[treeB,aQ]at hp;unfold wpTree at h
  cases ho:ops[i]? with
  | none=>rw[ho]at h;exact h.elim
  | some o=>
   rw[ho]at h;simp only at h;by_cases hk:kd.getD i 2≤1
   ·rw[if_pos hk]at hp h
    obtain⟨v,hy,h'⟩:=h;have hr:i∈Region.ready md ops listed:=by have:=hp.1;simp only[aQ]at this;simpa using this.1
    have hf:Region.free md ops listed i=true:=by have:=hp.1;simp only[aQ]at this;exact this.2
    refine gk hB hB2 ho hk (Region.noSelect_spec hsel) (fun c a w=>hQ c _ _ w) t.size listed a w hc (Region.free_spec ho hf) hr hy hS ?_
    exact dS hB hB2 hsel hQ t _ _ _ (hc.set hr) hp.2 (fun hl=>hS (gw hl)) h'
   ·rw[if_neg hk]at hp h
    have hr:Region.ready md ops listed=[i]:=by simpa using hp.1
    have hri:i∈Region.ready md ops listed:=by rw[hr];simp
    refine⟨fun h0=>(by rw[hr]at h0;cases h0),fun j hj=>?_⟩
    have hji:j=i:=by rw[hr]at hj;simpa using hj
    subst hji;by_cases hk2:kd.getD j 2=2
    ·rw[if_pos hk2]at h
     refine wpOp_mono (fun a' w' h'=>?_) h
     have ht:Turns kd S j w w':=⟨fun h1=>absurd h1 hk,fun _=>h'.1⟩
     exact⟨ht,dS hB hB2 hsel hQ t _ _ _ (hc.set hri) hp.2 (dU hB hc hri hS ht (dQ hB2 j)) h'.2⟩
    ·rw[if_neg hk2]at h
     refine wpOp_mono (fun a' w' h'=>?_) h
     have ht:Turns kd S j w w':=⟨fun h1=>absurd h1 hk,fun h2=>absurd h2 hk2⟩
     exact⟨ht,dS hB hB2 hsel hQ t _ _ _ (hc.set hri) hp.2 (dU hB hc hri hS ht (dQ hB2 j)) h'⟩
 | .br2 i j t u,listed,a,w,hc,hp,hS,h=>by
  simp only[treeB,aQ,decide_eq_true_eq]at hp;obtain⟨⟨⟨⟨⟨hready,hi⟩,hj⟩,hsz⟩,ht⟩,hu⟩:=hp;unfold wpTree at h;refine⟨(fun h0=>by rw[hready]at h0;cases h0),fun q hq=>?_⟩
  have hq':q=i∨q=j:=by rw[hready]at hq;simpa using hq
  rcases hq' with rfl | rfl
  ·refine wpOp_mono (fun a2 w2 h'=>?_) h.1
   have htu:Turns kd S q w w2:=⟨fun hle=>by omega,fun _=>h'.1⟩
   exact⟨htu,dS hB hB2 hsel hQ t _ _ _ (hc.set hq) ht (dU hB hc hq hS htu (dQ hB2 q)) h'.2⟩
  ·refine wpOp_mono (fun a2 w2 h'=>?_) h.2
   have htu:Turns kd S q w w2:=⟨fun hle=>by omega,fun _=>h'.1⟩
   rw[hsz];exact⟨htu,dS hB hB2 hsel hQ u _ _ _ (hc.set hq) hu (dU hB hc hq hS htu (dQ hB2 q)) h'.2⟩
 | .br3 i j k t u v,listed,a,w,hc,hp,hS,h=>by
  simp only[treeB,aQ,decide_eq_true_eq]at hp;obtain⟨⟨⟨⟨⟨⟨⟨⟨hready,hi⟩,hj⟩,hk⟩,hsz⟩,hsz2⟩,ht⟩,hu⟩,hv⟩:=hp;unfold wpTree at h;refine⟨(fun h0=>by rw[hready]at h0;cases h0),fun q hq=>?_⟩
  have hq':q=i∨q=j∨q=k:=by rw[hready]at hq;simpa using hq
  rcases hq' with rfl | rfl | rfl
  ·refine wpOp_mono (fun a2 w2 h'=>?_) h.1
   have htu:Turns kd S q w w2:=⟨fun hle=>by omega,fun _=>h'.1⟩
   exact⟨htu,dS hB hB2 hsel hQ t _ _ _ (hc.set hq) ht (dU hB hc hq hS htu (dQ hB2 q)) h'.2⟩
  ·refine wpOp_mono (fun a2 w2 h'=>?_) h.2.1
   have htu:Turns kd S q w w2:=⟨fun hle=>by omega,fun _=>h'.1⟩
   rw[hsz];exact⟨htu,dS hB hB2 hsel hQ u _ _ _ (hc.set hq) hu (dU hB hc hq hS htu (dQ hB2 q)) h'.2⟩
  ·refine wpOp_mono (fun a2 w2 h'=>?_) h.2.2
   have htu:Turns kd S q w w2:=⟨fun hle=>by omega,fun _=>h'.1⟩
   rw[hsz2];exact⟨htu,dS hB hB2 hsel hQ v _ _ _ (hc.set hq) hv (dU hB hc hq hS htu (dQ hB2 q)) h'.2⟩
def treeAllB (md:Region.Mode) (ops:Array Oper) (kd:List Nat) (t:PT):Bool:=
 lateB md ops kd&&smallB kd&&Region.noSelect ops&&decide (t.size=ops.size)&&treeB md ops kd t (Array.replicate ops.size false)
theorem ei {id:Nat} {a:Act} {w:World} (S:World→Prop) (kd:List Nat) (t:PT) (hm:P.follows .mixedOrders=true) (hB:treeAllB .any ops kd t=true)
  (hS:S w.drew) (h:wpTree P ops (Calm Q) S kd t a w.drew):(Code.region id ops true).wp P Q a w:=by
 simp only[treeAllB,aQ,decide_eq_true_eq]at hB;obtain⟨⟨⟨⟨h1,h2⟩,h3⟩,h4⟩,h5⟩:=hB;refine Code.wp_mono Calm.imp (wp_region_any hm (gj (S:=S) (kd:=kd) _ _ _ _ ?_))
 rw[←h4];refine dS h1 h2 h3 (fun _ _ _ _ h=>h) t _ a _ (fun j oj _ hl=>?_) (by rw[h4];exact h5) (fun _=>hS) h
 rw[getD_replicate_false]at hl;cases hl
theorem dG {l rl:List Oper} {i:Nat} {t:PT} {o:Oper} {v:Value} {a:Act} {w:World} (hd:l.drop i=o::rl) (hk:kd.getD i 2≤1) (hw:Region.wanted o (yielded l.toArray a.tmps)=true)
  (hy:∀w,(kd.getD i 2=1→S w)→(execOp a.eval o).run P w= .ok (.value v) w) (h:wpTree P l.toArray Q S kd t (a.put o.dst v) w):wpTree P l.toArray Q S kd (.go i t) a w:=by
 have ho:=eq hd;unfold wpTree;rw[ho];simp only;rw[if_pos hk];exact⟨v,.inl ⟨hw,hy⟩,h⟩
theorem dH {l rl:List Oper} {i:Nat} {t:PT} {o:Oper} {a:Act} {w:World} (hd:l.drop i=o::rl) (hk:kd.getD i 2=2) (hw:Region.wanted o (yielded l.toArray a.tmps)=true)
  (h:∀K:Act→World→Prop,(∀a' w',S w'→wpTree P l.toArray Q S kd t a' w'→K a' w')→Oper.wp P o a w K Q):wpTree P l.toArray Q S kd (.go i t) a w:=by
 have ho:=eq hd;unfold wpTree;rw[ho];simp only;rw[if_neg (by omega),if_pos hk];unfold wpOp;simp only[ho,hw,if_true];exact .inl (h _ fun a' w' h1 h2=>⟨h1,h2⟩)
theorem ey {l rl:List Oper} {i:Nat} {t:PT} {o:Oper} {a:Act} {w:World} (hd:l.drop i=o::rl) (hk:kd.getD i 2=3) (hw:Region.wanted o (yielded l.toArray a.tmps)=true)
  (h:∀K:Act→World→Prop,(∀a' w',wpTree P l.toArray Q S kd t a' w'→K a' w')→Oper.wp P o a w K Q):wpTree P l.toArray Q S kd (.go i t) a w:=by
 have ho:=eq hd;unfold wpTree;rw[ho];simp only;rw[if_neg (by omega),if_neg (by omega)];unfold wpOp;simp only[ho,hw,if_true];exact .inl (h _ fun a' w' h2=>h2)
theorem ej {l rl:List Oper} {i:Nat} {t:PT} {o:Oper} {a:Act} {w:World} (hd:l.drop i=o::rl) (hw:Region.wanted o (yielded l.toArray a.tmps)=true)
  (h:∀K:Act→World→Prop,(∀a' w',S w'→wpTree P l.toArray Q S kd t a' w'→K a' w')→Oper.wp P o a w K Q):wpOp P l.toArray Q i (fun a' w'=>S w'∧wpTree P l.toArray Q S kd t a' w') a w:=by
 have ho:=eq hd;unfold wpOp;simp only[ho,hw,if_true];exact .inl (h _ fun a' w' h1 h2=>⟨h1,h2⟩)
theorem fe {a:Act} {w:World} (h:Q .normal a w):wpTree P ops (Calm Q) S kd .fin a w:=h
end
end
end Go.Proofs.YtfnciigbbolckaaGreat
