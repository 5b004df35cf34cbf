/- Part 9 of the proof about mailboattop.TopOthers. No condition. -/
import Derived.Test.YtfnciigbbolckaaGreatQ00
import Derived.Test.YtfnciigbbolckaaGreatQ02
import Derived.Test.YtfnciigbbolckaaGreatQ04
import Derived.Test.YtfnciigbbolckaaGreatQ06
import Derived.Test.YtfnciigbbolckaaGreatQ08
set_option linter.unusedVariables false
set_option linter.unusedSimpArgs false
set_option maxRecDepth 100000
set_option maxHeartbeats 64000000
namespace Go.Proofs.YtfnciigbbolckaaGreat
attribute [local go_sem] Oper.semAt_some
attribute [local go_sem] pw gu B_app pv B_get B_toList
section
open Go Go.RowKit Go.Maps Iv
theorem nW:Keyed Tryz.prog 3:=int_keyed bp
theorem mK (w:World):(zeroValue 3).run Tryz.prog w= .ok (.int .i64 0) w:=by kernel_rfl
theorem iD:(Tryz.prog.info? 3).map (fun i=>(i.zero,i.size,i.bytes))=some (some (.int .i64 0),1,8):=by kernel_rfl
def ints (l:List Int):List Value:=l.map (Value.int .i64)
theorem fP {H:Type} {P:Program} {k:TypeId} {R:Value→Option (DataW H×List MemPlace)} {w w':World} {b n:Nat} {D:DataW H} (h:w.ownsMap P k R b n D) (e:w'.heap[b]? =w.heap[b]?):w'.ownsMap P k R b n D:=by
 obtain⟨es,clock,hb,r⟩:=h;exact⟨es,clock,e.trans hb,r⟩
def LvS (B Z mb n:Nat) (D:DataW Unit) (ts:List Int) (W:World):Prop:=
 ∃vo,Boxed W Z 186 (.map (some mb))∧W.ownsMap Tryz.prog 3 (plainElem (H:=Unit) Tryz.prog 3) mb n D∧Boxed W (Z+1) 22 vo∧W.ownsRow B 3 1 vo ts.length (ints ts)∧∀x∈ts,(Lit.int .i64 x).wf=true
def KpT (Z:Nat) (W W':World):Prop:=W.heap.size≤W'.heap.size∧∀q cs e f,W.heap[q]? =some (.cells cs e f)→e≠3→q≠Z+1→W'.heap[q]? =W.heap[q]?
def updF (f:Int→Int) (t m:Int) (x:Int):Int:=if x=t then f x+m else f x
structure LvM (D:DataW Unit) (f:Int→Int) (ts:List Int) (n:Nat):Prop where
 im:Maps.IsMap D
 nod:ts.Nodup
 at':∀t,(Lit.int .i64 t).wf=true→D.atKey (.int .i64 t) (.lit (.int .i64 0))= .lit (.int .i64 (f t))
 has':∀t,Maps.has D (.int .i64 t)=true↔t∈ts
 lo:∀t,-((n:Int)*65536)≤f t
 hi:∀t,f t≤(n:Int)*65536
theorem LvM.val {D:DataW Unit} {f:Int→Int} {ts:List Int} {n:Nat} (h:LvM D f ts n) {t c:Int} (hw:(Lit.int .i64 t).wf=true) (hat:D.atKey (.int .i64 t) (.lit (.int .i64 0))= .lit (.int .i64 c)):f t=c:=by
 have:=(h.at' t hw).symm.trans hat;injection this with this
 injection this
theorem oW {D:DataW Unit} {f:Int→Int} {ts ts':List Int} {n:Nat} (h:LvM D f ts n) {t c m:Int} (hw:(Lit.int .i64 t).wf=true) (hat:D.atKey (.int .i64 t) (.lit (.int .i64 0))= .lit (.int .i64 c)) (hm: -65536≤m∧m≤65536) (hn:n≤5000) (hnd:ts'.Nodup) (hts:∀x,x∈ts'↔x=t∨x∈ts):LvM (D.put (.int .i64 t) (.lit (.int .i64 (wrap64 (c+m))))) (updF f t m) ts' (n+1):=by
 have hc:=h.val hw hat;have l1:=h.lo t;have l2:=h.hi t;have hwr:wrap64 (c+m)=c+m:=by unfold wrap64;omega
 rw[hwr];refine⟨h.im.put _ _,hnd,fun x hx=>?_,fun x=>?_,fun x=>?_,fun x=>?_⟩
 ·unfold updF
  by_cases e:x=t
  ·subst e
   rw[if_pos rfl,Maps.atKey_put_same h.im (show WideAt.IsKeyLit (.int .i64 x)from trivial),hc]
  ·rw[if_neg e,Maps.atKey_put_other (fun he=>e (by injection he))]
   exact h.at' x hx
 ·rw[hts]
  by_cases e:x=t
  ·subst e
   rw[Maps.has_put_same h.im (show WideAt.IsKeyLit (.int .i64 x)from trivial)];exact⟨fun _=>.inl rfl,fun _=>rfl⟩
  ·rw[Maps.has_put_other (fun he=>e (by injection he)),h.has']
   exact⟨fun h=>.inr h,fun h=>h.resolve_left e⟩
 ·have:=h.lo x
  unfold updF;split<;>omega
 ·have:=h.hi x
  unfold updF;split<;>omega
theorem LvM.old {D:DataW Unit} {f:Int→Int} {ts:List Int} {n:Nat} (h:LvM D f ts n) {t c m:Int} (hw:(Lit.int .i64 t).wf=true) (hat:D.atKey (.int .i64 t) (.lit (.int .i64 0))= .lit (.int .i64 c)) (hm: -65536≤m∧m≤65536) (hn:n≤5000) (hh:Maps.has D (.int .i64 t)=true):LvM (D.put (.int .i64 t) (.lit (.int .i64 (wrap64 (c+m))))) (updF f t m) ts (n+1):=
 oW h hw hat hm hn h.nod (fun x=>⟨fun h=>.inr h,fun hx=>hx.elim (fun e=>by rw[e];exact(h.has' t).1 hh) id⟩)
theorem LvM.new {D:DataW Unit} {f:Int→Int} {ts:List Int} {n:Nat} (h:LvM D f ts n) {t c m:Int} (hw:(Lit.int .i64 t).wf=true) (hat:D.atKey (.int .i64 t) (.lit (.int .i64 0))= .lit (.int .i64 c)) (hm: -65536≤m∧m≤65536) (hn:n≤5000) (hh:Maps.has D (.int .i64 t)=false):LvM (D.put (.int .i64 t) (.lit (.int .i64 (wrap64 (c+m))))) (updF f t m) (ts++[t]) (n+1):=
 oW h hw hat hm hn (List.nodup_append.2 ⟨h.nod,by simp,fun a ha b hb e=>by
  rw[aH.1 hb]at e;subst e;have:=(h.has' a).2 ha;rw[hh]at this
  cases this⟩) (fun x=>by rw[aA,aH];exact or_comm)
theorem LvM.nil (i:Int):LvM (.map []) (chg [] i) [] 0:=
 ⟨⟨[],rfl⟩,List.nodup_nil,fun _ _=>rfl,fun t=>by simp[Maps.has],fun _=>by simp[chg],fun _=>by simp[chg]⟩
theorem LvM.ext {D:DataW Unit} {f g:Int→Int} {ts:List Int} {n:Nat} (h:LvM D f ts n) (e:∀x,f x=g x):LvM D g ts n:=by
 have:f=g:=funext e;rw[←this];exact h
theorem LvM.two {D:DataW Unit} {l:List Hld} {x:Hld} {i:Int} {ts:List Int} {n:Nat} (hz:x.nd=i) (h:LvM D (updF (updF (chg l i) x.fr x.sz) x.tt (- x.sz)) ts n):LvM D (chg (l++[x]) i) ts n:=h.ext (fun y=>by
 rw[j6];simp only[chg];unfold updF chgC;rw[if_pos hz];by_cases e1:y=x.fr
 ·subst e1
  by_cases e2:x.fr=x.tt
  ·rw[if_pos e2,if_pos rfl,if_pos rfl,if_pos e2.symm];omega
  ·rw[if_neg e2,if_pos rfl,if_pos rfl,if_neg (fun e=>e2 e.symm)];omega
 ·by_cases e2:y=x.tt
  ·subst e2
   rw[if_pos rfl,if_neg e1,if_neg (fun e=>e1 e.symm),if_pos rfl];omega
  ·rw[if_neg e2,if_neg e1,if_neg (fun e=>e1 e.symm),if_neg (fun e=>e2 e.symm)];omega)
theorem LvM.none {D:DataW Unit} {l:List Hld} {x:Hld} {i:Int} {ts:List Int} {n:Nat} (hz:¬x.nd=i) (h:LvM D (chg l i) ts n):LvM D (chg (l++[x]) i) ts n:=h.ext (fun y=>by
 rw[j6];simp only[chg];unfold chgC;rw[if_neg hz];omega)
theorem LvM.sum {D:DataW Unit} {f:Int→Int} {ts:List Int} {n:Nat} (h:LvM D f ts n) {S c x:Int} {l:List Int} (hS:S=sumF f l) (hc:f x=c) (hn:n≤1024) (hl:l.length≤2000):wrap64 (S+c)=S+c:=by
 have h1:∀t,-((67108864:Int))≤f t∧f t≤67108864:=fun t=>by
  have:=h.lo t;have:=h.hi t;omega
 have h2:=mF h1 l;have h3:=h1 x;unfold wrap64;omega
def NotePost (B Z mb n:Nat) (f:Int→Int) (t m:Int) (ts:List Int) (W:World) (e:Ending) (W':World):Prop:=
 e= .returned (.tuple #[])∧(∃D' ts',(ts'=ts∨∃t,ts'=ts++[t])∧(∀x,x∈ts'↔x=t∨x∈ts)∧LvM D' (updF f t m) ts' (n+1)∧LvS B Z mb (n+1) D' ts' W')∧KpT Z W W'∧Below mb W W'
theorem mL (B Z mb n:Nat) (D:DataW Unit) (f:Int→Int) (ts:List Int) (t m:Int) (W:World) (hM:LvM D f ts n) (hm: -65536≤m∧m≤65536) (hmb:mb<Z) (hZ:Z+1<B) (hB:B≤W.heap.size) (h:LvS B Z mb n D ts W) (hn:n≤5000) (hl:ts.length≤5000) (ht:(Lit.int .i64 t).wf=true):
  Calls Tryz.prog 108 #[.int .i64 t,.int .i64 m,.pointer (some ⟨Z,0,none⟩),.pointer (some ⟨Z+1,0,none⟩)] W (NotePost B Z mb n f t m ts W):=by
 have HLM:=aa hM;have HMB:=aa hm;clear hM hm;obtain⟨vo,bm,hm,bt,ow,hwf⟩:=h;obtain⟨va,vc,rfl⟩:=dg ow;obtain⟨i0,hin,hz0,hz1,hz2⟩:=info_parts iD;have HBM:=aa bm;have HM:=aa hm;have HBT:=aa bt;have HOW:=aa ow;have HWF:=aa hwf;have cm:=bm.cell;have ct:=bt.cell;have ft:=bt.frozen;have zm:=bm.lt;have zt:=bt.lt;have hkey:keyOf Tryz.prog 3 (.int .i64 t)=some (.int .i64 t):=keyOf_int_mk bp ht;obtain⟨hb,hhb⟩:=cR (Maps.has D (.int .i64 t))
 have HB:=aa hhb;have HT:=aa ht;clear bm hm bt ow hwf hhb ht
 cases hb with
 | true=>
  go_enter Tryz.func108,Tryz.ntmps108
  go_wp2_with (first
   | (at_lookup;refine wpList_lookup_own_ok_int _ rfl _ _ 186 rfl 3 3 .i64 nW Tryz.underlying186 bp (mK _) mb n D rfl HM.out _ _ rfl hkey ?_;intro c hat hwc;rw[HB.out];clear hat hwc)
   | (at_lookup;refine wpList_lookup_own_int _ rfl _ _ 186 rfl 3 3 .i64 nW Tryz.underlying186 bp (mK _) mb n D rfl HM.out _ _ rfl hkey ?_;intro c2 hat2 hwc2;have HAT:=aa hat2;clear hat2 hwc2)
   | (at_mapUpdate;refine wpList_mapUpdate_own _ rfl _ _ _ 186 rfl 3 3 nW Tryz.underlying186 _ mb n D rfl HM.out (by unfold maxLen;omega) _ _ _ rfl rfl hkey _ [] (plainElem_int bp (wrap64_wf _)) ?_;intro w1 hown1 hg1))
  go_end0
  have hkeep:∀q,q<W.heap.size→q≠mb→w1.heap[q]? =W.heap[q]?:=fun q hq hne=>dw hg1 hq (fun e=>by injection e with e;exact hne e.symm)
  refine⟨rfl,⟨_,ts,.inl rfl,(fun x=>⟨fun h=>.inr h,fun h=>h.elim (fun e=>by rw[e];exact(HLM.out.has' t).1 HB.out) id⟩),HLM.out.old HT.out HAT.out HMB.out hn HB.out,(.slice va ts.length vc),(hkeep Z (by omega) (by omega)).trans HBM.out,hown1,(hkeep (Z+1) (by omega) (by omega)).trans HBT.out,cV HOW.out (fun q hq=>hkeep q (HOW.out.lt q hq).2 (by have:=(HOW.out.lt q hq).1;omega)),HWF.out⟩,⟨hg1.size,fun q cs e f hq _ _=>?_⟩,(ap mb W).grown hg1 (by omega) (fun q hq=>by injection hq with hq;omega)⟩
  refine hkeep q (ai.1 hq).1 (fun e'=>?_)
  subst e';obtain⟨es,clock,e1,_⟩:=HM.out;rw[e1]at hq
  cases hq
 | false=>
  go_enter Tryz.func108,Tryz.ntmps108
  go_wp2_with (first
   | (at_lookup;refine wpList_lookup_own_ok_int _ rfl _ _ 186 rfl 3 3 .i64 nW Tryz.underlying186 bp (mK _) mb n D rfl HM.out _ _ rfl hkey ?_;intro c hat hwc;rw[HB.out];clear hat hwc)
   | (at_builtin;refine dK _ rfl _ _ _ rfl B 3 i0 _ 1 8 cP hin hz0 hz1 hz2 rfl (by omega) (.slice va ts.length vc) ts.length (ints ts) rfl (cV HOW.out (fun q hq=>ak _ _ _ (HOW.out.lt q hq).2)) ⟨W.heap.size,0,none⟩ 1 1 [.int .i64 t] rfl rfl (dI cW) (by simp[Value.oneCell']) (by simp only[maxLen];omega) (by omega) (by simp;omega) (by omega) ?_;intro vo w9 ho9 hg9 hf9;obtain⟨av,cv,rfl⟩:=dg ho9;have hz9:Z+1<w9.heap.size:=(by have:=hg9.size;simp at this;omega);have HB9:Hid (Boxed w9 (Z+1) 22 (.slice va ts.length vc)):=aa ((dw hg9 (by simp;omega) (fun e=>by have:=(HOW.out.lt _ e).1;omega)).trans ((ak _ _ _ (by omega)).trans HBT.out));have c9:=HB9.out.cell;have f9:=HB9.out.frozen;have HB8:Hid (Boxed w9 Z 186 (.map (some mb))):=aa ((dw hg9 (by simp;omega) (fun e=>by have:=(HOW.out.lt _ e).1;omega)).trans ((ak _ _ _ (by omega)).trans HBM.out));have c8:=HB8.out.cell;have c8b:∀(u:Value) (o:Nat),(w9.setCell ⟨Z+1,0,none⟩ u).cell? ⟨Z,o,none⟩=w9.cell? ⟨Z,o,none⟩:=(fun u o=>aU (heap_setCell_other w9 ⟨Z+1,0,none⟩ Z u (by show Z≠Z+1;omega)));have HM9:Hid ((w9.setCell ⟨Z+1,0,none⟩ (.slice av (ts.length+1) cv)).ownsMap Tryz.prog 3 (plainElem (H:=Unit) Tryz.prog 3) mb n D):=aa (fP HM.out ((heap_setCell_other w9 ⟨Z+1,0,none⟩ mb _ (by show mb≠Z+1;omega)).trans ((dw hg9 (by simp;omega) (fun e=>by have:=(HOW.out.lt _ e).1;omega)).trans (ak _ _ _ (by omega))))))
   | (at_lookup;refine wpList_lookup_own_int _ rfl _ _ 186 rfl 3 3 .i64 nW Tryz.underlying186 bp (mK _) mb n D rfl HM9.out _ _ rfl hkey ?_;intro c2 hat2 hwc2;have HAT:=aa hat2;clear hat2 hwc2)
   | (at_mapUpdate;refine wpList_mapUpdate_own _ rfl _ _ _ 186 rfl 3 3 nW Tryz.underlying186 _ mb n D rfl HM9.out (by unfold maxLen;omega) _ _ _ rfl rfl hkey _ [] (plainElem_int bp (wrap64_wf _)) ?_;intro w1 hown1 hg1))
  go_end0
  have hne:∀q,q≠Z+1→(w9.setCell ⟨Z+1,0,none⟩ (.slice av (ts.length+1) cv)).heap[q]? =w9.heap[q]?:=fun q h=>heap_setCell_other w9 ⟨Z+1,0,none⟩ q _ h
  have hs9:W.heap.size<w9.heap.size:=by have:=hg9.size;simp at this;omega
  have hkeep:∀q,q<w9.heap.size→q≠mb→w1.heap[q]? =(w9.setCell ⟨Z+1,0,none⟩ (.slice av (ts.length+1) cv)).heap[q]?:=fun q hq hne=>dw hg1 (by simp;omega) (fun e=>by injection e with e;exact hne e.symm)
  have hkeep9:∀q,q<W.heap.size→(Value.slice va ts.length vc).ownBlock≠some q→w9.heap[q]? =W.heap[q]?:=fun q hq hn=>(dw hg9 (by simp;omega) hn).trans (ak _ _ _ hq)
  have hal:Below W.heap.size W (W.alloc (.cells #[.int .i64 t] 3)):=de (ap _ _);have hb9:Below mb W w9:=Below.grown (hal.mono (by omega)) hg9 (by simp;omega) (fun q hq=>by have:=(HOW.out.lt q hq).1;omega);have hbs:Below mb W (w9.setCell ⟨Z+1,0,none⟩ (.slice av (ts.length+1) cv)):=bset hb9 (by show mb≤Z+1;omega);refine⟨rfl,⟨_,ts++[t],.inr ⟨_,rfl⟩,(fun x=>by rw[aA,aH];exact or_comm),HLM.out.new HT.out HAT.out HMB.out hn HB.out,(.slice av (ts.length+1) cv),(hkeep Z (by omega) (by omega)).trans ((hne Z (by omega)).trans HB8.out),hown1,(hkeep (Z+1) (by omega) (by omega)).trans (HB9.out.set _),?_,?_⟩,⟨by have:=hg1.size;simp at this;omega,fun q cs e f hq he hqz=>?_⟩,hbs.grown hg1 (by simp;omega) (fun q hq=>by injection hq with hq;omega)⟩
  ·have ho:w9.ownsRow B 3 1 (.slice av (ts.length+1) cv) (ts++[t]).length (ints (ts++[t])):=by
    rw[ay];simpa [ints]using ho9
   refine cV ho (fun q hq=>?_)
   have h1:=ho.lt q hq;exact(hkeep q h1.2 (by omega)).trans (hne q (by omega))
  ·intro x hx
   rcases aA.1 hx with hx | hx
   ·exact HWF.out x hx
   ·simp at hx;subst hx;exact HT.out
  ·have hql:q<W.heap.size:=(ai.1 hq).1
   refine(hkeep q (by omega) (fun e'=>?_)).trans ((hne q hqz).trans (hkeep9 q hql (fun e'=>?_)))
   ·subst e'
    obtain⟨es,clock,e1,_⟩:=HM.out;rw[e1]at hq
    cases hq
   ·obtain⟨cur,e1⟩:=i6 HOW.out e'
    rw[hq]at e1;injection e1 with e1
    injection e1 with _ e1 _
    exact he e1
end
section
open Go Go.RowKit Iv
def WOK (qs:List Int) (cs:List Con) (t:Tk):Prop:=∀h∈t.hs,HpB cs h
def weakB (cs:List Con) (now:Int) (t:Tk):Bool:=decide (t.q.pr<2)&&restB cs t now
def weakS (cs:List Con) (now:Int) (ts:List Tk):List Int:=(ts.filter (weakB cs now)).map (·.no)
theorem nX (cs:List Con) (now:Int) (ts:List Tk) (t:Tk):weakS cs now (ts++[t])=if weakB cs now t then weakS cs now ts++[t.no]else weakS cs now ts:=by
 unfold weakS;rw[aW,bL]
 cases h:weakB cs now t<;>simp[h]
theorem gT (cs:List Con) (now:Int) (ts:List Tk):(weakS cs now ts).length≤ts.length:=by
 unfold weakS;rw[aZ];exact bn _ _
def IntsPost (l:List Int) (w:World) (e:Ending) (w':World):Prop:=(∃u,e= .returned u∧RRow intC 1 w' w'.heap.size u l∧RFrom w.heap.size u)∧Below w.heap.size w w'
theorem iE {w:World} {base:Nat} {u:Value} {l:List Int} (h:w.ownsRow base 3 1 u l.length (ints l)):RRow intC 1 w w.heap.size u l:=by
 rcases h.2 with⟨h0,h1⟩ | ⟨g,cap,cur,h0,hb,hg,hn,hm,hs,ht⟩
 ·have:l=[]:=aF (by simpa using h1)
  subst this;rw[h0];exact RRow.nil _ _ _ _
 ·refine⟨some ⟨g,0,none⟩,cap,h0,hn,hm,(fun e=>by cases e),fun _=>⟨g,0,rfl,(ai.1 hg).1,fun i x hx j v hv=>?_⟩⟩
  have hj:j=0:=by
   have:=(aw.1 hv).1;simp[intC]at this;omega
  subst hj;simp[intC]at hv
  subst hv;have h2:(ints l)[i]? =some (.int .i64 x):=by unfold ints;rw[bO,hx];rfl
  have:=h.cells (g:=g) (by rw[h0];rfl) i _ h2;rw[fj]at this;simpa using this
theorem kl (qs:List Int) (cs:List Con) (ts:List Tk) (uq uc ub ut:Value) (now:Int) (w:World) (hq:∃a k c,uq= .slice a k c) (hc:RRow conC 7 w w.heap.size uc cs) (hp:PlanOK qs cs) (hub:∃a k c,ub= .slice a k c) (ht:RTks w ut ts) (hb:∀t∈ts,WOK qs cs t) (hl:ts.length≤64):
  Calls Tryz.prog 83 #[.agg #[uq,uc,ub,ut],.int .i64 now] w (IntsPost (weakS cs now ts) w):=by
 obtain⟨aq,kq,cq,rfl⟩:=hq;obtain⟨ab,kb,cb,rfl⟩:=hub;have HC:=aa hc;have HP:=aa hp;have HB:=aa hb;obtain⟨ca,cc,rfl,-⟩:=hc;obtain⟨ps,hps,hrow,hrh⟩:=ht;have hpl:ps.length=ts.length:=by rw[hps];simp
 have HPS:=aa hps;have HRH:=aa hrh;obtain⟨a,c,rfl,h1,h2,-,h4⟩:=hrow;have H4:=aa h4;unfold maxLen at h2;have hps64:ps.length≤64:=by omega
 obtain⟨i0,hin,hz0,hz1,hz2⟩:=info_parts iD;clear h4 hb hp hps hrh hpl;go_enter Tryz.func83,Tryz.ntmps83
 go_upto_region 1 with fail
 obtain⟨w1,hw1⟩:=cR (w.alloc (.cells #[.slice aq kq cq,.slice ca cs.length cc,.slice ab kb cb,.slice a ps.length c] 36))
 rw[hw1];have B1:Below w.heap.size w w1:=by rw[←hw1];exact de (ap _ _)
 have X0:w1.heap[w.heap.size]? =some (.cells #[.slice aq kq cq,.slice ca cs.length cc,.slice ab kb cb,.slice a ps.length c] 36 (0,0)):=by rw[←hw1];exact cW
 have z1:w.heap.size<w1.heap.size:=(ai.1 X0).1;have cx0:=fun q=>cU X0 q
 have HX0:=aa X0;have HB1:=aa B1;clear hw1 X0 B1;go_wp2_with fail
 go_loopw [5,11] (fun ov kv wr=>∃k:Nat,k≤ps.length∧kv= .int .i64 (k:Int)∧Hid (wr.ownsRow w1.heap.size 3 1 ov (weakS cs now (ts.take k)).length (ints (weakS cs now (ts.take k))))∧Hid (Below w1.heap.size w1 wr)) (fun _ kv _=>ps.length-(intOf kv).toNat)
 case atStart=>exact⟨0,aE _,rfl,aa (aX _ _ _ _),aa (ap _ _)⟩
 case round=>
  obtain⟨k,hk,rfl,HO,HBR⟩:=hrel;obtain⟨va,vc,rfl⟩:=dg HO.out;have zr:w1.heap.size≤wr.heap.size:=HBR.out.size;have HBW:Hid (Below w.heap.size w wr):=aa (HB1.out.trans (HBR.out.mono (by omega)));have c0:=fun q=>(HBR.out.cell (p:=⟨w.heap.size,q,none⟩) z1).trans (cU HX0.out q)
  have zr0:w.heap.size<wr.heap.size:=by omega
  have k0:(0:Int)≤(k:Int):=by omega
  clear cx0;by_cases hlt:k<ps.length
  ·obtain⟨bb,o,rfl,hbb,hcc⟩:=H4.out (by omega)
   obtain⟨x,hx⟩:∃x,ps[k]? =some x:=⟨_,am hlt⟩
   have HXX:=aa hx;obtain⟨t,u⟩:=x;have hru:=HRH.out (t,u) (az hx);simp only at hru;have HRU:=aa hru;obtain⟨ua,uc2,hue,-⟩:=id hru;subst hue;obtain⟨g0,g1,g2,g3,g4,g5,g6,g7,g8,g9,g10⟩:=(iA hcc hx).below (fun q=>HBW.out.cell (p:=⟨bb,q,none⟩) hbb);have hbr:bb<wr.heap.size:=by omega
   have k1:(k:Int)<(ps.length:Int):=by omega
   have htx:ts[k]? =some t:=by rw[HPS.out,bO,hx];rfl
   have HTS:Hid (weakS cs now (ts.take (k+1))=if weakB cs now t then weakS cs now (ts.take k)++[t.no]else weakS cs now (ts.take k)):=aa (by rw[el htx,nX]);have HTB:Hid (∀h∈t.hs,HpB cs h):=aa (HB.out t (az htx));have hwl:(weakS cs now (ts.take k)).length≤64:=by
    have e1:=gT cs now (ts.take k);have e2:(ts.take k).length≤k:=by rw[aS];omega
    omega
   obtain⟨L,hL⟩:=cR (weakS cs now (ts.take k))
   rw[hL]at HTS HO hwl ⊢;clear hx hru hcc htx hL;go_upto_region 5 with fail
   obtain⟨w7,hw7⟩:=cR (wr.alloc (.cells #[.int .i64 t.no,.int .i64 t.q.src,.int .i64 t.q.dst,.int .i64 t.q.sz,.int .i64 t.q.rd,.int .i64 t.q.D,.int .i64 t.q.pr,.bool t.q.cu,(.slice ua t.hs.length uc2),.int .i64 t.st,.int .i64 t.un] 41))
   rw[hw7];have b7:Below wr.heap.size wr w7:=by rw[←hw7];exact de (ap _ _)
   have X7:w7.heap[wr.heap.size]? =some (.cells #[.int .i64 t.no,.int .i64 t.q.src,.int .i64 t.q.dst,.int .i64 t.q.sz,.int .i64 t.q.rd,.int .i64 t.q.D,.int .i64 t.q.pr,.bool t.q.cu,(.slice ua t.hs.length uc2),.int .i64 t.st,.int .i64 t.un] 41 (0,0)):=by rw[←hw7];exact cW
   have z7:wr.heap.size<w7.heap.size:=(ai.1 X7).1;have c7:=fun q=>cU X7 q
   have c70:=fun q=>(b7.cell (p:=⟨w.heap.size,q,none⟩) zr0).trans (c0 q)
   have HX7:=aa X7;have HB7:Hid (Below w.heap.size w w7):=aa (dq HBW.out b7);have HBB7:Hid (Below w1.heap.size w1 w7):=aa (HBR.out.trans (b7.mono (by omega)));have HO7:Hid _:=aa (cV HO.out (fun q hq=>b7.block q (HO.out.lt q hq).2));have zr7:w.heap.size<w7.heap.size:=by omega
   clear hw7 b7 X7 g0 g1 g2 g3 g4 g5 g6 g7 g8 g9 g10 c0;by_cases y:t.q.pr<2
   case neg=>
    have dy:decide (t.q.pr<2)=false:=decide_eq_false y;have HF:Hid (weakB cs now t=false):=aa (by unfold weakB;rw[dy];rfl);clear y;go_wp2
    go_roundw
    case rel=>exact⟨k+1,by omega,by go_num,aa (by rw[HTS.out,HF.out];exact HO7.out),HBB7⟩
    case measure=>simp[intOf];omega
   have dy:decide (t.q.pr<2)=true:=decide_eq_true y;clear y;go_wp2_with fail
   refine(pI qs cs _ _ t _ now _ ⟨_,_,_,rfl⟩ (HC.out.below' HB7.out) HP.out (HRU.out.below' HB7.out) HTB.out).mono ?_
   obtain⟨rb,hrb⟩:=cR (restB cs t now)
   rw[hrb];have HWB:Hid (weakB cs now t=rb):=aa (by unfold weakB;rw[dy,hrb];rfl);rintro e w8 ⟨rfl,hb8⟩;have c8:=fun q=>cU ((hb8.block _ z7).trans HX7.out) q
   have z8:wr.heap.size<w8.heap.size:=by have:=hb8.size;omega
   have HB8:Hid (Below w.heap.size w w8):=aa (dq HB7.out hb8);have HBB8:Hid (Below w1.heap.size w1 w8):=aa (HBB7.out.trans (hb8.mono (by omega)));have HO8:Hid _:=aa (cV HO7.out (fun q hq=>hb8.block q (HO7.out.lt q hq).2));have z18:w1.heap.size≤w8.heap.size:=HBB8.out.size;clear c7 c70 hb8 hrb
   cases rb with
   | false=>
    go_wp2
    go_roundw
    case rel=>exact⟨k+1,by omega,by go_num,aa (by rw[HTS.out,HWB.out];exact HO8.out),HBB8⟩
    case measure=>simp[intOf];omega
   | true=>
    go_wp2_with (at_builtin;refine dK _ rfl _ _ _ rfl w1.heap.size 3 i0 _ 1 8 cP hin hz0 hz1 hz2 rfl (by omega) (.slice va L.length vc) L.length (ints L) rfl (cV HO8.out (fun q hq=>ak _ _ _ (HO8.out.lt q hq).2)) ⟨w8.heap.size,0,none⟩ 1 1 [.int .i64 t.no] rfl rfl (dI cW) (by simp[Value.oneCell']) (by simp only[maxLen];omega) (by omega) (by simp;omega) (by omega) ?_;intro vo w9 ho9 hg9 hf9)
    have hB9:Below w1.heap.size w1 w9:=Below.grown (balloc HBB8.out z18) hg9 (by simp;omega) (fun q hq=>(HO8.out.lt q hq).1);have HO9:=aa ho9;clear ho9 hg9 hf9;go_wp2
    go_roundw
    case rel=>exact⟨k+1,by omega,by go_num,aa (by rw[HTS.out,HWB.out,if_pos rfl,ay];unfold ints;rw[bL];exact HO9.out),aa hB9⟩
    case measure=>simp[intOf];omega
  ·obtain rfl:k=ps.length:=by omega
   have HE:Hid (ts.take ps.length=ts):=aa (by rw[HPS.out,bM (by simp)]);go_wp2
   go_ret
   refine⟨⟨_,rfl,?_,?_⟩,HBW.out⟩
   ·have:=HO.out
    rw[HE.out]at this ⊢;exact iE this
   ·exact(gx HO.out).le (by omega)
end
section
open Go Go.RowKit Iv
def findS (ts:List Tk) (no:Int):Option Tk:=ts.find? (fun t=>t.no==no)
def FindPS (ps:List (Tk×Value)) (ts:List Tk) (no:Int) (w:World) (e:Ending) (w':World):Prop:=
 ((∃t u,findS ts no=some t∧(t,u)∈ps∧e= .returned (.tuple #[.agg #[.int .i64 t.no,.int .i64 t.q.src,.int .i64 t.q.dst,.int .i64 t.q.sz,.int .i64 t.q.rd,.int .i64 t.q.D,.int .i64 t.q.pr,.bool t.q.cu,u,.int .i64 t.st,.int .i64 t.un],.bool true])∧RHops w' u t.hs)∨(findS ts no=none∧∃z,e= .returned (.tuple #[z,.bool false])))∧Below w.heap.size w w'
theorem km {α:Type} {p:α→Bool} {l:List α} {k:Nat} {x:α} (h:(l.take k).find? p=none) (hx:l[k]? =some x):(l.take (k+1)).find? p=if p x then some x else none:=by
 rw[el hx,List.find?_append,h];simp only[List.find?_cons,List.find?_nil,Option.none_or]
 cases p x<;>rfl
theorem pJ {α:Type} {p:α→Bool} {l:List α} {k:Nat} {x:α} (h:(l.take k).find? p=some x):l.find? p=some x:=by
 conv=>lhs;rw[←bP k l]
 rw[List.find?_append,h];rfl
theorem lW (ts:List Tk) (ps:List (Tk×Value)) (uq uc ub ut:Value) (no:Int) (w:World) (hq:∃a k c,uq= .slice a k c) (hc:∃a k c,uc= .slice a k c) (hub:∃a k c,ub= .slice a k c) (hps:ts=ps.map (·.1)) (hrow:RRow tkP 11 w w.heap.size ut ps) (hrh:∀p∈ps,RHops w p.2 p.1.hs):
  Calls Tryz.prog 133 #[.agg #[uq,uc,ub,ut],.int .i64 no] w (FindPS ps ts no w):=by
 obtain⟨aq,kq,cq,rfl⟩:=hq;obtain⟨ac,kc,cc,rfl⟩:=hc;obtain⟨ab,kb,cb,rfl⟩:=hub;have HPS:=aa hps;have HRH:=aa hrh;obtain⟨a,c,rfl,h1,h2,-,h4⟩:=hrow;have H4:=aa h4;unfold maxLen at h2;clear h4 hps hrh;go_enter Tryz.func133,Tryz.ntmps133
 go_upto_region 1 with fail
 obtain⟨Z,hZ⟩:∃Z:Array Value,Z=#[.int .i64 0,.int .i64 0,.int .i64 0,.int .i64 0,.int .i64 0,.int .i64 0,.int .i64 0,.bool false,.slice none 0 0,.int .i64 0,.int .i64 0]:=⟨_,rfl⟩
 obtain⟨w1,hw1⟩:=cR ((w.alloc (.cells #[.slice aq kq cq,.slice ac kc cc,.slice ab kb cb,.slice a ps.length c] 36)).alloc (.cells #[.int .i64 0,.int .i64 0,.int .i64 0,.int .i64 0,.int .i64 0,.int .i64 0,.int .i64 0,.bool false,.slice none 0 0,.int .i64 0,.int .i64 0] 41))
 rw[hw1];have B1:Below w.heap.size w w1:=by rw[←hw1];exact cZ
 have X0:w1.heap[w.heap.size]? =some (.cells #[.slice aq kq cq,.slice ac kc cc,.slice ab kb cb,.slice a ps.length c] 36 (0,0)):=by rw[←hw1];exact(ak _ _ _ (by simp)).trans cW
 have X1:w1.heap[w.heap.size+1]? =some (.cells #[.int .i64 0,.int .i64 0,.int .i64 0,.int .i64 0,.int .i64 0,.int .i64 0,.int .i64 0,.bool false,.slice none 0 0,.int .i64 0,.int .i64 0] 41 (0,0)):=by rw[←hw1];exact cY (by simp)
 have z1:w.heap.size+1<w1.heap.size:=(ai.1 X1).1;have cx0:=fun q=>cU X0 q
 have HX:=aa (cS X0 X1);have HB1:=aa B1;clear hw1 X0 X1 B1 hZ;go_wp2_with fail
 go_loopw [11] (fun kv wr=>∃k:Nat,k≤ps.length∧kv= .int .i64 (k:Int)∧Hid (findS (ts.take k) no=none)∧Hid (Below w1.heap.size w1 wr)) (fun kv _=>ps.length-(intOf kv).toNat)
 case atStart=>exact⟨0,aE _,rfl,aa rfl,aa (ap _ _)⟩
 case round=>
  obtain⟨k,hk,rfl,HF,HBR⟩:=hrel;have zr:w1.heap.size≤wr.heap.size:=HBR.out.size;have HBW:Hid (Below w.heap.size w wr):=aa (HB1.out.trans (HBR.out.mono (by omega)));have HX1:Hid (wr.heap[w.heap.size+1]? =some (.cells #[.int .i64 0,.int .i64 0,.int .i64 0,.int .i64 0,.int .i64 0,.int .i64 0,.int .i64 0,.bool false,.slice none 0 0,.int .i64 0,.int .i64 0] 41 (0,0))):=aa ((HBR.out.block _ z1).trans HX.out.2);have zr1:w.heap.size+1<wr.heap.size:=by omega
  have k0:(0:Int)≤(k:Int):=by omega
  clear cx0;by_cases hlt:k<ps.length
  ·obtain⟨bb,o,rfl,hbb,hcc⟩:=H4.out (by omega)
   obtain⟨x,hx⟩:∃x,ps[k]? =some x:=⟨_,am hlt⟩
   obtain⟨t,u⟩:=x;have hru:=HRH.out (t,u) (az hx);simp only at hru;have HRU:=aa hru;obtain⟨ua,uc2,hue,-⟩:=id hru;subst hue;obtain⟨g0,g1,g2,g3,g4,g5,g6,g7,g8,g9,g10⟩:=(iA hcc hx).below (fun q=>HBW.out.cell (p:=⟨bb,q,none⟩) hbb);have hbr:bb<wr.heap.size:=by omega
   have k1:(k:Int)<(ps.length:Int):=by omega
   have htx:ts[k]? =some t:=by rw[HPS.out,bO,hx];rfl
   have HMEM:=aa (az hx);have HTS:Hid (findS (ts.take (k+1)) no=if t.no==no then some t else none):=aa (km HF.out htx);clear hx hru hcc htx;go_upto_region 4 with fail
   obtain⟨w7,hw7⟩:=cR (wr.alloc (.cells #[.int .i64 t.no,.int .i64 t.q.src,.int .i64 t.q.dst,.int .i64 t.q.sz,.int .i64 t.q.rd,.int .i64 t.q.D,.int .i64 t.q.pr,.bool t.q.cu,(.slice ua t.hs.length uc2),.int .i64 t.st,.int .i64 t.un] 41))
   rw[hw7];have b7:Below wr.heap.size wr w7:=by rw[←hw7];exact de (ap _ _)
   have X7:w7.heap[wr.heap.size]? =some (.cells #[.int .i64 t.no,.int .i64 t.q.src,.int .i64 t.q.dst,.int .i64 t.q.sz,.int .i64 t.q.rd,.int .i64 t.q.D,.int .i64 t.q.pr,.bool t.q.cu,(.slice ua t.hs.length uc2),.int .i64 t.st,.int .i64 t.un] 41 (0,0)):=by rw[←hw7];exact cW
   have z7:wr.heap.size<w7.heap.size:=(ai.1 X7).1;have c7:=fun q=>cU X7 q
   have HB7:Hid (Below w.heap.size w w7):=aa (dq HBW.out b7);have HBB7:Hid (Below w1.heap.size w1 w7):=aa (HBR.out.trans (b7.mono (by omega)));have HX17:=aa ((b7.block _ zr1).trans HX1.out);have zr17:w.heap.size+1<w7.heap.size:=by omega
   clear hw7 b7 X7 g0 g1 g2 g3 g4 g5 g6 g7 g8 g9 g10;by_cases y:t.no=no
   case neg=>
    have dy:(t.no==no)=false:=by rw[beq_eq_false_iff_ne];exact y
    have HN:Hid (findS (ts.take (k+1)) no=none):=aa (by rw[HTS.out,dy];rfl);clear y;go_wp2
    go_roundw
    case rel=>exact⟨k+1,by omega,by go_num,HN,HBB7⟩
    case measure=>simp[intOf];omega
   have dy:(t.no==no)=true:=by rw[beq_iff_eq];exact y
   have HN:Hid (findS ts no=some t):=aa (pJ (k:=k+1) (by have h:=HTS.out;rw[dy]at h;exact h));clear y;go_wp2_with (refine dv rfl 41 _ _ rfl (w.heap.size+1) #[.int .i64 t.no,.int .i64 t.q.src,.int .i64 t.q.dst,.int .i64 t.q.sz,.int .i64 t.q.rd,.int .i64 t.q.D,.int .i64 t.q.pr,.bool t.q.cu,(.slice ua t.hs.length uc2),.int .i64 t.st,.int .i64 t.un] _ 41 rfl rfl HX17.out rfl (by kernel_rfl) (by simp[Value.oneCell']) ?_;intro wF hW hbW hsW hoW;have HBF:Hid (Below w.heap.size w wF):=aa (HB7.out.trans (hbW _ (by omega)));have zF:w.heap.size+1<wF.heap.size:=(ai.1 hW).1;have cF:=fun o=>cU hW o;clear hW hbW hsW hoW)
   refine bodyPost_ret (v:=.tuple #[.agg #[.int .i64 t.no,.int .i64 t.q.src,.int .i64 t.q.dst,.int .i64 t.q.sz,.int .i64 t.q.rd,.int .i64 t.q.D,.int .i64 t.q.pr,.bool t.q.cu,(.slice ua t.hs.length uc2),.int .i64 t.st,.int .i64 t.un],.bool true]) (by simp[results,Tryz.results133,go_sem,aP,cF,zF]) rfl ?_
   exact⟨.inl ⟨t,_,HN.out,HMEM.out,rfl,HRU.out.below' HBF.out⟩,HBF.out⟩
  ·obtain rfl:k=ps.length:=by omega
   have HN:Hid (findS ts no=none):=aa (by have h:=HF.out;rw[bM (by rw[HPS.out];simp)]at h;exact h);go_wp2_with (refine dv rfl 41 _ _ rfl (w.heap.size+1) #[.int .i64 0,.int .i64 0,.int .i64 0,.int .i64 0,.int .i64 0,.int .i64 0,.int .i64 0,.bool false,.slice none 0 0,.int .i64 0,.int .i64 0] _ 41 rfl rfl HX1.out rfl (by kernel_rfl) (by simp[Value.oneCell']) ?_;intro wF hW hbW hsW hoW;have HBF:Hid (Below w.heap.size w wF):=aa (HBW.out.trans (hbW _ (by omega)));have zF:w.heap.size+1<wF.heap.size:=(ai.1 hW).1;have cF:=fun o=>cU hW o;clear hW hbW hsW hoW)
   refine bodyPost_ret (v:=.tuple #[.agg #[.int .i64 0,.int .i64 0,.int .i64 0,.int .i64 0,.int .i64 0,.int .i64 0,.int .i64 0,.bool false,.slice none 0 0,.int .i64 0,.int .i64 0],.bool false]) (by simp[results,Tryz.results133,go_sem,aP,cF,zF]) rfl ?_
   exact⟨.inr ⟨HN.out,_,rfl⟩,HBF.out⟩
def CrowdPost (ts:List Tk) (w:World) (e:Ending) (w':World):Prop:=(∃r:Bool,e= .returned (.bool r)∧(r=false→ts.length<64∧∀t,ts.getLast? =some t→t.no<1152921504606846976)∧(ts=[]→r=false))∧Below w.heap.size w w'
theorem mM (ts:List Tk) (uq uc ub ut:Value) (w:World) (hq:∃a k c,uq= .slice a k c) (hc:∃a k c,uc= .slice a k c) (hub:∃a k c,ub= .slice a k c) (ht:RTks w ut ts):
  Calls Tryz.prog 39 #[.agg #[uq,uc,ub,ut]] w (CrowdPost ts w):=by
 obtain⟨aq,kq,cq,rfl⟩:=hq;obtain⟨ac,kc,cc,rfl⟩:=hc;obtain⟨ab,kb,cb,rfl⟩:=hub;obtain⟨ps,hps,hrow,hrh⟩:=ht;have hpl:ps.length=ts.length:=by rw[hps];simp
 have HPS:=aa hps;obtain⟨a,c,rfl,h1,h2,-,h4⟩:=hrow;have H4:=aa h4;unfold maxLen at h2;clear h4 hps hrh;by_cases y:ps.length≥64
 ·have dy:decide ((ps.length:Int)≥64)=true:=decide_eq_true (by omega)
  have dy2:(64:Int)≤(ps.length:Int):=by omega
  have HNE:Hid (ts≠[]):=aa (fun e=>by rw[HPS.out]at e;have:=congrArg List.length e;simp at this;rw[this]at y;simp at y);clear y hpl;go_enter Tryz.func39,Tryz.ntmps39
  go_wp2
  go_ret
  exact⟨⟨true,rfl,(fun h=>by cases h),fun h=>absurd h HNE.out⟩,cZ⟩
 have dy:decide ((ps.length:Int)≥64)=false:=decide_eq_false (by omega);have dy2:(ps.length:Int)<64:=by omega
 by_cases z:ps.length=0
 ·have HE:Hid (ts=[]):=aa (aF (by omega))
  have dz:decide ((ps.length:Int)>0)=false:=decide_eq_false (by omega);have dz2:(ps.length:Int)≤0:=by omega
  have dz3:¬(0:Int)<(ps.length:Int):=by omega
  clear hpl y;go_enter Tryz.func39,Tryz.ntmps39
  go_wp2
  go_ret
  exact⟨⟨false,rfl,(fun _=>by rw[HE.out];exact⟨by decide,fun t h=>by cases h⟩),fun _=>rfl⟩,cZ⟩
 obtain⟨m,hm⟩:∃m,ps.length=m+1:=⟨ps.length-1,by omega⟩
 obtain⟨bb,o,rfl,hbb,hcc⟩:=H4.out (by omega);obtain⟨x,hx⟩:∃x,ps[m]? =some x:=⟨_,am (by omega)⟩
 obtain⟨t,u⟩:=x;obtain⟨g0,-⟩:=iA hcc hx;have HLT:Hid (ts.getLast? =some t∧ts.length<64):=aa ⟨by rw[HPS.out,List.getLast?_eq_getElem?,bO,aZ,hm,show m+1-1=m by omega,hx];rfl,by omega⟩;have dz:decide ((ps.length:Int)>0)=true:=decide_eq_true (by omega);have dz2:(0:Int)<(ps.length:Int):=by omega
 have wm:IntKind.i64.wrap ((ps.length:Int)-1)=(m:Int):=by rw[ax];omega
 have m0:(0:Int)≤(m:Int):=by omega
 have m1:(m:Int)<(ps.length:Int):=by omega
 have HM:=aa hm;clear hm hpl y z hcc hx;obtain⟨no,hno⟩:=cR t.no
 have HNO:=aa hno;rw[hno]at g0;clear hno;go_enter Tryz.func39,Tryz.ntmps39
 go_wp2
 go_ret
 refine⟨⟨decide (1152921504606846976≤no),by first | rfl | simp,fun h=>⟨HLT.out.2,fun t' ht'=>?_⟩,fun e=>by have h1:=HLT.out.1;rw[e]at h1;cases h1⟩,cZ⟩
 have:=HLT.out.1.symm.trans ht';injection this with this
 rw[←this,HNO.out];have:=of_decide_eq_false h;omega
theorem mN (nb nh:Nat) (uq uc:Value) (ab ah:Option Addr) (cb ch:Nat) (w:World) (hq:∃a k c,uq= .slice a k c) (hc:∃a k c,uc= .slice a k c) (hb:nb≤9000000000000000000) (hh:nh≤9000000000000000000):
  Calls Tryz.prog 46 #[.agg #[uq,uc,.slice ab nb cb,.slice ah nh ch]] w fun e w'=>e= .returned (.bool (decide (¬(nb≤512∧nh≤512))))∧Below w.heap.size w w':=by
 obtain⟨aq,kq,cq,rfl⟩:=hq;obtain⟨ac,kc,cc,rfl⟩:=hc;by_cases y:nb≤512
 case neg=>
  have dy:decide ((nb:Int)>512)=true:=decide_eq_true (by omega);have dy2:(512:Int)<(nb:Int):=by omega
  rw[show decide (¬(nb≤512∧nh≤512))=true from decide_eq_true (by omega)];clear y;go_enter Tryz.func46,Tryz.ntmps46
  go_wp2
  go_ret
  exact⟨rfl,cZ⟩
 have dy:decide ((nb:Int)>512)=false:=decide_eq_false (by omega);have dy2:(nb:Int)≤512:=by omega
 by_cases z:nh≤512
 ·have dz:decide ((nh:Int)>512)=false:=decide_eq_false (by omega)
  have dz2:(nh:Int)≤512:=by omega
  rw[show decide (¬(nb≤512∧nh≤512))=false from decide_eq_false (by omega)];clear y z;go_enter Tryz.func46,Tryz.ntmps46
  go_wp2
  go_ret
  exact⟨rfl,cZ⟩
 ·have dz:decide ((nh:Int)>512)=true:=decide_eq_true (by omega)
  have dz2:(512:Int)<(nh:Int):=by omega
  rw[show decide (¬(nb≤512∧nh≤512))=true from decide_eq_true (by omega)];clear y z;go_enter Tryz.func46,Tryz.ntmps46
  go_wp2
  go_ret
  exact⟨rfl,cZ⟩
end
end Go.Proofs.YtfnciigbbolckaaGreat
