/- Part 43 of the proof about mailboattop.TopOthers. No condition. -/
import Derived.Test.YtfnciigbbolckaaGreatQ00
import Derived.Test.YtfnciigbbolckaaGreatQ02
import Derived.Test.YtfnciigbbolckaaGreatQ12
import Derived.Test.YtfnciigbbolckaaGreatQ41
import Derived.Test.YtfnciigbbolckaaGreatQ42
set_option linter.unusedVariables false
set_option linter.unusedSimpArgs false
set_option maxRecDepth 100000
set_option maxHeartbeats 64000000
namespace Go.Proofs.YtfnciigbbolckaaGreat
attribute [local go_sem] Oper.semAt_some
attribute [local go_sem] pw gu B_app pv B_get B_toList
section
open Go Go.RowKit Iv
def rqC (q:Rq):List Value:=#[.int .i64 q.src,.int .i64 q.dst,.int .i64 q.sz,.int .i64 q.rd,.int .i64 q.D,.int .i64 q.pr,.bool q.cu].toList
theorem rqC_len (q:Rq):(rqC q).length=7:=rfl
def ledE (uq uc u:Value):List Value:=[uq,uc,.slice none 0 0,u]
def kI:Nat→Value→Prop:=fun j x=>∀t,x= .int .i64 t→j=1
theorem kI_two {s:Nat} (hs:2≤s) {cur:Array Value} (h:KL kI s cur.toList):∀(o:Nat) (a b:Int),cur[o]? =some (.int .i64 a)→cur[o+1]? =some (.int .i64 b)→False:=fun o a b h1 h2=>by
 have e1:=h o _ (by rw[bw];exact h1) a rfl;have e2:=h (o+1) _ (by rw[bw];exact h2) b rfl;have h3:(o+1) % s=(o % s+1 % s) % s:=Nat.add_mod _ _ _;rw[e1,e2]at h3;have h4:1 % s=1:=Nat.mod_eq_of_lt (by omega);rw[h4]at h3;rcases bq 2 s with h5 | h5
 ·rw[Nat.mod_eq_of_lt h5]at h3;omega
 ·have:s=2:=by omega
  subst this;simp at h3
theorem tk_two (x:Tk×Value):∃a b,(tkP x)[0]? =some (.int .i64 a)∧(tkP x)[1]? =some (.int .i64 b):=⟨_,_,rfl,rfl⟩
theorem hp_two (x:Hp):∃a b,(hpC x)[0]? =some (.int .i64 a)∧(hpC x)[1]? =some (.int .i64 b):=⟨_,_,rfl,rfl⟩
theorem RTks.keepB {W W':World} {u:Value} {ts:List Tk} (h:RTks W u ts) (hs:W.heap.size≤W'.heap.size) (hk:∀q,q<W.heap.size→W'.heap[q]? =W.heap[q]?∨∃cs T,W.heap[q]? =some (.cells cs T (0,0))∧∀(o:Nat) (a b:Int),cs[o]? =some (.int .i64 a)→cs[o+1]? =some (.int .i64 b)→False):RTks W' u ts:=by
 obtain⟨ps,e,h1,h2⟩:=h;refine⟨ps,e,h1.keepAt hs (fun hn q hq=>?_),fun p hp=>(h2 p hp).keepAt hs (fun hn q hq=>?_)⟩
 ·rcases hk q (h1.blk hn hq)with h | ⟨cs,T,hz,hc⟩
  ·exact h
  ·exact absurd hq (gX h1 hn hz tk_two hc)
 ·rcases hk q ((h2 p hp).blk hn hq)with h | ⟨cs,T,hz,hc⟩
  ·exact h
  ·exact absurd hq (gX (h2 p hp) hn hz hp_two hc)
theorem RTks.grown {W W':World} {u:Value} {ts:List Tk} {base s n:Nat} {e:TypeId} {v:Value} {xs:List Value} (h:RTks W u ts) (ho:W.ownsRow base e s v n xs) (hb:BlkK kI s e v W) (hs2:2≤s) (hg:W.grownBy W' v.ownBlock):RTks W' u ts:=by
 refine h.keepB hg.size (fun q hq=>?_)
 by_cases hv:v.ownBlock=some q
 ·obtain⟨cs,f,hh⟩:=ed ho hv
  rcases ho.2 with⟨rfl,_⟩ | ⟨g',cap,cur,rfl,_,hg',_⟩
  ·cases hv
  ·have e1:g'=q:=Option.some.inj hv
   subst e1;exact .inr ⟨cur,e,hg',kI_two hs2 (hb g' cur rfl hg')⟩
 ·exact .inl (hg.block q hq (fun e=>hv e.symm))
theorem led_two (a b c d:Value) (ha:∀t,a≠.int .i64 t) (hb:∀t,b≠.int .i64 t) (hc:∀t,c≠.int .i64 t) (hd:∀t,d≠.int .i64 t):∀(o:Nat) (x y:Int),(#[a,b,c,d]:Array Value)[o]? =some (.int .i64 x)→(#[a,b,c,d]:Array Value)[o+1]? =some (.int .i64 y)→False:=fun o x y h1 _=>by
 rcases o with _ | _ | _ | _ | o
 ·exact ha x (by simpa using h1)
 ·exact hb x (by simpa using h1)
 ·exact hc x (by simpa using h1)
 ·exact hd x (by simpa using h1)
 ·simp at h1
theorem BlkK.below {k:Nat→Value→Prop} {s n base:Nat} {e:TypeId} {v:Value} {xs:List Value} {w w':World} (h:BlkK k s e v w) (ho:w.ownsRow base e s v n xs) (hb:Below w.heap.size w w'):BlkK k s e v w':=fun g cur hg hh=>h g cur hg ((hb.block g (ho.lt g hg).2).symm.trans hh)
theorem LedOK.nil {qs:List Int} {cs:List Con} (h:PlanOK qs cs):LedOK qs cs []:=
 ⟨h,List.Pairwise.nil,by simp,(fun t ht=>by cases ht),List.Pairwise.nil,fun n q hq t=>by
  show(0:Int)≤q
  exact(h.2.1 q (az hq)).1,by simp[allB],by simp[allH]⟩
theorem mi {w:World} {base g s:Nat} {e:TypeId} {cs:Array Value} (n:Nat) (hb:base≤g) (hg:w.heap[g]? =some (.cells cs e (0,0))) (hs:cs.size=n*s) (hm:n≤1000):w.ownsRow base e s (.slice (some ⟨g,0,none⟩) n n) n cs.toList:=
 ⟨by simpa using hs,.inr ⟨g,n,cs,rfl,hb,hg,aj _,by unfold maxLen;omega,hs,by rw[bM (by simp[hs])]⟩⟩
theorem infoLed:(Tryz.prog.info? 36).map (fun i=>(i.zero,i.size,i.bytes))=some (some (.agg #[.slice none 0 0,.slice none 0 0,.slice none 0 0,.slice none 0 0]),4,96):=by kernel_rfl
theorem infoVer:(Tryz.prog.info? 64).map (fun i=>(i.zero,i.size,i.bytes))=some (some (.agg #[.bool false,.int .i64 0,.slice none 0 0,.slice none 0 0,.slice none 0 0]),5,88):=by kernel_rfl
def TaPost (qs:List Int) (cs:List Con) (uq uc:Value) (w:World) (e:Ending) (w':World):Prop:=
 (∃uo uv,e= .returned (.tuple #[uo,uv])∧(uo= .slice none 0 0∨(PlanOK qs cs∧∃(us:List Value) (ut:Value) (ts:List Tk),us.length≤6∧RRow (ledE uq uc) 4 w' w'.heap.size uo us∧us.getLast? =some ut∧RTks w' ut ts∧LedOK qs cs ts)))∧Below w.heap.size w w'
structure TaR (Z X N2:Nat) (w:World) (lc vcs:Array Value) (uq uc ov vv:Value) (us:List Value) (n:Nat) (xs:List Value) (ut:Value) (ts:List Tk) (W:World):Prop where
 ho:W.ownsRow (X+1) 36 4 ov us.length (us.flatMap (ledE uq uc))
 hko:BlkK kI 4 36 ov W
 hv:W.ownsRow (X+1) 64 5 vv n xs
 hkv:BlkK kI 5 64 vv W
 hx:W.heap[X]? =some (.cells lc 36 (0,0))
 hn:W.heap[N2]? =some (.cells vcs 64 (0,0))
 nv:vv.ownBlock≠some N2
 x1:X+1≤W.heap.size
 ht:RTks W ut ts
 hb:Below Z w W
 zx:Z≤X
theorem TaR.below {Z X N2:Nat} {w:World} {lc vcs:Array Value} {uq uc ov vv:Value} {us:List Value} {n:Nat} {xs:List Value} {ut:Value} {ts:List Tk} {W W':World} (h:TaR Z X N2 w lc vcs uq uc ov vv us n xs ut ts W) (k:Below W.heap.size W W'):TaR Z X N2 w lc vcs uq uc ov vv us n xs ut ts W':=
 ⟨cV h.ho (fun q hq=>k.block q (h.ho.lt q hq).2),h.hko.below h.ho k,cV h.hv (fun q hq=>k.block q (h.hv.lt q hq).2),h.hkv.below h.hv k,(k.block _ (ai.1 h.hx).1).trans h.hx,(k.block _ (ai.1 h.hn).1).trans h.hn,h.nv,aK h.x1 k.size,h.ht.below' k,h.hb.trans (k.mono (by have:=h.x1;have:=h.zx;omega)),h.zx⟩
theorem BlkK.grown {k:Nat→Value→Prop} {s n base:Nat} {e:TypeId} {v:Value} {xs:List Value} {w w':World} {r:Option Nat} (h:BlkK k s e v w) (ho:w.ownsRow base e s v n xs) (hg:w.grownBy w' r) (hne:∀q,v.ownBlock=some q→r≠some q):BlkK k s e v w':=fun g cur hq hh=>h g cur hq ((dw hg (ho.lt g hq).2 (hne g hq)).symm.trans hh)
theorem TaR.appO {Z X N2:Nat} {w:World} {lc vcs:Array Value} {uq uc ov ov' vv:Value} {us:List Value} {n:Nat} {xs:List Value} {ut u2:Value} {ts:List Tk} {W W':World} (h:TaR Z X N2 w lc vcs uq uc ov vv us n xs ut ts W) (ho:W'.ownsRow (X+1) 36 4 ov' (us.length+1) (us.flatMap (ledE uq uc)++ledE uq uc u2)) (hg:W.grownBy W' ov.ownBlock) (hk:BlkK kI 4 36 ov' W'):TaR Z X N2 w lc vcs uq uc ov' vv (us++[u2]) n xs ut ts W':=by
 have hne:∀q,vv.ownBlock=some q→ov.ownBlock≠some q:=fun q hq e=>fT h.hv h.ho (by decide) hq e
 have hxl:=(ai.1 h.hx).1;have hnl:=(ai.1 h.hn).1;refine⟨by rw[ay,aV];simpa using ho,hk,cV h.hv (fun q hq=>dw hg (h.hv.lt q hq).2 (hne q hq)),h.hkv.grown h.hv hg hne,(dw hg hxl (fun e=>by have:=(h.ho.lt X e).1;omega)).trans h.hx,(dw hg hnl (fun e=>?_)).trans h.hn,h.nv,aK h.x1 hg.size,h.ht.grown h.ho h.hko (by omega) hg,h.hb.trans ⟨hg.os,hg.tape,hg.output,hg.size,fun q hq=>dw hg (by have:=h.x1;have:=h.zx;omega) (fun e=>by have:=(h.ho.lt q e).1;have:=h.zx;omega)⟩,h.zx⟩
 obtain⟨cs',f,h1⟩:=ed h.ho e;exact et h1 h.hn (by decide) rfl
theorem TaR.appV {Z X N2:Nat} {w:World} {lc vcs:Array Value} {uq uc ov vv vv':Value} {us:List Value} {n:Nat} {xs news:List Value} {ut:Value} {ts:List Tk} {W W':World} (h:TaR Z X N2 w lc vcs uq uc ov vv us n xs ut ts W) (ho:W'.ownsRow (X+1) 64 5 vv' (n+1) (xs++news)) (hg:W.grownBy W' vv.ownBlock) (hf:vv'.ownBlock=vv.ownBlock∨vv'.ownBlock=some W.heap.size) (hk:BlkK kI 5 64 vv' W'):TaR Z X N2 w lc vcs uq uc ov vv' us (n+1) (xs++news) ut ts W':=by
 have hne:∀q,ov.ownBlock=some q→vv.ownBlock≠some q:=fun q hq e=>fT h.ho h.hv (by decide) hq e
 have hxl:=(ai.1 h.hx).1;have hnl:=(ai.1 h.hn).1;refine⟨cV h.ho (fun q hq=>dw hg (h.ho.lt q hq).2 (hne q hq)),h.hko.grown h.ho hg hne,ho,hk,(dw hg hxl (fun e=>by have:=(h.hv.lt X e).1;omega)).trans h.hx,(dw hg hnl h.nv).trans h.hn,fun e=>?_,aK h.x1 hg.size,h.ht.grown h.hv h.hkv (by omega) hg,h.hb.trans ⟨hg.os,hg.tape,hg.output,hg.size,fun q hq=>dw hg (by have:=h.x1;have:=h.zx;omega) (fun e=>by have:=(h.hv.lt q e).1;have:=h.zx;omega)⟩,h.zx⟩
 rcases hf with hf | hf
 ·exact h.nv (by rw[←hf];exact e)
 ·rw[hf]at e
  have:=Option.some.inj e;omega
theorem tacc_any (qs:List Int) (cs:List Con) (l:List Rq) (uq uc ul:Value) (w:World) (hq:RRow intC 1 w w.heap.size uq qs) (hc:RRow conC 7 w w.heap.size uc cs) (hr:RRow rqC 7 w w.heap.size ul l) (hl5:l.length≤5):
  Calls Tryz.prog 6 #[.agg #[uq,uc],ul] w (TaPost qs cs uq uc w):=by
 have HQ:=aa hq;have HC:=aa hc;have HR:=aa hr;obtain⟨aq,cq,rfl,-⟩:=hq;obtain⟨ca,cc,rfl,-⟩:=hc;obtain⟨la,lc,rfl,-,-,-,h4⟩:=hr;have H4:=aa h4;clear h4;go_enter Tryz.func6,Tryz.ntmps6
 go_upto_region 1 with fail
 obtain⟨Z,hZ⟩:=cR w.heap.size
 obtain⟨w1,hw1⟩:=cR (w.alloc (.cells #[.slice aq qs.length cq,.slice ca cs.length cc] 25))
 rw[hw1,hZ];have B1:Below Z w w1:=by rw[←hw1,←hZ];exact cZ
 have X0:w1.heap[Z]? =some (.cells #[.slice aq qs.length cq,.slice ca cs.length cc] 25 (0,0)):=by rw[←hw1,←hZ];exact cW
 have z0:Z<w1.heap.size:=(ai.1 X0).1;have k0:=fun q_=>cU X0 q_
 have HX:=aa (cS B1 X0);have HZ:=aa hZ;rw[hZ]at HQ HC HR H4;clear hw1 B1 X0 hZ;go_wp2_with fail
 refine(new_any qs cs (.slice aq qs.length cq) (.slice ca cs.length cc) w1 (HQ.out.below HX.out.1 (aj _) (by omega)) (HC.out.below HX.out.1 (aj _) (by omega))).mono ?_
 unfold NewPost;rintro e w2 ⟨⟨er,⟨her,rfl⟩ | ⟨rfl,hp,rfl⟩⟩,hb2⟩
 ·have d1:(er==0)=false:=by rw[beq_eq_false_iff_ne];exact her
  have d2:(er != 0)=true:=by rw[bne_iff_ne];exact her
  have HB2:Hid (Below Z w w2):=aa (HX.out.1.trans (hb2.mono (by omega)));clear hb2 her;go_wp2
  refine bodyPost_ret (v:=.tuple #[.slice none 0 0,.slice none 0 0]) (by simp[results,Tryz.results6,go_sem]) rfl ?_
  unfold TaPost;rw[HZ.out];exact⟨⟨_,_,rfl,.inl rfl⟩,balloc HB2.out (by have:=HB2.out.size;have:=HZ.out;omega)⟩
 have HP:=aa hp;have HB2:Hid (Below Z w w2):=aa (HX.out.1.trans (hb2.mono (by omega)));have z2:w1.heap.size≤w2.heap.size:=hb2.size;clear hb2 hp k0;go_upto_region 4 with fail
 go_wp2_with fail
 obtain⟨X,hX⟩:=cR w2.heap.size
 obtain⟨w3,hw3⟩:=cR (((w2.alloc (.cells #[.slice aq qs.length cq,.slice ca cs.length cc,.slice none 0 0,.slice none 0 0] 36)).alloc (.cells #[.slice aq qs.length cq,.slice ca cs.length cc,.slice none 0 0,.slice none 0 0] 36)).alloc (.cells #[] 64))
 rw[hw3,hX];have b3:Below X w2 w3:=by rw[←hw3,←hX];exact cZ
 have X3:w3.heap[X]? =some (.cells #[.slice aq qs.length cq,.slice ca cs.length cc,.slice none 0 0,.slice none 0 0] 36 (0,0)):=by rw[←hw3,←hX];exact(ak _ _ _ (by simp;omega)).trans ((ak _ _ _ (by simp)).trans cW)
 have O3:w3.heap[X+1]? =some (.cells #[.slice aq qs.length cq,.slice ca cs.length cc,.slice none 0 0,.slice none 0 0] 36 (0,0)):=by rw[←hw3];exact(ak _ _ _ (by simp[hX])).trans (cY (by simp[hX]))
 have V3:w3.heap[X+1+1]? =some (.cells #[] 64 (0,0)):=by rw[←hw3];exact cY (by simp[hX])
 have HB3:Hid (Below Z w w3):=aa (HB2.out.trans (b3.mono (by omega)));have HX3:=aa X3;have HO3:Hid (w3.ownsRow (X+1) 36 4 (.slice (some ⟨X+1,0,none⟩) 1 1) [(Value.slice none 0 0)].length ([(Value.slice none 0 0)].flatMap (ledE (.slice aq qs.length cq) (.slice ca cs.length cc)))):=aa (mi 1 (aj _) O3 (by simp) (by omega));have HV3:Hid (w3.ownsRow (X+1) 64 5 (.slice (some ⟨X+1+1,0,none⟩) 0 0) 0 []):=aa (mi 0 (by omega) V3 (by simp) (by omega));have HKO3:Hid (BlkK kI 4 36 (.slice (some ⟨X+1,0,none⟩) 1 1) w3):=aa (fun g cur hg hh=>by
  have e1:X+1=g:=Option.some.inj hg;subst e1;have h2:=O3.symm.trans hh;injection h2 with h2
  injection h2 with h2
  rw[←h2];intro i x hx t ht;subst ht;rcases i with _ | _ | _ | _ | i<;>simp at hx)
 have HKV3:Hid (BlkK kI 5 64 (.slice (some ⟨X+1+1,0,none⟩) 0 0) w3):=aa (fun g cur hg hh=>by
  have e1:X+1+1=g:=Option.some.inj hg;subst e1;have h2:=V3.symm.trans hh;injection h2 with h2
  injection h2 with h2
  rw[←h2];intro i x hx t ht;simp at hx)
 have z3:X+1+1<w3.heap.size:=(ai.1 V3).1;have hZX:Z<X:=by omega
 clear hw3 b3 X3 O3 V3 hX;obtain⟨i0,hin,hz0,hz1,hz2⟩:=info_parts infoLed;obtain⟨i1,hin1,hy0,hy1,hy2⟩:=info_parts infoVer;go_loopw [28,8,9,10] (fun kv ov vv nv wr=>∃(k:Nat) (us:List Value) (ut:Value) (ts:List Tk) (n:Nat) (xs:List Value) (nw:Int),k≤l.length∧kv= .int .i64 (k:Int)∧nv= .int .i64 nw∧us.length≤k+1∧n≤k∧us.getLast? =some ut∧Hid (wr.ownsRow (X+1) 36 4 ov us.length (us.flatMap (ledE (.slice aq qs.length cq) (.slice ca cs.length cc))))∧Hid (BlkK kI 4 36 ov wr)∧Hid (wr.ownsRow (X+1) 64 5 vv n xs)∧Hid (BlkK kI 5 64 vv wr)∧Hid (wr.heap[X]? =some (.cells #[.slice aq qs.length cq,.slice ca cs.length cc,.slice none 0 0,ut] 36 (0,0)))∧Hid (RTks wr ut ts)∧Hid (LedOK qs cs ts)∧Hid (Below Z w wr)) (fun kv _ _ _ _=>l.length-(intOf kv).toNat)
 case atStart=>exact⟨0,[_],.slice none 0 0,[],0,[],0,aE _,rfl,rfl,by simp,aj _,rfl,HO3,HKO3,HV3,HKV3,HX3,aa ⟨[],rfl,RRow.nil _ _ _ _,fun p hp=>by cases hp⟩,aa (LedOK.nil HP.out),HB3⟩
 case round=>
  obtain⟨k,us,ut,ts,n,xs,nw,hk,rfl,rfl,hus,hnk,hlast,HOr,HKOr,HVr,HKVr,HXr,HTr,HLr,HBr⟩:=hrel;obtain⟨pa,pn,pc,rfl⟩:=HTr.out.shape;obtain⟨oa,oc,hoe⟩:=dg HOr.out;subst hoe;obtain⟨va,vc,hve⟩:=dg HVr.out;subst hve;obtain⟨un,hun⟩:=cR us.length
  have HUN:=aa (cS hun hlast);rw[hun]at HOr HKOr hus ⊢;have j0:(0:Int)≤(k:Int):=by omega
  have zX:X<wr.heap.size:=(ai.1 HXr.out).1;clear hlast hun;by_cases hlt:k<l.length
  ·have j1:(k:Int)<(l.length:Int):=by omega
   obtain⟨bb,o,rfl,hbb,hcc⟩:=H4.out (by omega);obtain⟨q,hx⟩:∃x,l[k]? =some x:=⟨_,am hlt⟩
   have hm:∀q,wr.cell? ⟨bb,q,none⟩=w.cell? ⟨bb,q,none⟩:=fun q=>HBr.out.cell (p:=⟨bb,q,none⟩) hbb
   have g0:=(hm (o+k*7)).trans (hcc k q hx 0 _ rfl);have g1:=(hm (o+k*7+1)).trans (hcc k q hx 1 _ rfl);have g2:=(hm (o+k*7+2)).trans (hcc k q hx 2 _ rfl);have g3:=(hm (o+k*7+3)).trans (hcc k q hx 3 _ rfl);have g4:=(hm (o+k*7+4)).trans (hcc k q hx 4 _ rfl);have g5:=(hm (o+k*7+5)).trans (hcc k q hx 5 _ rfl);have g6:=(hm (o+k*7+6)).trans (hcc k q hx 6 _ rfl);have gb:bb<wr.heap.size:=by omega
   clear hcc hx hm;go_upto_region 11 with fail
   obtain⟨rd,hrd⟩:=cR (max q.rd nw)
   obtain⟨D,hD⟩:=cR (max q.D (max q.rd nw))
   rw[hD,hrd];clear hD hrd;obtain⟨Y,hY⟩:=cR wr.heap.size
   obtain⟨w4,hw4⟩:=cR (wr.alloc (.cells #[.int .i64 q.src,.int .i64 q.dst,.int .i64 q.sz,.int .i64 rd,.int .i64 D,.int .i64 q.pr,.bool q.cu] 38))
   rw[hw4,hY];have b4:Below wr.heap.size wr w4:=by rw[←hw4];exact de (ap _ _)
   have XQ4:w4.heap[Y]? =some (.cells #[.int .i64 q.src,.int .i64 q.dst,.int .i64 q.sz,.int .i64 rd,.int .i64 D,.int .i64 q.pr,.bool q.cu] 38 (0,0)):=by rw[←hw4,←hY];exact cW
   have HXQ4:=aa XQ4;have HX4:=aa ((b4.block _ zX).trans HXr.out);have HO4:=aa (cV HOr.out (fun q hq=>b4.block q (HOr.out.lt q hq).2));have HV4:=aa (cV HVr.out (fun q hq=>b4.block q (HVr.out.lt q hq).2));have HKO4:Hid (BlkK kI 4 36 (.slice oa un oc) w4):=aa (HKOr.out.below HOr.out b4);have HKV4:Hid (BlkK kI 5 64 (.slice va n vc) w4):=aa (HKVr.out.below HVr.out b4);have HT4:=aa (HTr.out.below' b4);have HB4:Hid (Below Z w w4):=aa (HBr.out.trans (b4.mono (by omega)));have z4:wr.heap.size≤w4.heap.size:=b4.size;have y4:Y<w4.heap.size:=(ai.1 XQ4).1;have x4:X<w4.heap.size:=by omega
   have kX:=fun q_=>cU HX4.out q_
   have kQ:=fun q_=>cU XQ4 q_
   have hYX:X<Y:=by omega
   clear hw4 b4 XQ4 hY g0 g1 g2 g3 g4 g5 g6 gb HXr HOr HVr HKOr HKVr HTr HBr;go_wp2_with fail
   refine(oC qs cs ts ⟨q.src,q.dst,q.sz,rd,D,q.pr,q.cu⟩ (.slice aq qs.length cq) (.slice ca cs.length cc) (.slice pa pn pc) w4 (HQ.out.below HB4.out (aj _) (by omega)) (HC.out.below HB4.out (aj _) (by omega)) HT4.out HLr.out).mono ?_
   unfold AccPost;rintro e w5 ⟨⟨L,V,er,rfl,⟨vb,vn,a1,n1,c1,a2,n2,c2,a3,n3,c3,rfl⟩,⟨b1,m1,d1,b2,m2,d2,b3,m3,d3,b4,m4,d4,hLe⟩,hok⟩,hb5⟩;have z5:w4.heap.size≤w5.heap.size:=hb5.size;by_cases her:er=0
   case neg=>
    have e1:(er==0)=false:=by rw[beq_eq_false_iff_ne];exact her
    have e2:(er != 0)=true:=by rw[bne_iff_ne];exact her
    have HX5:=aa ((hb5.block _ x4).trans HX4.out);have HO5:=aa (cV HO4.out (fun q hq=>hb5.block q (HO4.out.lt q hq).2));have HV5:=aa (cV HV4.out (fun q hq=>hb5.block q (HV4.out.lt q hq).2));have HKO5:Hid (BlkK kI 4 36 (.slice oa un oc) w5):=aa (HKO4.out.below HO4.out hb5);have HKV5:Hid (BlkK kI 5 64 (.slice va n vc) w5):=aa (HKV4.out.below HV4.out hb5);have HT5:=aa (HT4.out.below' hb5);have HB5:Hid (Below Z w w5):=aa (HB4.out.trans (hb5.mono (by omega)));subst hLe;clear her hok hb5 kX kQ;go_upto_region 15 with fail
    obtain⟨w6,hw6⟩:=cR ((w5.alloc (.cells #[.slice b1 m1 d1,.slice b2 m2 d2,.slice b3 m3 d3,.slice b4 m4 d4] 36)).alloc (.cells #[.bool vb,.int .i64 vn,.slice a1 n1 c1,.slice a2 n2 c2,.slice a3 n3 c3] 64))
    rw[hw6];have k6:Below w5.heap.size w5 w6:=by rw[←hw6];exact de (de (ap _ _)) |> fun h=>h
    have HX6:=aa ((k6.block _ (by omega)).trans HX5.out);have HO6:=aa (cV HO5.out (fun q hq=>k6.block q (HO5.out.lt q hq).2));have HV6:=aa (cV HV5.out (fun q hq=>k6.block q (HV5.out.lt q hq).2));have HKO6:Hid (BlkK kI 4 36 (.slice oa un oc) w6):=aa (HKO5.out.below HO5.out k6);have HKV6:Hid (BlkK kI 5 64 (.slice va n vc) w6):=aa (HKV5.out.below HV5.out k6);have HT6:=aa (HT5.out.below' k6);have HB6:Hid (Below Z w w6):=aa (HB5.out.trans (k6.mono (by omega)));clear hw6 k6;go_wp2
    go_roundw
    case rel=>exact⟨k+1,us,.slice pa pn pc,ts,n,xs,nw,by omega,by go_num,rfl,by rw[HUN.out.1];omega,by omega,HUN.out.2,by rw[HUN.out.1];exact HO6,HKO6,HV6,HKV6,HX6,HT6,HLr,HB6⟩
    case measure=>simp[intOf];omega
   obtain⟨ut',ts',hLe2,hT5,hL5⟩:=hok her;subst her;obtain⟨ta,tn,tc,rfl⟩:=hT5.shape;clear hok hLe;subst hLe2;go_upto_region 13 with fail
   obtain⟨w6,hw6⟩:=cR ((w5.alloc (.cells #[.slice aq qs.length cq,.slice ca cs.length cc,.slice none 0 0,.slice ta tn tc] 36)).alloc (.cells #[.bool vb,.int .i64 vn,.slice a1 n1 c1,.slice a2 n2 c2,.slice a3 n3 c3] 64))
   obtain⟨N1,hN1⟩:=cR w5.heap.size
   rw[hw6,hN1];have k6:Below w5.heap.size w5 w6:=by rw[←hw6];exact de (de (ap _ _))
   have XN1:w6.heap[N1]? =some (.cells #[.slice aq qs.length cq,.slice ca cs.length cc,.slice none 0 0,.slice ta tn tc] 36 (0,0)):=by rw[←hw6,←hN1];exact(ak _ _ _ (by simp)).trans cW
   have XN2:w6.heap[N1+1]? =some (.cells #[.bool vb,.int .i64 vn,.slice a1 n1 c1,.slice a2 n2 c2,.slice a3 n3 c3] 64 (0,0)):=by rw[←hw6];exact cY (by simp[hN1])
   have b46:Below w4.heap.size w4 w6:=hb5.trans (k6.mono (by omega));have HXQ6:=aa ((b46.block _ y4).trans HXQ4.out);have HS6:Hid (TaR Z X (N1+1) w #[.slice aq qs.length cq,.slice ca cs.length cc,.slice none 0 0,.slice pa pn pc] #[.bool vb,.int .i64 vn,.slice a1 n1 c1,.slice a2 n2 c2,.slice a3 n3 c3] (.slice aq qs.length cq) (.slice ca cs.length cc) (.slice oa un oc) (.slice va n vc) us n xs (.slice ta tn tc) ts' w6):=aa ⟨by rw[HUN.out.1];exact cV HO4.out (fun q hq=>b46.block q (HO4.out.lt q hq).2),HKO4.out.below HO4.out b46,cV HV4.out (fun q hq=>b46.block q (HV4.out.lt q hq).2),HKV4.out.below HV4.out b46,(b46.block _ x4).trans HX4.out,XN2,(fun e=>by have:=(HV4.out.lt _ e).2;omega),by have:=(ai.1 XN2).1;omega,hT5.below' k6,HB4.out.trans (b46.mono (by omega)),by omega⟩;have HL5:=aa hL5;have HXN1:=aa XN1;have zN2:N1+1<w6.heap.size:=(ai.1 XN2).1;have hXN:X<N1:=by omega
   have y6:Y<w6.heap.size:=by omega
   have n6:N1<w6.heap.size:=by omega
   have kQ:=fun q_=>cU HXQ6.out q_
   have kN:=fun q_=>cU XN1 q_
   clear hw6 hN1 k6 XN1 XN2 b46 hb5 hT5 hL5 kX HX4 HO4 HV4 HKO4 HKV4 HT4 HB4;refine dd (fun V=>Below w6.heap.size w6 V) [0,1,1,0,3] [0,1,2,3,4] (by kernel_rfl) (by kernel_rfl) ?_ ?_
   case refine_1=>exact bdrew (ap _ _)
   (iterate 4 (first | (refine cX rfl (by decide) (by rfl) (fun w1 hS=>by(try(obtain⟨_,_⟩:=bcell (hS rfl)));go_simp;rfl) ?_;simp only[Act.put,ae,af,ag]) | (refine dm rfl (by decide) (by rfl) ?_;simp only[Act.put,ae,af,ag])))
   refine di rfl rfl (by rfl) (fun K hK=>?_)
   refine eh 36 _ _ rfl X #[.slice aq qs.length cq,.slice ca cs.length cc,.slice none 0 0,.slice ta tn tc] #[.slice aq qs.length cq,.slice ca cs.length cc,.slice none 0 0,.slice pa pn pc] 36 rfl rfl (show w6.drew.heap[X]? =_ from HS6.out.hx) rfl (by kernel_rfl) (by simp[Value.oneCell']) ?_
   intro w7 hW hbW hsW hoW;have hsW':w7.heap.size=w6.heap.size:=hsW;have hoW':∀q,q≠X→w7.heap[q]? =w6.heap[q]?:=hoW;have HS7:Hid (TaR Z X (N1+1) w #[.slice aq qs.length cq,.slice ca cs.length cc,.slice none 0 0,.slice ta tn tc] #[.bool vb,.int .i64 vn,.slice a1 n1 c1,.slice a2 n2 c2,.slice a3 n3 c3] (.slice aq qs.length cq) (.slice ca cs.length cc) (.slice oa un oc) (.slice va n vc) us n xs (.slice ta tn tc) ts' w7):=aa ⟨cV HS6.out.ho (fun q hq=>hoW' q (fun e=>by have:=(HS6.out.ho.lt q hq).1;omega)),(fun g cur hg hh=>HS6.out.hko g cur hg ((hoW' g (fun e=>by have:=(HS6.out.ho.lt g hg).1;omega)).symm.trans hh)),cV HS6.out.hv (fun q hq=>hoW' q (fun e=>by have:=(HS6.out.hv.lt q hq).1;omega)),(fun g cur hg hh=>HS6.out.hkv g cur hg ((hoW' g (fun e=>by have:=(HS6.out.hv.lt g hg).1;omega)).symm.trans hh)),hW,(hoW' _ (by omega)).trans HS6.out.hn,HS6.out.nv,by rw[hsW'];exact HS6.out.x1,HS6.out.ht.keepB (Nat.le_of_eq hsW'.symm) (fun q hq=>by
    by_cases hqX:q=X
    ·subst hqX
     exact .inr ⟨_,_,HS6.out.hx,led_two _ _ _ _ (fun t e=>by cases e) (fun t e=>by cases e) (fun t e=>by cases e) (fun t e=>by cases e)⟩
    ·exact .inl (hoW' q hqX)),(bdrew HS6.out.hb).trans (hbW Z (by omega)),HS6.out.zx⟩
   refine hK _ _ ?_
   clear hK K hW hbW hsW hoW hsW' hoW' kQ kN y6 n6 zN2;refine du ?_
   go_upto_region 14 with fail
   refine ei (fun V=>(∀o,V.cell? ⟨X,o,none⟩=(#[.slice aq qs.length cq,.slice ca cs.length cc,.slice none 0 0,.slice ta tn tc]:Array Value)[o]?)∧∀o,V.cell? ⟨N1+1,o,none⟩=(#[.bool vb,.int .i64 vn,.slice a1 n1 c1,.slice a2 n2 c2,.slice a3 n3 c3]:Array Value)[o]?) [0,1,2,2,0,1,2,2,0,0] (.go 0 (.go 1 (.go 4 (.go 5 (.br2 2 6 (.br2 3 6 (.go 6 (.go 7 (.go 8 (.go 9 (.fin))))) (.go 3 (.go 7 (.go 8 (.go 9 (.fin)))))) (.go 2 (.go 3 (.go 7 (.go 8 (.go 9 (.fin))))))))))) (by kernel_rfl) (by kernel_rfl) ?_ ?_
   case refine_1=>exact⟨fun o=>cU HS7.out.hx o,fun o=>cU HS7.out.hn o⟩
   iterate 4 (refine dG rfl (by decide) (by rfl) (fun w1 hS=>by(try(have hS:=hS rfl;obtain⟨_,_⟩:=hS));go_simp;rfl) ?_;(try simp only[Act.put,ae,af,ag]))
   refine⟨?lp,?lq⟩
   case' lp=>
    refine ej rfl (by rfl) (fun K hK=>?_)
    go_simp
    obtain⟨A,hA⟩:=cR ((w7).heap.size)
    obtain⟨wA,hwA⟩:=cR ((w7.alloc (.cells #[.slice aq qs.length cq,.slice ca cs.length cc,.slice none 0 0,.slice ta tn tc] 36)).drew)
    have BA:Below (w7).heap.size (w7) wA:=by rw[←hwA];exact bdrew (de (ap _ _))
    have XA:wA.heap[A]? =some (.cells #[.slice aq qs.length cq,.slice ca cs.length cc,.slice none 0 0,.slice ta tn tc] 36 (0,0)):=by rw[←hwA,←hA];exact cW (W:=w7)
    rw[hwA]
    (try rw[hA])
    have HSA:=aa (HS7.out.below BA);have HXA:=aa XA;have zA:A<wA.heap.size:=(ai.1 XA).1;clear hwA BA XA hA;refine hK _ _ ⟨fun o=>cU HSA.out.hx o,fun o=>cU HSA.out.hn o⟩ ?_
    clear hK K
    (try simp only[Act.put,ae,af,ag])
    refine⟨?l1,?l2⟩
   case' l1=>
    refine ej rfl (by rfl) (fun K hK=>?_)
    refine eZ _ _ _ _ rfl (X+1) 36 i0 _ 4 96 Tryz.underlying29 hin hz0 hz1 hz2 rfl (by omega) (.slice oa un oc) un (us.flatMap (ledE (.slice aq qs.length cq) (.slice ca cs.length cc))) rfl (by have h:=HSA.out.ho;rw[HUN.out.1]at h;exact h) ⟨A,0,none⟩ 1 1 (ledE (.slice aq qs.length cq) (.slice ca cs.length cc) (.slice ta tn tc)) rfl rfl (dI HXA.out) (by simp[ledE,Value.oneCell']) (by simp only[maxLen];omega) (by omega) HSA.out.x1 (by omega) kI (fun i x hx t ht=>by subst ht;rcases i with _ | _ | _ | _ | i<;>simp[ledE]at hx) (fun i x hx t ht=>by subst ht;rcases i with _ | _ | _ | _ | i<;>simp[Value.cells]at hx) HSA.out.hko ?_
    intro vB wB ho hg hf hk;obtain⟨aB,cB,hve⟩:=dg ho;subst hve;have HSB:=aa (HSA.out.appO (u2:=.slice ta tn tc) (by rw[HUN.out.1];exact ho) hg hk);clear ho hg hf hk;refine hK _ _ ⟨fun o=>cU HSB.out.hx o,fun o=>cU HSB.out.hn o⟩ ?_
    clear hK K
    (try simp only[Act.put,ae,af,ag])
    refine dH rfl rfl (by rfl) (fun K hK=>?_)
    go_simp
    obtain⟨C,hC⟩:=cR ((wB).heap.size)
    obtain⟨wC,hwC⟩:=cR ((wB.alloc (.cells #[.bool vb,.int .i64 vn,.slice a1 n1 c1,.slice a2 n2 c2,.slice a3 n3 c3] 64)))
    have BC:Below (wB).heap.size (wB) wC:=by rw[←hwC];exact de (ap _ _)
    have XC:wC.heap[C]? =some (.cells #[.bool vb,.int .i64 vn,.slice a1 n1 c1,.slice a2 n2 c2,.slice a3 n3 c3] 64 (0,0)):=by rw[←hwC,←hC];exact cW
    rw[hwC]
    (try rw[hC])
    have HSC:=aa (HSB.out.below BC);have HXC:=aa XC;have zC:C<wC.heap.size:=(ai.1 XC).1;clear hwC BC XC hC;refine hK _ _ ⟨fun o=>cU HSC.out.hx o,fun o=>cU HSC.out.hn o⟩ ?_
    clear hK K
    (try simp only[Act.put,ae,af,ag])
    refine dH rfl rfl (by rfl) (fun K hK=>?_)
    refine eZ _ _ _ _ rfl (X+1) 64 i1 _ 5 88 Tryz.underlying30 hin1 hy0 hy1 hy2 rfl (by omega) (.slice va n vc) n xs rfl HSC.out.hv ⟨C,0,none⟩ 1 1 [.bool vb,.int .i64 vn,.slice a1 n1 c1,.slice a2 n2 c2,.slice a3 n3 c3] rfl rfl (dI HXC.out) (by simp[ledE,Value.oneCell']) (by simp only[maxLen];omega) (by omega) HSC.out.x1 (by omega) kI (fun i x hx t ht=>by subst ht;rcases i with _ | _ | _ | _ | _ | i<;>simp at hx ⊢) (fun i x hx t ht=>by subst ht;rcases i with _ | _ | _ | _ | _ | i<;>simp[Value.cells]at hx ⊢) HSC.out.hkv ?_
    intro vD wD ho hg hf hk;obtain⟨aD,cD,hve⟩:=dg ho;subst hve;have HSD:=aa (HSC.out.appV ho hg hf hk);clear ho hg hf hk;refine hK _ _ ⟨fun o=>cU HSD.out.hx o,fun o=>cU HSD.out.hn o⟩ ?_
    clear hK K
    (try simp only[Act.put,ae,af,ag])
    have HS9:=HSD
   case' l2=>
    refine ej rfl (by rfl) (fun K hK=>?_)
    go_simp
    obtain⟨B,hB⟩:=cR ((wA).heap.size)
    obtain⟨wB,hwB⟩:=cR ((wA.alloc (.cells #[.bool vb,.int .i64 vn,.slice a1 n1 c1,.slice a2 n2 c2,.slice a3 n3 c3] 64)))
    have BB:Below (wA).heap.size (wA) wB:=by rw[←hwB];exact de (ap _ _)
    have XB:wB.heap[B]? =some (.cells #[.bool vb,.int .i64 vn,.slice a1 n1 c1,.slice a2 n2 c2,.slice a3 n3 c3] 64 (0,0)):=by rw[←hwB,←hB];exact cW
    rw[hwB]
    (try rw[hB])
    have HSB:=aa (HSA.out.below BB);have HXB:=aa XB;have zB:B<wB.heap.size:=(ai.1 XB).1;have hBA:=BB;clear hwB BB XB hB;refine hK _ _ ⟨fun o=>cU HSB.out.hx o,fun o=>cU HSB.out.hn o⟩ ?_
    clear hK K
    (try simp only[Act.put,ae,af,ag])
    have HXA2:=aa (((hBA).block _ zA).trans HXA.out);refine dH rfl rfl (by rfl) (fun K hK=>?_)
    refine eZ _ _ _ _ rfl (X+1) 36 i0 _ 4 96 Tryz.underlying29 hin hz0 hz1 hz2 rfl (by omega) (.slice oa un oc) un (us.flatMap (ledE (.slice aq qs.length cq) (.slice ca cs.length cc))) rfl (by have h:=HSB.out.ho;rw[HUN.out.1]at h;exact h) ⟨A,0,none⟩ 1 1 (ledE (.slice aq qs.length cq) (.slice ca cs.length cc) (.slice ta tn tc)) rfl rfl (dI HXA2.out) (by simp[ledE,Value.oneCell']) (by simp only[maxLen];omega) (by omega) HSB.out.x1 (by omega) kI (fun i x hx t ht=>by subst ht;rcases i with _ | _ | _ | _ | i<;>simp[ledE]at hx) (fun i x hx t ht=>by subst ht;rcases i with _ | _ | _ | _ | i<;>simp[Value.cells]at hx) HSB.out.hko ?_
    intro vC wC ho hg hf hk;obtain⟨aC,cC,hve⟩:=dg ho;subst hve;have HSC:=aa (HSB.out.appO (u2:=.slice ta tn tc) (by rw[HUN.out.1];exact ho) hg hk);have HXB2:=aa ((dw hg zB (fun e=>by obtain⟨cs',f,h1⟩:=ed HSB.out.ho e;exact et h1 HXB.out (by decide) rfl)).trans HXB.out);have zB2:B<wC.heap.size:=(ai.1 HXB2.out).1;clear ho hg hf hk;refine hK _ _ ⟨fun o=>cU HSC.out.hx o,fun o=>cU HSC.out.hn o⟩ ?_
    clear hK K
    (try simp only[Act.put,ae,af,ag])
    refine dH rfl rfl (by rfl) (fun K hK=>?_)
    refine eZ _ _ _ _ rfl (X+1) 64 i1 _ 5 88 Tryz.underlying30 hin1 hy0 hy1 hy2 rfl (by omega) (.slice va n vc) n xs rfl HSC.out.hv ⟨B,0,none⟩ 1 1 [.bool vb,.int .i64 vn,.slice a1 n1 c1,.slice a2 n2 c2,.slice a3 n3 c3] rfl rfl (dI HXB2.out) (by simp[ledE,Value.oneCell']) (by simp only[maxLen];omega) (by omega) HSC.out.x1 (by omega) kI (fun i x hx t ht=>by subst ht;rcases i with _ | _ | _ | _ | _ | i<;>simp at hx ⊢) (fun i x hx t ht=>by subst ht;rcases i with _ | _ | _ | _ | _ | i<;>simp[Value.cells]at hx ⊢) HSC.out.hkv ?_
    intro vD wD ho hg hf hk;obtain⟨aD,cD,hve⟩:=dg ho;subst hve;have HSD:=aa (HSC.out.appV ho hg hf hk);clear ho hg hf hk;refine hK _ _ ⟨fun o=>cU HSD.out.hx o,fun o=>cU HSD.out.hn o⟩ ?_
    clear hK K
    (try simp only[Act.put,ae,af,ag])
    have HS9:=HSD
   case' lq=>
    refine ej rfl (by rfl) (fun K hK=>?_)
    go_simp
    obtain⟨A,hA⟩:=cR ((w7).heap.size)
    obtain⟨wA,hwA⟩:=cR ((w7.alloc (.cells #[.bool vb,.int .i64 vn,.slice a1 n1 c1,.slice a2 n2 c2,.slice a3 n3 c3] 64)).drew)
    have BA:Below (w7).heap.size (w7) wA:=by rw[←hwA];exact bdrew (de (ap _ _))
    have XA:wA.heap[A]? =some (.cells #[.bool vb,.int .i64 vn,.slice a1 n1 c1,.slice a2 n2 c2,.slice a3 n3 c3] 64 (0,0)):=by rw[←hwA,←hA];exact cW (W:=w7)
    rw[hwA]
    (try rw[hA])
    have HSA:=aa (HS7.out.below BA);have HXA:=aa XA;have zA:A<wA.heap.size:=(ai.1 XA).1;clear hwA BA XA hA;refine hK _ _ ⟨fun o=>cU HSA.out.hx o,fun o=>cU HSA.out.hn o⟩ ?_
    clear hK K
    (try simp only[Act.put,ae,af,ag])
    refine dH rfl rfl (by rfl) (fun K hK=>?_)
    go_simp
    obtain⟨B,hB⟩:=cR ((wA).heap.size)
    obtain⟨wB,hwB⟩:=cR ((wA.alloc (.cells #[.slice aq qs.length cq,.slice ca cs.length cc,.slice none 0 0,.slice ta tn tc] 36)))
    have BB:Below (wA).heap.size (wA) wB:=by rw[←hwB];exact de (ap _ _)
    have XB:wB.heap[B]? =some (.cells #[.slice aq qs.length cq,.slice ca cs.length cc,.slice none 0 0,.slice ta tn tc] 36 (0,0)):=by rw[←hwB,←hB];exact cW
    rw[hwB]
    (try rw[hB])
    have HSB:=aa (HSA.out.below BB);have HXB:=aa XB;have zB:B<wB.heap.size:=(ai.1 XB).1;have hBA:=BB;clear hwB BB XB hB;refine hK _ _ ⟨fun o=>cU HSB.out.hx o,fun o=>cU HSB.out.hn o⟩ ?_
    clear hK K
    (try simp only[Act.put,ae,af,ag])
    have HXA2:=aa (((hBA).block _ zA).trans HXA.out);have zA2:A<wB.heap.size:=(ai.1 HXA2.out).1;refine dH rfl rfl (by rfl) (fun K hK=>?_)
    refine eZ _ _ _ _ rfl (X+1) 36 i0 _ 4 96 Tryz.underlying29 hin hz0 hz1 hz2 rfl (by omega) (.slice oa un oc) un (us.flatMap (ledE (.slice aq qs.length cq) (.slice ca cs.length cc))) rfl (by have h:=HSB.out.ho;rw[HUN.out.1]at h;exact h) ⟨B,0,none⟩ 1 1 (ledE (.slice aq qs.length cq) (.slice ca cs.length cc) (.slice ta tn tc)) rfl rfl (dI HXB.out) (by simp[ledE,Value.oneCell']) (by simp only[maxLen];omega) (by omega) HSB.out.x1 (by omega) kI (fun i x hx t ht=>by subst ht;rcases i with _ | _ | _ | _ | i<;>simp[ledE]at hx) (fun i x hx t ht=>by subst ht;rcases i with _ | _ | _ | _ | i<;>simp[Value.cells]at hx) HSB.out.hko ?_
    intro vC wC ho hg hf hk;obtain⟨aC,cC,hve⟩:=dg ho;subst hve;have HSC:=aa (HSB.out.appO (u2:=.slice ta tn tc) (by rw[HUN.out.1];exact ho) hg hk);have HXA22:=aa ((dw hg zA2 (fun e=>by obtain⟨cs',f,h1⟩:=ed HSB.out.ho e;exact et h1 HXA2.out (by decide) rfl)).trans HXA2.out);have zA22:A<wC.heap.size:=(ai.1 HXA22.out).1;clear ho hg hf hk;refine hK _ _ ⟨fun o=>cU HSC.out.hx o,fun o=>cU HSC.out.hn o⟩ ?_
    clear hK K
    (try simp only[Act.put,ae,af,ag])
    refine dH rfl rfl (by rfl) (fun K hK=>?_)
    refine eZ _ _ _ _ rfl (X+1) 64 i1 _ 5 88 Tryz.underlying30 hin1 hy0 hy1 hy2 rfl (by omega) (.slice va n vc) n xs rfl HSC.out.hv ⟨A,0,none⟩ 1 1 [.bool vb,.int .i64 vn,.slice a1 n1 c1,.slice a2 n2 c2,.slice a3 n3 c3] rfl rfl (dI HXA22.out) (by simp[ledE,Value.oneCell']) (by simp only[maxLen];omega) (by omega) HSC.out.x1 (by omega) kI (fun i x hx t ht=>by subst ht;rcases i with _ | _ | _ | _ | _ | i<;>simp at hx ⊢) (fun i x hx t ht=>by subst ht;rcases i with _ | _ | _ | _ | _ | i<;>simp[Value.cells]at hx ⊢) HSC.out.hkv ?_
    intro vD wD ho hg hf hk;obtain⟨aD,cD,hve⟩:=dg ho;subst hve;have HSD:=aa (HSC.out.appV ho hg hf hk);clear ho hg hf hk;refine hK _ _ ⟨fun o=>cU HSD.out.hx o,fun o=>cU HSD.out.hn o⟩ ?_
    clear hK K
    (try simp only[Act.put,ae,af,ag])
    have HS9:=HSD
   all_goals
    iterate 2 (refine dG rfl (by decide) (by rfl) (fun w1 hS=>by go_simp;rfl) ?_;(try simp only[Act.put,ae,af,ag]))
    refine fe ?_
    go_wp2
    go_roundw
    case rel=>exact⟨k+1,us++[.slice ta tn tc],.slice ta tn tc,ts',n+1,_,rd,by omega,by go_num,rfl,by rw[ay,HUN.out.1];simp;omega,by omega,by simp,aa HS9.out.ho,aa HS9.out.hko,aa HS9.out.hv,aa HS9.out.hkv,aa HS9.out.hx,aa HS9.out.ht,HL5,aa HS9.out.hb⟩
    case measure=>simp[intOf];omega
  ·obtain rfl:k=l.length:=by omega
   go_wp2
   refine bodyPost_ret (v:=.tuple #[.slice oa un oc,.slice va n vc]) (by simp[results,Tryz.results6,go_sem]) rfl ?_
   unfold TaPost;rw[HZ.out];have hro:=dF (by decide) (enc:=ledE (.slice aq qs.length cq) (.slice ca cs.length cc)) (fun _=>rfl) HOr.out;exact⟨⟨_,_,rfl,.inr ⟨HP.out,us,_,ts,by rw[HUN.out.1];omega,hro,HUN.out.2,HTr.out,HLr.out⟩⟩,HBr.out⟩
end
section
open Go Go.RowKit Go.ChangeShapes Go.WideShapes Go.Deep Go.Joins Iv
theorem list2 {α:Type} {xs:List α} (h:xs.length=2):∃x0 x1,xs=[x0,x1]:=by
 match xs,h with
 | [x0,x1],_=>exact⟨x0,x1,rfl⟩
theorem pp {α:Type} {xs:List α} (h:xs.length=7):∃x0 x1 x2 x3 x4 x5 x6,xs=[x0,x1,x2,x3,x4,x5,x6]:=by
 match xs,h with
 | [x0,x1,x2,x3,x4,x5,x6],_=>exact⟨x0,x1,x2,x3,x4,x5,x6,rfl⟩
theorem kW {α:Type} {p:Nat→α→Prop}:∀{n:Nat},(∀i,i<n→∃v,p i v)→∃l:List α,l.length=n∧∀i x,l[i]? =some x→p i x
 | 0,_=>⟨[],rfl,fun i x h=>by simp at h⟩
 | n+1,h=>by
  obtain⟨l,hl,hp⟩:=kW (n:=n) fun i hi=>h i (by omega)
  obtain⟨v,hv⟩:=h n (by omega);refine⟨l++[v],by simp[hl],fun i x hx=>?_⟩
  by_cases hi:i<n
  ·rw[bH (by omega)]at hx;exact hp i x hx
  ·rw[bz (by omega)]at hx
   have:i-l.length=0:=by
    have:=(aw.1 hx).1;simp at this;omega
   rw[this]at hx;simp at hx
   subst hx;have:i=n:=by omega
   rw[this];exact hv
section
variable {H:Type} {enc:TypeId×Value→H} {w:World} {base:Nat} {spare:Nat→Bool} {held:Bool}
theorem fld {fs:Array Field} {n i T o k:Nat} {cs:List Value} {xs:List (DataW H×List MemPlace)} (hf:∀(i:Nat) (f:Field),fs[i]? =some f→DataW.trod enc Tryz.prog w base spare held n f.type ((cs.drop f.offset).take (Tryz.prog.cellsOf f.type))=xs[i]?)
  (hj:(fs[i]?.map fun f=>(f.type,f.offset))=some (T,o)) (hk:Tryz.prog.cellsOf T=k):DataW.trod enc Tryz.prog w base spare held n T ((cs.drop o).take k)=xs[i]?:=by
 obtain⟨f,h1,h2⟩:=Option.map_eq_some_iff.1 hj;simp only[Prod.mk.injEq]at h2;obtain⟨rfl,rfl⟩:=h2;rw[←hk];exact hf i f h1
theorem ju {α:Type} {en:α→List Value} {s:Nat} (hen:∀x,(en x).length=s) (hs:0<s) {TS T:TypeId} (hT:Tryz.prog.underlying TS=some (.slice T)) (hc:Tryz.prog.cellsOf T=s)
  (hel:∀{n:Nat} {cs:List Value} {x:DataW H×List MemPlace},DataW.trod enc Tryz.prog w base spare held n T cs=some x→∃y,cs=en y)
  {n:Nat} {cs:List Value} {x:DataW H×List MemPlace} (h:DataW.trod enc Tryz.prog w base spare held n TS cs=some x):∃(u:Value) (l:List α),cs=[u]∧RRow en s w w.heap.size u l:=by
 rcases open_slice hT h with⟨rfl,_⟩ | ⟨a,len,cap,m,n',D,Pl,rfl,hb,hl,hm,hmm,_,hi⟩
 ·exact⟨_,[],rfl,RRow.nil _ _ _ _⟩
 ·rw[hc]at hi
  obtain⟨l,hll,hlp⟩:=kW (α:=α) (n:=len) (p:=fun i b=>∀k u,(en b)[k]? =some u→w.cell? (a.add (i*s+k))=some u) fun i hil=>by
   obtain⟨cs',h1,h2⟩:=hi i (by rw[hmm];split<;>omega);obtain⟨b,rfl⟩:=hel h2;obtain⟨_,_,h3⟩:=World.cells?_some h1;refine⟨b,fun k u hk=>?_⟩
   rw[←Go.Deep.add_add,h3 k (by have:=(aw.1 hk).1;rw[hen]at this;exact this),hk]
  refine⟨_,l,rfl,some a,cap,by rw[hll],by omega,hm,(fun h=>by cases h),fun hp=>?_⟩
  obtain⟨x,hx⟩:∃x,l[0]? =some x:=⟨_,am hp⟩
  obtain⟨y0,hy0⟩:∃y,(en x)[0]? =some y:=⟨_,am (by rw[hen];exact hs)⟩
  have h0:=hlp 0 x hx 0 y0 hy0;obtain⟨ab,ao,asp⟩:=a;have hs:asp=none∧ab<w.heap.size:=by
   unfold World.cell? at h0;simp only[Nat.zero_mul,Addr.add,Nat.add_zero]at h0;have hz:ab<w.heap.size:=by
    apply Classical.byContradiction
    intro hn;have:w.heap[ab]? =none:=by simp;omega
    simp[this]at h0
   refine⟨?_,hz⟩
   cases asp with
   | none=>rfl
   | some s=>
    exfalso
    revert h0
    simp
    split<;>simp
  obtain⟨rfl,hz⟩:=hs;refine⟨ab,ao,rfl,hz,fun i x hx k u hk=>?_⟩
  have:=hlp i x hx k u hk;rw[fj]at this;rw[Nat.add_assoc];exact this
theorem qr {n:Nat} {cs:List Value} {x:DataW H×List MemPlace} (h:DataW.trod enc Tryz.prog w base spare held n 3 cs=some x):∃y:Int,cs=intC y:=by
 obtain⟨a0,e0,_⟩:=cE bp h;exact⟨a0,e0⟩
theorem open_con {n:Nat} {cs:List Value} {x:DataW H×List MemPlace} (h:DataW.trod enc Tryz.prog w base spare held n 95 cs=some x):∃y:Con,cs=conC y:=by
 obtain⟨xs,m,rfl,_,hl,hxl,hf⟩:=DataW.trod_struct Tryz.underlying95 h;obtain⟨c0,c1,c2,c3,c4,c5,c6,rfl⟩:=pp (hl.trans (by kernel_rfl));obtain⟨x0,x1,x2,x3,x4,x5,x6,rfl⟩:=pp hxl;obtain⟨a0,e0,_⟩:=cE (k:=.i64) (by kernel_rfl) (fld (k:=1) (i:=0) hf rfl (by kernel_rfl));obtain⟨a1,e1,_⟩:=cE (k:=.i64) (by kernel_rfl) (fld (k:=1) (i:=1) hf rfl (by kernel_rfl));obtain⟨a2,e2,_⟩:=cE (k:=.i64) (by kernel_rfl) (fld (k:=1) (i:=2) hf rfl (by kernel_rfl));obtain⟨a3,e3,_⟩:=cE (k:=.i64) (by kernel_rfl) (fld (k:=1) (i:=3) hf rfl (by kernel_rfl));obtain⟨a4,e4,_⟩:=cE (k:=.i64) (by kernel_rfl) (fld (k:=1) (i:=4) hf rfl (by kernel_rfl));obtain⟨a5,e5,_⟩:=cE (k:=.i64) (by kernel_rfl) (fld (k:=1) (i:=5) hf rfl (by kernel_rfl));obtain⟨a6,e6,_⟩:=cE (k:=.i64) (by kernel_rfl) (fld (k:=1) (i:=6) hf rfl (by kernel_rfl));simp at e0 e1 e2 e3 e4 e5 e6
 subst e0 e1 e2 e3 e4 e5 e6;exact⟨⟨a0,a1,a2,a3,a4,a5,a6⟩,rfl⟩
theorem qu {n:Nat} {cs:List Value} {x:DataW H×List MemPlace} (h:DataW.trod enc Tryz.prog w base spare held n 25 cs=some x):
  ∃(uq uc:Value) (qs:List Int) (cl:List Con),cs=[uq,uc]∧RRow intC 1 w w.heap.size uq qs∧RRow conC 7 w w.heap.size uc cl:=by
 obtain⟨xs,m,rfl,_,hl,hxl,hf⟩:=DataW.trod_struct Tryz.underlying25 h;obtain⟨c0,c1,rfl⟩:=list2 (hl.trans (by kernel_rfl));obtain⟨x0,x1,rfl⟩:=list2 hxl;obtain⟨uq,qs,e0,hq⟩:=ju (en:=intC) (s:=1) (fun _=>rfl) (by decide) cP (by kernel_rfl) qr (fld (k:=1) (i:=0) hf rfl (by kernel_rfl));obtain⟨uc,cl,e1,hc⟩:=ju mo (by decide) Tryz.underlying23 (by kernel_rfl) open_con (fld (k:=1) (i:=1) hf rfl (by kernel_rfl));simp at e0 e1
 subst e0 e1;exact⟨_,_,qs,cl,rfl,hq,hc⟩
end
end
end Go.Proofs.YtfnciigbbolckaaGreat
