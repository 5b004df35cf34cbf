/- Part 39 of the proof about mailboattop.TopOthers. No condition. -/
import Derived.Test.YtfnciigbbolckaaGreatQ00
import Derived.Test.YtfnciigbbolckaaGreatQ09
import Derived.Test.YtfnciigbbolckaaGreatQ12
import Derived.Test.YtfnciigbbolckaaGreatQ20
import Derived.Test.YtfnciigbbolckaaGreatQ25
import Derived.Test.YtfnciigbbolckaaGreatQ37
import Derived.Test.YtfnciigbbolckaaGreatQ38
set_option linter.unusedVariables false
set_option linter.unusedSimpArgs false
set_option maxRecDepth 100000
set_option maxHeartbeats 64000000
namespace Go.Proofs.YtfnciigbbolckaaGreat
open Go Go.RowKit Iv
attribute [local go_sem] Oper.semAt_some
attribute [local go_sem] pw gu B_app pv B_get B_toList
section
def vicK (cs:List Con) (now:Int) (ts:List Tk) (hs:List Hp) (k:Nat):List Int:=((weakS cs now ts).take k).filter (vicB ts hs now)
theorem lL {cs:List Con} {now:Int} {ts:List Tk} {hs:List Hp} {k:Nat} {n:Int} (h:(weakS cs now ts)[k]? =some n):vicK cs now ts hs (k+1)=if vicB ts hs now n then vicK cs now ts hs k++[n]else vicK cs now ts hs k:=by
 unfold vicK;rw[aN,h,aW]
 cases hb:vicB ts hs now n<;>simp[hb]
theorem vicK_all {cs:List Con} {now:Int} {ts:List Tk} {hs:List Hp} {k:Nat} (h:(weakS cs now ts).length≤k):vicK cs now ts hs k=vicS cs now ts hs:=by
 unfold vicK vicS;rw[bM h]
theorem vicK_len (cs:List Con) (now:Int) (ts:List Tk) (hs:List Hp) (k:Nat):(vicK cs now ts hs k).length≤ts.length:=by
 unfold vicK;refine aK (bn _ _) (aK (List.length_take_le' _ _) (gT cs now ts))
def MkPost (qs:List Int) (cs:List Con) (base g:Nat) (uq uc:Value) (now:Int) (no:Int) (w:World) (e:Ending) (w':World):Prop:=
 (∃d:Bool,e= .returned (.bool d)∧(d=true→∃ts ut uv mv dr,AtX w' g uq uc ut now uv (.bool true) (.int .i64 no) mv dr (.slice none 0 0)∧RTks w' ut ts∧LedOK qs cs ts∧(∃a n c,mv= .slice a n c)∧∃a n c,dr= .slice a n c))∧Below base w w'
theorem hops_not {W:World} {u:Value} {hs:List Hp} {z:Nat} {b:Bool} (h:RHops W u hs) (hn:hs≠[]) (hz:W.heap[z]? =some (.cells #[.bool b] 4 (0,0))):u.ownBlock≠some z:=fun e=>by
 obtain⟨a,c,rfl,-,-,-,h4⟩:=h;obtain⟨bb,o,rfl,-,hc⟩:=h4 (List.length_pos_iff.2 hn);have e1:bb=z:=Option.some.inj e;subst e1;obtain⟨x,r,rfl⟩:=List.exists_cons_of_ne_nil hn;have h1:=hc 0 x rfl 0 (.int .i64 x.ct) rfl;have h2:W.cell? ⟨bb,o+0*4+0,none⟩=(#[Value.bool b]:Array Value)[o+0*4+0]?:=cU hz _;rw[h2]at h1;rcases bq (o+0*4+0) 1 with h | h
 ·have e0:o+0*4+0=0:=by omega
  rw[e0]at h1;simp at h1
 ·rw[bQ (by simpa using h)]at h1
  cases h1
theorem ExSt.said {z:Nat} {b:Bool} {base g:Nat} {ex:List Nat} {uq uc:Value} {now:Int} {ts:List Tk} {vs:List Int} {ut uv acc tk mv dr ba:Value} {lim:Nat} {W:World} (h:ExSt z (.cells #[.bool b] 4 (0,0)) base g ex uq uc now ts vs ut uv acc tk mv dr ba lim W) (v:Value):AtX (W.setCell ⟨z,0,none⟩ v) g uq uc ut now uv acc tk mv dr ba∧RTks (W.setCell ⟨z,0,none⟩ v) ut ts:=by
 have hne:∀q,q≠z→(W.setCell ⟨z,0,none⟩ v).heap[q]? =W.heap[q]?:=fun q hq=>heap_setCell_other W ⟨z,0,none⟩ q _ hq
 have hsz:W.heap.size≤(W.setCell ⟨z,0,none⟩ v).heap.size:=by simp
 refine⟨(hne g (fun e=>h.zn.1 e.symm)).trans h.at_,?_⟩
 obtain⟨ps,e,ho,hh⟩:=h.ot;refine⟨ps,e,(dF (by decide) fI ho).keepAt hsz (fun _ q hq=>hne q (fun e=>h.zn.2.1 (by rw[←e];exact hq))),fun p hp=>(hh p hp).1.keepAt hsz (fun hn q hq=>hne q (fun e=>hops_not (hh p hp).1 hn h.zz (by rw[←e];exact hq)))⟩
def vicAt (g:Nat) (w:World):Nat:=match w.cell? ⟨g,5,none⟩with
 | some (.slice _ n _)=>n
 | _=>0
theorem pm {qs:List Int} {cs:List Con} {base g:Nat} {uq uc:Value} {now no:Int} {w:World} (tmps:Array Value) (z:Nat) (w6:World) (ht:tmps[6]? =some (.pointer (some ⟨z,0,none⟩))) (hz:w6.heap[z]? =some (.cells #[.bool false] 4 (0,0))) (hB:Below base w w6) (hzb:base≤z):
  Leaves Tryz.prog Tryz.f88 tmps (MkPost qs cs base g uq uc now no w) [{target:=.fn (.func 132) #[.pointer (some ⟨z,0,none⟩)],args:=#[]}] (.panicking [{v:=.iface 215 (.agg #[]),recovered:=false}]) w6:=by
 refine leaves_cons (f:=132) (args:=#[.pointer (some ⟨z,0,none⟩)]) (by simp) (by simp[go_sem]) ?_
 refine(li z (.bool false) w6 hz).mono ?_
 rintro e u' w7 ⟨rfl,rfl,hz7,h1,h2,h3,h4,h5⟩;have cz:=cU hz7 0;have hR:MkPost qs cs base g uq uc now no w (.returned (.bool false)) w7:=⟨⟨false,rfl,fun h=>by cases h⟩,hB.trans ⟨h1,h2,h3,h4,fun q hq=>by
  by_cases hq2:q<w6.heap.size
  ·exact h5 q hq2 (by omega)
  ·have:=(ai.1 hz).1;omega⟩⟩
 refine⟨_,?_,hR⟩
 simp[results,Tryz.results88,go_sem,ht,cz]
theorem mk_done {qs:List Int} {cs:List Con} {base g:Nat} {uq uc:Value} {now no:Int} {w:World} (tmps:Array Value) (z:Nat) (w6:World) (ht:tmps[6]? =some (.pointer (some ⟨z,0,none⟩))) (hz:w6.cell? ⟨z,0,none⟩=some (.bool true)) (hR:MkPost qs cs base g uq uc now no w (.returned (.bool true)) w6):
  Leaves Tryz.prog Tryz.f88 tmps (MkPost qs cs base g uq uc now no w) [{target:=.fn (.func 132) #[.pointer (some ⟨z,0,none⟩)],args:=#[]}] .returning w6:=by
 refine leaves_cons (f:=132) (args:=#[.pointer (some ⟨z,0,none⟩)]) (by simp) (by simp[go_sem]) ?_
 refine(mk1_idle z w6).mono ?_
 rintro e u' w7 ⟨rfl,rfl,rfl⟩;refine⟨_,?_,hR⟩
 simp[results,Tryz.results88,go_sem,ht,hz]
theorem make_any (qs:List Int) (cs:List Con) (base g:Nat) (uq uc ut vh:Value) (now:Int) (ts:List Tk) (q:Rq) (hs:List Hp) (B:List Bkg) (H:List Hld) (w:World) (hx:AtX w g uq uc ut now (.slice none 0 0) (.bool false) (.int .i64 0) (.slice none 0 0) (.slice none 0 0) (.slice none 0 0)) (ho:OwnT w base [g] ut ts) (hgb:base≤g) (hbs:base≤w.heap.size) (hq:RRow intC 1 w base uq qs) (hc:RRow conC 7 w base uc cs) (hv:RRow hpC 4 w base vh hs)
  (hL:LedOK qs cs ts) (hE:EOK qs cs q B H hs) (hB:B.Perm ((allB ts).filter (kp (weakS cs now ts) now))) (hH:H.Perm (allH cs ts)) (hl:ts.length<64) (hcr:∀t,ts.getLast? =some t→t.no<1152921504606846976) (hn:0≤now∧now≤1099511627776):
  Calls Tryz.prog 88 #[.pointer (some ⟨g,0,none⟩),.agg #[.int .i64 q.src,.int .i64 q.dst,.int .i64 q.sz,.int .i64 q.rd,.int .i64 q.D,.int .i64 q.pr,.bool q.cu],vh] w (MkPost qs cs base g uq uc now (nextS ts) w):=by
 have hmf:∀(fn:Fn) (first cap:Array Value) (w:World),(Instr.makeFunc fn first cap).run Tryz.prog w= .ok (.func fn first cap) w:=fun _ _ _ _=>rfl
 have hgl:g<w.heap.size:=(ai.1 hx).1;have HG:=aa hx;have HO:=aa ho;have HQ:=aa hq;have HC:=aa hc;have HV:=aa hv;have HL:=aa (cS hL (cS hE (cS hB (cS hH (cS hl (cS hcr hn))))));obtain⟨aq,cq,rfl,-⟩:=hq;obtain⟨ca,cc,rfl,-⟩:=hc;obtain⟨va,vc,rfl,-⟩:=hv;obtain⟨ps,-,hown,-⟩:=id ho;obtain⟨pa,pc,hue⟩:=dg hown;obtain⟨pn,hpn⟩:=cR ps.length
 rw[hpn]at hue;subst hue;clear hx ho hL hE hB hH hcr hn hown hpn;go_enter_defers Tryz.func88,Tryz.ntmps88
 go_upto_region 2 with fail
 obtain⟨Z,hZ⟩:=cR w.heap.size
 obtain⟨w1,hw1⟩:=cR ((w.alloc (.cells #[.int .i64 q.src,.int .i64 q.dst,.int .i64 q.sz,.int .i64 q.rd,.int .i64 q.D,.int .i64 q.pr,.bool q.cu] 38)).alloc (.cells #[.bool false] 4))
 rw[hw1,hZ];have B1:Below Z w w1:=by rw[←hw1,←hZ];exact cZ
 have X0:w1.heap[Z]? =some (.cells #[.int .i64 q.src,.int .i64 q.dst,.int .i64 q.sz,.int .i64 q.rd,.int .i64 q.D,.int .i64 q.pr,.bool q.cu] 38 (0,0)):=by rw[←hw1,←hZ];exact(by repeat (first | exact cY (by first | rfl | (simp;done)) | refine(ak _ _ _ (by first | (simp;done) | (simp;omega))).trans ?_))
 have X1:w1.heap[Z+1]? =some (.cells #[.bool false] 4 (0,0)):=by rw[←hw1,←hZ];exact(by repeat (first | exact cY (by first | rfl | (simp;done)) | refine(ak _ _ _ (by first | (simp;done) | (simp;omega))).trans ?_))
 have z1:Z+1<w1.heap.size:=(ai.1 X1).1;have B1':Below w.heap.size w w1:=by rw[hZ];exact B1
 have hgZ:g<Z:=by omega
 have hbZ:base≤Z:=by omega
 have HX1:Hid (ExSt (Z+1) (.cells #[.bool false] 4 (0,0)) base g [] (.slice aq qs.length cq) (.slice ca cs.length cc) now ts [] (.slice pa pn pc) (.slice none 0 0) (.bool false) (.int .i64 0) (.slice none 0 0) (.slice none 0 0) (.slice none 0 0) 1 w1):=aa ⟨(B1'.block _ hgl).trans HG.out,HO.out.below B1',RRow.nil _ _ _ _,(fun b hb=>by cases hb),⟨0,[],aX _ _ _ _,by simp⟩,⟨0,[],aX _ _ _ _,by simp⟩,(fun b hb=>by cases hb),(fun b hb=>by cases hb),(fun b hb=>by cases hb),hgb,by omega,X1,by omega,(fun e=>by
  obtain⟨ps,-,ho,-⟩:=HO.out;have:=(ho.lt _ e).2;omega),by simp⟩
 have HB1:Hid (Below base w w1):=aa (B1.mono hbZ);have HX0:=aa X0;have cg1:=fun q=>cU HX1.out.at_ q
 simp only[xC]at cg1;have zg1:g<w1.heap.size:=by omega
 have hd1:Below w1.heap.size w1 w1.drew:=bdrew (ap _ _);have HX1D:=aa (HX1.out.below hd1);have HCD:Hid (RRow conC 7 w1.drew w1.drew.heap.size (.slice ca cs.length cc) cs):=aa (HC.out.below (HB1.out.trans (hd1.mono HX1.out.bs)) (aj _) HX1D.out.bs);have HZ:=aa hZ;clear hw1 B1 B1' X0 X1 hZ;refine dd (fun V=>Below (w1).heap.size (w1) V) [0,0,0,0,1,0,0,0,1,3,0,0] [0,1,2,3,4,5,6,7,8,11,9,10] (by kernel_rfl) (by kernel_rfl) ?_ ?_
 case refine_1=>exact cZ
 (iterate 10 (first | (refine cX rfl (by decide) (by rfl) (fun w1 hS=>by(try(obtain⟨_,_⟩:=bcell (hS rfl)));go_simp;rfl) ?_;simp only[Act.put,ae,af,ag]) | (refine dm rfl (by decide) (by rfl) ?_;simp only[Act.put,ae,af,ag])))
 (refine di rfl rfl (by rfl) (fun K hK=>?_);go_simp)
 refine(kl qs cs ts (.slice aq qs.length cq) (.slice ca cs.length cc) (.slice none 0 0) (.slice pa pn pc) now w1.drew ⟨_,_,_,rfl⟩ HCD.out HL.out.1.pl ⟨_,_,_,rfl⟩ HX1D.out.ot.rtks (fun t ht=>HL.out.1.wok ht) HL.out.1.len).mono ?_
 rintro e wc22 hwk;obtain⟨⟨u2,rfl,hr2,hf2⟩,hbc22⟩:=hwk;obtain⟨wa,wcap,rfl,wl1,wl2,-,-⟩:=id hr2
 (refine hK _ _ ?_;clear hK K;(try simp only[Act.put,ae,af,ag]))
 (iterate 1 (first | (refine cX rfl (by decide) (by rfl) (fun w1 hS=>by(try(obtain⟨_,_⟩:=bcell (hS rfl)));go_simp;rfl) ?_;simp only[Act.put,ae,af,ag]) | (refine dm rfl (by decide) (by rfl) ?_;simp only[Act.put,ae,af,ag])))
 refine du ?_
 obtain⟨N,hN⟩:=cR ((weakS cs now ts).length)
 rw[hN]at hr2 hf2 wl1 ⊢;have B2:Below w1.heap.size w1 wc22:=dq hd1 hbc22;obtain⟨w2,hw2⟩:∃q,q=wc22:=⟨_,rfl⟩
 rw[←hw2]at B2 hr2 ⊢;have HX2:=aa (HX1.out.below B2);have HB2:Hid (Below base w w2):=aa (HB1.out.trans (B2.mono HX1.out.bs));have z12:w1.heap.size≤w2.heap.size:=B2.size;have zg2:g<w2.heap.size:=by omega
 have zZ2:Z+1<w2.heap.size:=by omega
 have HX02:=aa ((B2.block _ (by omega)).trans HX0.out);have HR2:=aa hr2;have HF2:Hid (∀b,(Value.slice wa N wcap).ownBlock=some b→g<b):=aa (fun b hb=>by
  cases wa with
  | none=>cases hb
  | some x=>
   have h1:=hf2 x N wcap rfl;have h2:x.block=b:=Option.some.inj hb;simp at h1
   omega)
 have HN:=aa hN;unfold maxLen at wl2;obtain⟨i0,hin,hz0,hz1,hz2⟩:=info_parts iD;have hN64:N≤64:=by rw[←hN];have:=gT cs now ts;have:=HL.out.2.2.2.2.1;omega
 clear hw2 B2 hbc22 hr2 hf2 hd1 HX1 HX1D HCD HB1 HX0 cg1 zg1 hN z1;go_wp2_with fail
 go_loopw [24] (fun kv wr=>∃(k:Nat) (ex:List Nat) (uv:Value),k≤N∧kv= .int .i64 (k:Int)∧Hid (ExSt (Z+1) (.cells #[.bool false] 4 (0,0)) base g ex (.slice aq qs.length cq) (.slice ca cs.length cc) now ts (vicK cs now ts hs k) (.slice pa pn pc) uv (.bool false) (.int .i64 0) (.slice none 0 0) (.slice none 0 0) (.slice none 0 0) ((vicK cs now ts hs k).length+1) wr)∧Hid (wr.ownsRow base 3 1 uv (vicK cs now ts hs k).length (ints (vicK cs now ts hs k)))∧Hid (∀b,uv.ownBlock=some b→b∈ex∧w2.heap.size≤b)∧Hid (KpO g none w2 wr)) (fun kv _=>N-(intOf kv).toNat)
 case atStart=>exact⟨0,[],.slice none 0 0,aE _,rfl,aa HX2.out,aa (aX _ _ _ _),aa (fun b hb=>by cases hb),aa (KpO.of (ap _ _))⟩
 case round=>
  obtain⟨k,ex,uv,hk,rfl,HXr,HOr,HUr,HKr⟩:=hrel;obtain⟨V,hV⟩:=cR (vicK cs now ts hs k)
  rw[hV]at HXr HOr;have HVV:=aa hV;obtain⟨ua,uc,hue⟩:=dg HOr.out;subst hue;have hV64:V.length≤64:=by rw[←hV];have:=vicK_len cs now ts hs k;have:=HL.out.2.2.2.2.1;omega
  clear hV;have zr:w2.heap.size≤wr.heap.size:=HKr.out.size;have zgr:g<wr.heap.size:=by omega
  have k0:(0:Int)≤(k:Int):=by omega
  have cgr:=fun q=>cU HXr.out.at_ q
  simp only[xC]at cgr;have HBr:Hid (Below base w wr):=aa (HB2.out.trans (HKr.out.below hgb (fun q hq=>by cases hq) HX2.out.bs));by_cases hlt:k<N
  ·have k1:(k:Int)<(N:Int):=by omega
   obtain⟨n,hn⟩:∃n,(weakS cs now ts)[k]? =some n:=⟨_,am (by rw[HN.out];exact hlt)⟩
   have HNK:=aa hn;obtain⟨t,htm,hno,hst,hbl⟩:=m8 (az hn);have hfind:findS ts n=some t:=by rw[←hno];exact kx HL.out.1.num htm
   have HT:=aa (cS htm (cS hno hfind));obtain⟨a0,c0,he0,-,-,-,h4⟩:=id HR2.out;injection he0 with e1 e2 e3
   obtain⟨wb,wo,rfl,hwb,hwc⟩:=h4 (by rw[HN.out];omega);subst e1 e3;have hwn:w2.cell? ⟨wb,wo+k*1,none⟩=some (.int .i64 n):=hwc k n hn 0 _ rfl;have hwbg:wb≠g:=fun e=>by have:=HF2.out wb rfl;omega
   have cwn:wr.cell? ⟨wb,wo+k,none⟩=some (.int .i64 n):=by
    have h1:=HKr.out.block wb hwb hwbg (fun e=>by cases e);rw[Nat.mul_one]at hwn;unfold World.cell? at hwn ⊢;simp only at hwn ⊢;rw[h1];exact hwn
   have zwb:wb<wr.heap.size:=by omega
   obtain⟨ps,hps,hown,hhs⟩:=id HXr.out.ot;have HPS:=aa (cS hps (cS (dF (by decide) fI hown) (fun p hp=>(hhs p hp).1)));clear hn hno hst hbl hfind htm h4 hwc hwn hwbg hps hown hhs e2;go_wp2_with fail
   refine(lW ts ps (.slice aq qs.length cq) (.slice ca cs.length cc) (.slice none 0 0) (.slice pa pn pc) n wr ⟨_,_,_,rfl⟩ ⟨_,_,_,rfl⟩ ⟨_,_,_,rfl⟩ HPS.out.1 HPS.out.2.1 HPS.out.2.2).mono ?_
   intro e w3 hres;obtain⟨⟨ta,tc,-,rfl,hru⟩,hb3⟩:=hres.hit HT.out.2.2;have HX3:=aa (HXr.out.below hb3);have HK3:Hid (KpO g none w2 w3):=aa (HKr.out.trans (KpO.of hb3));have HB3:Hid (Below base w w3):=aa (HBr.out.trans (hb3.mono HXr.out.bs));have HO3:=aa (cV HOr.out (fun q hq=>hb3.block q (HOr.out.lt q hq).2));have z3:wr.heap.size≤w3.heap.size:=hb3.size;have HRU:=aa hru;clear hres hb3 hru cgr cwn;go_upto_region 6 with fail
   obtain⟨T,hT⟩:=cR w3.heap.size
   obtain⟨w4,hw4⟩:=cR (w3.alloc (.cells #[.int .i64 t.no,.int .i64 t.q.src,.int .i64 t.q.dst,.int .i64 t.q.sz,.int .i64 t.q.rd,.int .i64 t.q.D,.int .i64 t.q.pr,.bool t.q.cu,(.slice ta t.hs.length tc),.int .i64 t.st,.int .i64 t.un] 41))
   rw[hw4,hT];have b4:Below w3.heap.size w3 w4:=by rw[←hw4];exact de (ap _ _)
   have XT4:w4.heap[T]? =some (.cells #[.int .i64 t.no,.int .i64 t.q.src,.int .i64 t.q.dst,.int .i64 t.q.sz,.int .i64 t.q.rd,.int .i64 t.q.D,.int .i64 t.q.pr,.bool t.q.cu,(.slice ta t.hs.length tc),.int .i64 t.st,.int .i64 t.un] 41 (0,0)):=by rw[←hw4,←hT];exact cW
   have HX4:=aa (HX3.out.below b4);have HK4:Hid (KpO g none w2 w4):=aa (HK3.out.trans (KpO.of b4));have HB4:Hid (Below base w w4):=aa (HB3.out.trans (b4.mono HX3.out.bs));have HO4:=aa (cV HO3.out (fun q hq=>b4.block q (HO3.out.lt q hq).2));have z4:w3.heap.size≤w4.heap.size:=b4.size;have zT4:T<w4.heap.size:=(ai.1 XT4).1;have HRU4:Hid (RHops w4 (.slice ta t.hs.length tc) t.hs):=aa (HRU.out.below' b4);have cT4:=fun q=>cU XT4 q
   have cg4:=fun q=>cU HX4.out.at_ q
   simp only[xC]at cg4;have zg4:g<w4.heap.size:=by omega
   clear hw4 hT b4 XT4 HX3 HK3 HB3 HO3 HRU;have hd4:Below w4.heap.size w4 w4.drew:=bdrew (ap _ _);have HRD:Hid (RHops w4.drew (.slice ta t.hs.length tc) t.hs):=aa (HRU4.out.below' hd4);have HVD:Hid (RHops w4.drew (.slice va hs.length vc) hs):=aa (HV.out.below (HB4.out.trans (hd4.mono HX4.out.bs)) (aj _) (aK HX4.out.bs hd4.size));obtain⟨p,hp⟩:=cR (ovlT t hs now)
   have HPP:Hid (ovlT t hs now=p∧vicB ts hs now n=p):=aa ⟨hp,by unfold vicB;rw[HT.out.2.2];exact hp⟩;clear hp;refine dd (fun V=>Below (w4).heap.size (w4) V) [1,0,0,0,0,1,3] [0,1,2,3,4,5,6] (by kernel_rfl) (by kernel_rfl) ?_ ?_
   case refine_1=>exact cZ
   (iterate 6 (first | (refine cX rfl (by decide) (by rfl) (fun w1 hS=>by(try(obtain⟨_,_⟩:=bcell (hS rfl)));go_simp;rfl) ?_;simp only[Act.put,ae,af,ag]) | (refine dm rfl (by decide) (by rfl) ?_;simp only[Act.put,ae,af,ag])))
   (refine di rfl rfl (by rfl) (fun K hK=>?_);go_simp)
   refine(nK t (.slice ta t.hs.length tc) (.slice va hs.length vc) hs now w4.drew HRD.out HVD.out).mono ?_
   rw[HPP.out.1];rintro e wc44 ⟨rfl,hbc44⟩
   (refine hK _ _ ?_;clear hK K;(try simp only[Act.put,ae,af,ag]))
   refine du ?_
   have B5:Below w4.heap.size w4 wc44:=dq hd4 hbc44;obtain⟨w5,hw5⟩:∃q,q=wc44:=⟨_,rfl⟩
   rw[←hw5]at B5 ⊢;have HX5:=aa (HX4.out.below B5);have HK5:Hid (KpO g none w2 w5):=aa (HK4.out.trans (KpO.of B5));have HO5:=aa (cV HO4.out (fun q hq=>B5.block q (HO4.out.lt q hq).2));have z5:w4.heap.size≤w5.heap.size:=B5.size;have zg5:g<w5.heap.size:=by omega
   have cg5:=fun q=>cU HX5.out.at_ q
   simp only[xC]at cg5;have fg5:=fun q=>dC HX5.out.at_ q
   clear hw5 B5 hbc44 hd4 HRD HVD HX4 HK4 HO4 HB4 HRU4 cT4 cg4 zg4 zT4
   cases p with
   | false=>
    have HVS:Hid (vicK cs now ts hs (k+1)=V):=aa (by rw[lL HNK.out,HPP.out.2,HVV.out];rfl);go_wp2
    go_roundw
    case rel=>exact⟨k+1,ex,_,by omega,by go_num,by rw[HVS.out];exact HX5,by rw[HVS.out];exact HO5,HUr,HK5⟩
    case measure=>simp[intOf];omega
   | true=>
    have HVS:Hid (vicK cs now ts hs (k+1)=V++[n]):=aa (by rw[lL HNK.out,HPP.out.2,HVV.out];rfl);have HGU:Hid ((Value.slice ua V.length uc).ownBlock≠some g):=aa (fun e=>by
     obtain⟨cs',f,h1⟩:=ed HO5.out e;exact et h1 HX5.out.at_ (by decide) rfl)
    have hbs5:base≤w5.heap.size:=HX5.out.bs;go_wp2_with (at_builtin;refine dK _ rfl _ _ _ rfl base 3 i0 _ 1 8 cP hin hz0 hz1 hz2 rfl (by omega) (.slice ua V.length uc) V.length (ints V) rfl (cV HO5.out (fun q hq=>ak _ _ _ (HO5.out.lt q hq).2)) ⟨w5.heap.size,0,none⟩ 1 1 [.int .i64 n] rfl rfl (dI cW) (by simp[Value.oneCell']) (by simp only[maxLen];omega) (by omega) (by simp;omega) (by omega) ?_;intro vo w9 ho9 hg9 hf9;obtain⟨va9,vc9,hve⟩:=dg ho9;subst hve;have HG9:=aa ((dw hg9 (by simp;omega) (fun e=>HGU.out e)).trans ((ak w5 (.cells #[.int .i64 n] 3) g zg5).trans HX5.out.at_));have hgl9:g<w9.heap.size:=(ai.1 HG9.out).1;have c9:=fun q=>cU HG9.out q;have f9:=fun q=>dC HG9.out q;have HO9:=aa ho9;have HGR:=aa hg9;have HF9:=aa hf9;clear ho9 hg9 hf9 cg5 fg5)
    have hkK:KpO g (Value.slice ua V.length uc).ownBlock w5 (w9.setCell ⟨g,5,none⟩ (.slice va9 (V.length+1) vc9)):=((KpO.of (de (ap _ _))).trans (KpO.grown HGR.out)).trans (KpO.set g 5 _ w9 _);have hoF:(w9.setCell ⟨g,5,none⟩ (.slice va9 (V.length+1) vc9)).ownsRow base 3 1 (.slice va9 (V.length+1) vc9) (V++[n]).length (ints (V++[n])):=by
     have h:=cV (w':=w9.setCell ⟨g,5,none⟩ (.slice va9 (V.length+1) vc9)) HO9.out (fun q hq=>heap_setCell_other w9 ⟨g,5,none⟩ q _ (fun e=>by
      obtain⟨cs',f,h1⟩:=ed HO9.out hq;exact et h1 HG9.out (by decide) e))
     rw[ay];unfold ints at h ⊢;rw[bL];exact h
    have hfF:(Value.slice va9 (V.length+1) vc9).ownBlock=(Value.slice ua V.length uc).ownBlock∨∀b,(Value.slice va9 (V.length+1) vc9).ownBlock=some b→w5.heap.size≤b:=by
     rcases HF9.out with h | h
     ·exact .inl h
     ·exact .inr (fun b hb=>by rw[h]at hb;have:=Option.some.inj hb;simp at this;omega)
    have hrF:RRow intC 1 (w9.setCell ⟨g,5,none⟩ (.slice va9 (V.length+1) vc9)) (w9.setCell ⟨g,5,none⟩ (.slice va9 (V.length+1) vc9)).heap.size (.slice va9 (V.length+1) vc9) (V++[n]):=by
     have h:=hoF;rw[ay]at h;exact iE (by rw[ay];exact h)
    obtain⟨hxF,-⟩:=HX5.out.pushV HO5.out (fun b hb=>(HUr.out b hb).1) (by simp) hkK (eD HG9.out 5 _) hoF hrF hfF;refine⟨⟨k+1,_,.slice va9 (V.length+1) vc9,by omega,by go_num,by rw[HVS.out,ay];exact aa hxF,by rw[HVS.out];exact aa hoF,aa (fun b hb=>⟨by simp[hb],?_⟩),aa ⟨hkK.os.trans HK5.out.os,hkK.tape.trans HK5.out.tape,hkK.output.trans HK5.out.output,aK HK5.out.size hkK.size,fun q hq hne _=>?_⟩⟩,by simp[intOf];omega⟩
    ·rcases hfF with h | h
     ·exact(HUr.out b (by rw[←h];exact hb)).2
     ·have:=h b hb;omega
    ·exact(hkK.block q (by omega) hne (fun e=>by have:=(HUr.out q e).2;omega)).trans (HK5.out.block q hq hne (fun e=>by cases e))
  ·obtain rfl:k=N:=by omega
   have HVS:Hid (V=vicS cs now ts hs):=aa (by rw[←HVV.out];exact vicK_all (by rw[HN.out];exact aj _));obtain⟨nx1,nx2,nx3⟩:=o6 HL.out.1.num (fun t ht=>(HL.out.1.tk t ht).n0) HL.out.2.2.2.2.2.1;obtain⟨no,hnx⟩:=cR (nextS ts)
   rw[hnx]at nx1 nx2 nx3 ⊢;have HNX:=aa hnx;have HNEW:=aa nx3;have HXZ:Hid (wr.heap[Z]? =some (.cells #[.int .i64 q.src,.int .i64 q.dst,.int .i64 q.sz,.int .i64 q.rd,.int .i64 q.D,.int .i64 q.pr,.bool q.cu] 38 (0,0))):=aa ((HKr.out.block Z (by omega) (by omega) (fun e=>by cases e)).trans HX02.out);clear hnx nx3;go_wp2_with fail
   refine(mR ts g 107 (xC (.slice aq qs.length cq) (.slice ca cs.length cc) (.slice pa pn pc) now (.slice ua V.length uc) (.bool false) (.int .i64 0) (.slice none 0 0) (.slice none 0 0) (.slice none 0 0)) (.slice pa pn pc) wr HXr.out.at_ rfl HXr.out.ot.rtks (fun t ht=>by
    have h1:=(HL.out.1.tk t (List.mem_of_getLast? ht)).n0;have h2:=(HL.out.1.tk t (List.mem_of_getLast? ht)).n1;omega)).mono ?_
   rw[HNX.out];rintro e w3 ⟨rfl,hb3⟩;have HX3:=aa (HXr.out.below hb3);have HB3:Hid (Below base w w3):=aa (HBr.out.trans (hb3.mono HXr.out.bs));have z3:wr.heap.size≤w3.heap.size:=hb3.size;have XZ3:=(hb3.block Z (by omega)).trans HXZ.out;have zZ3:Z<w3.heap.size:=by omega
   have zg3:g<w3.heap.size:=by omega
   have cZ3:=fun q=>cU XZ3 q
   clear hb3 cgr HXr HOr HUr HKr HBr HXZ XZ3;have hd3:Below w3.heap.size w3 w3.drew:=bdrew (ap _ _);have HX3D:=aa (HX3.out.below hd3);have HVD:Hid (RHops w3.drew (.slice va hs.length vc) hs):=aa (HV.out.below (HB3.out.trans (hd3.mono HX3.out.bs)) (aj _) HX3D.out.bs);have hsep:(newT no q hs).hs≠[]→(∀b,(Value.slice pa pn pc).ownBlock=some b→(Value.slice va hs.length vc).ownBlock≠some b)∧∀b∈g::ex,(Value.slice va hs.length vc).ownBlock≠some b:=fun hne=>by
    have hlow:∀b,(Value.slice va hs.length vc).ownBlock=some b→b<base:=fun b hb=>by
     obtain⟨a0,c0,he0,-,-,-,h4⟩:=HV.out;injection he0 with e1 e2 e3
     obtain⟨bb,o,h5,h6,-⟩:=h4 (List.length_pos_iff.2 hne);subst e1;rw[h5]at hb;have:=Option.some.inj hb;simp at this
     omega
    refine⟨fun b hb e=>?_,fun b hb e=>?_⟩
    ·have:=(HX3.out.tb b hb).1;have:=hlow b e;omega
    ·have h1:=hlow b e
     rcases aG.1 hb with rfl | hb
     ·omega
     ·have:=(HX3.out.exb b hb).1;omega
   have HSEP:=aa hsep;clear hsep;have hl64:ts.length≤64:=by have:=HL.out.2.2.2.2.1;omega
   go_upto_region 10 with fail
   refine dd (fun V=>Below (w3).heap.size (w3) V) [0,0,0,0,1,0,0,3] [0,1,2,3,4,5,6,7] (by kernel_rfl) (by kernel_rfl) ?_ ?_
   case refine_1=>exact cZ
   (iterate 7 (first | (refine cX rfl (by decide) (by rfl) (fun w1 hS=>by(try(obtain⟨_,_⟩:=bcell (hS rfl)));go_simp;rfl) ?_;simp only[Act.put,ae,af,ag]) | (refine dm rfl (by decide) (by rfl) ?_;simp only[Act.put,ae,af,ag])))
   (refine di rfl rfl (by rfl) (fun K hK=>?_);go_simp)
   refine(iJ ts (newT no q hs) (.slice va hs.length vc) base g ex 107 (xC (.slice aq qs.length cq) (.slice ca cs.length cc) (.slice pa pn pc) now (.slice ua V.length uc) (.bool false) (.int .i64 0) (.slice none 0 0) (.slice none 0 0) (.slice none 0 0)) (.slice pa pn pc) w3.drew HX3D.out.at_ (by decide) rfl HX3D.out.ot HX3D.out.bs HVD.out HSEP.out hl64).mono ?_
   rintro e wc67 hset;obtain⟨he,⟨ut4,hx4,-⟩,hb4,-⟩:=HX3D.out.set hset;subst he
   (refine hK _ _ ?_;clear hK K;(try simp only[Act.put,ae,af,ag]))
   refine du ?_
   obtain⟨w4,hw4⟩:∃q,q=wc67:=⟨_,rfl⟩
   rw[←hw4]at hx4 hb4 ⊢;have hset4:setS ts (newT no q hs)=ts++[newT no q hs]:=iI (fun x hx=>by have:=HNEW.out x hx;show x.no≠no;omega);rw[hset4]at hx4;have HI4:Hid (XInv qs cs now (ts++[newT no q hs]) V):=aa (by
    rw[HVS.out];exact pX HL.out.1 HL.out.2.1 HL.out.2.2.1 HL.out.2.2.2.1 HL.out.2.2.2.2.1 nx1 nx2 HNEW.out)
   have HL4:Hid (LenX (ts++[newT no q hs])):=aa (iP (fun t ht=>HL.out.1.hops ht) HL.out.2.1.len);have HB4:Hid (Below base w w4):=aa ((HB3.out.trans (hd3.mono HX3.out.bs)).trans hb4);have zg4:g<w4.heap.size:=(ai.1 hx4.at_).1;have HX4:=aa hx4;have cg4:=fun q=>cU HX4.out.at_ q
   simp only[xC]at cg4;have fg4:=fun q=>dC HX4.out.at_ q
   clear hw4 hx4 hb4 hset hset4 HX3 HX3D HVD hd3 HB3 cZ3 zZ3 zg3 HSEP;go_wp2_with fail
   obtain⟨w5,hw5⟩:=cR ((w4.setCell ⟨g,6,none⟩ (.bool true)).setCell ⟨g,7,none⟩ (.int .i64 no))
   rw[hw5];have HX5:Hid (ExSt (Z+1) (.cells #[.bool false] 4 (0,0)) base g ex (.slice aq qs.length cq) (.slice ca cs.length cc) now (ts++[newT no q hs]) V ut4 (.slice ua V.length uc) (.bool true) (.int .i64 no) (.slice none 0 0) (.slice none 0 0) (.slice none 0 0) (V.length+1) w5):=aa (by rw[←hw5];exact HX4.out.say);have HB5:Hid (Below base w w5):=aa (by rw[←hw5];exact bset (bset HB4.out HX4.out.gb) HX4.out.gb);clear hw5 HX4 HB4 cg4 fg4 zg4;obtain⟨L,hL⟩:=cR V.length
   have HLL:=aa hL;have hL64:L≤64:=by omega
   rw[hL]at HX5;clear hL;go_loopw [82] (fun _ wr=>∃(ts':List Tk) (vs:List Int) (ex:List Nat) (ut uv mv dr:Value),Hid (ExSt (Z+1) (.cells #[.bool false] 4 (0,0)) base g ex (.slice aq qs.length cq) (.slice ca cs.length cc) now ts' vs ut uv (.bool true) (.int .i64 no) mv dr (.slice none 0 0) (L+1) wr)∧Hid (XInv qs cs now ts' vs)∧Hid (LenX ts')∧Hid (Below base w wr)) (fun _ wr=>vicAt g wr)
   case atStart=>exact⟨_,V,ex,ut4,_,_,_,HX5,HI4,HL4,HB5⟩
   case round=>
    obtain⟨ts',vs,ex',ut',uv',mv',dr',HXr,HIr,HLr,HBr⟩:=hrel;obtain⟨ua',uc',hue',-⟩:=id HXr.out.rv;subst hue';have cgr:=fun q=>cU HXr.out.at_ q
    simp only[xC]at cgr;have zgr:g<wr.heap.size:=(ai.1 HXr.out.at_).1
    cases hvs:vs with
    | nil=>
     rw[hvs]at HXr HIr cgr;clear hvs;simp only[bE]at HXr cgr;go_wp2_with fail
     refine(nL qs cs ts' [] g (.slice aq qs.length cq) (.slice ca cs.length cc) ut' now (.slice ua' 0 uc') (.bool true) (.int .i64 no) mv' dr' (.slice none 0 0) wr HXr.out.at_ ⟨_,_,_,rfl⟩ (HC.out.below HBr.out (aj _) HXr.out.bs) HL.out.1.pl HXr.out.ot.rtks (fun x hx=>HIr.out.wok HL.out.1.pl hx) HIr.out.len HLr.out HXr.out.rv (by simp)).mono ?_
     rintro e w6 ⟨hxt | ⟨vb6,vh6,B6,H6,rfl,hfl6,-,-,-,-,-⟩,hb6⟩
     ·subst hxt
      exact pm _ (Z+1) w6 rfl (HXr.out.below hb6).zz (HBr.out.trans (hb6.mono HXr.out.bs)) (by omega)
     ·have HX6:=aa (HXr.out.below hb6)
      have HB6:Hid (Below base w w6):=aa (HBr.out.trans (hb6.mono HXr.out.bs));have HLD:Hid (LedOK qs cs ts'):=aa (HIr.out.fin HL.out.1.pl hfl6.1 hfl6.2);have zz6:Z+1<w6.heap.size:=(ai.1 HX6.out.zz).1;have cz6:=fun q=>cU HX6.out.zz q
      have fz6:=fun q=>dC HX6.out.zz q
      clear hfl6 hb6 cgr;obtain⟨_,_,om,-⟩:=HX6.out.om;obtain⟨_,_,od,-⟩:=HX6.out.od;obtain⟨ma,mc,hme⟩:=dg om;obtain⟨da,dc,hde⟩:=dg od;have HSH:Hid ((∃a n c,mv'= .slice a n c)∧∃a n c,dr'= .slice a n c):=aa ⟨⟨_,_,_,hme⟩,⟨_,_,_,hde⟩⟩;clear om od hme hde;go_wp2
      have hF:=HX6.out.said (.bool true);have hcF:(w6.setCell ⟨Z+1,0,none⟩ (.bool true)).cell? ⟨Z+1,0,none⟩=some (.bool true):=cU (eD HX6.out.zz 0 (.bool true)) 0;have hBF:Below base w (w6.setCell ⟨Z+1,0,none⟩ (.bool true)):=bset HB6.out (by show base≤Z+1;omega);rw[←HNX.out]at hF;exact mk_done _ (Z+1) _ rfl hcF ⟨⟨true,rfl,fun _=>⟨ts',ut',_,mv',dr',hF.1,hF.2,HLD.out,HSH.out⟩⟩,hBF⟩
    | cons v vs'=>
     rw[hvs]at HXr HIr cgr;obtain⟨m,hm⟩:=cR ((v::vs').length)
     have hm0:0<m:=by rw[←hm];simp
     have hm1:decide ((m:Int)>0)=true:=decide_eq_true (by omega);have hm2:(0:Int)<(m:Int):=by omega
     rw[hm]at HXr cgr;have HM:=aa hm;clear hvs hm;go_wp2_with fail
     refine(move_any (Z+1) (.cells #[.bool false] 4 (0,0)) qs cs base g ex' (.slice aq qs.length cq) (.slice ca cs.length cc) now ts' v vs' ut' (.slice ua' m uc') (.bool true) (.int .i64 no) mv' dr' (.slice none 0 0) L wr HXr.out (HQ.out.below HBr.out (aj _) (aj _)) (HC.out.below HBr.out (aj _) (aj _)) HL.out.1.pl HIr.out HLr.out HL.out.2.2.2.2.2.2 (by omega)).mono ?_
     rintro e w6 ⟨⟨rfl,hz⟩ | ⟨rfl,ex6,ts6,ut6,uv6,mv6,dr6,hx6,hi6,hl6⟩,hb6⟩
     ·exact pm _ (Z+1) w6 rfl hz (HBr.out.trans hb6) (by omega)
     ·have HB6:Hid (Below base w w6):=aa (HBr.out.trans hb6)
      obtain⟨ua6,uc6,hue6,-⟩:=id hx6.rv;have HMS:Hid (vicAt g w6<vicAt g wr):=aa (by
       have h1:=cU hx6.at_ 5;have h2:=cU HXr.out.at_ 5;simp only[xC]at h1 h2;unfold vicAt;rw[h1,h2,hue6,←HM.out];simp)
      have HX6:=aa (cS hx6 (cS hi6 hl6));clear hx6 hi6 hl6 hue6 hb6 cgr;go_wp2
      go_roundw
      case rel=>exact⟨ts6,vs',ex6,ut6,uv6,mv6,dr6,aa HX6.out.1,aa HX6.out.2.1,aa HX6.out.2.2,HB6⟩
      case measure=>exact HMS.out
end
section
theorem try1_any (b:Bkg) (ob nb:Nat) (uv:Value) (now:Int) (vs:List Int) (w:World) (ho:w.heap[ob]? =some (.cells #[uv] 22 (0,0))) (hnb:w.heap[nb]? =some (.cells #[.int .i64 now] 3 (0,0))) (hv:RRow intC 1 w w.heap.size uv vs) (hl:vs.length≤100000):
  Calls Tryz.prog 85 #[.agg #[.int .i64 b.ct,.int .i64 b.bg,.int .i64 b.en,.int .i64 b.tk],.pointer (some ⟨ob,0,none⟩),.pointer (some ⟨nb,0,none⟩)] w fun e w'=>e= .returned (.bool (!kp vs now b))∧Below w.heap.size w w':=by
 have hol:ob<w.heap.size:=(ai.1 ho).1;have hnl:nb<w.heap.size:=(ai.1 hnb).1;have HO:=aa ho;have HN:=aa hnb;have HV:=aa hv;obtain⟨va,vc,rfl,-⟩:=hv;clear ho hnb;obtain⟨p,hp⟩:=cR (vs.contains b.tk)
 obtain⟨r,hr⟩:=cR (decide (b.bg>now))
 have HP:=aa hp;have HK:Hid ((!kp vs now b)=(p&&r)):=aa (by unfold kp;rw[hp,hr,Bool.not_not]);clear hp;go_enter Tryz.func85,Tryz.ntmps85
 go_upto_region 1 with fail
 obtain⟨w1,hw1⟩:=cR (w.alloc (.cells #[.int .i64 b.ct,.int .i64 b.bg,.int .i64 b.en,.int .i64 b.tk] 53))
 rw[hw1];have HB1:Hid (Below w.heap.size w w1):=aa (by rw[←hw1];exact de (ap _ _));have X1:w1.heap[w.heap.size]? =some (.cells #[.int .i64 b.ct,.int .i64 b.bg,.int .i64 b.en,.int .i64 b.tk] 53 (0,0)):=by rw[←hw1];exact cW
 have z1:w.heap.size<w1.heap.size:=(ai.1 X1).1;have cx:=fun q=>cU X1 q
 have co:=fun q=>cU ((HB1.out.block _ hol).trans HO.out) q
 have zo:ob<w1.heap.size:=by omega
 have HX1:=aa X1;clear hw1 X1;go_wp2_with fail
 refine(kB vs b.tk _ w1 (HV.out.below' HB1.out) hl).mono ?_
 rw[HP.out];rintro e w2 ⟨rfl,hb2⟩;have z2:=hb2.size;have zn:nb<w2.heap.size:=by omega
 have zx:w.heap.size<w2.heap.size:=by omega
 have cx:=fun q=>cU ((hb2.block _ z1).trans HX1.out) q
 have cn:=fun q=>cU (((dq HB1.out hb2).block _ hnl).trans HN.out) q
 have HB2:Hid (Below w.heap.size w w2):=aa (dq HB1.out hb2);clear hb2 co
 cases p with
 | false=>
  go_wp2
  go_ret
  rw[HK.out];exact⟨rfl,HB2.out⟩
 | true=>
  go_wp2
  go_ret
  rw[HK.out];exact⟨by first | rfl | (rw[←hr];rfl) | (cases r<;>simp_all),HB2.out⟩
theorem kV (er:Int) (w:World):
  Calls Tryz.prog 37 #[.int .i64 er] w fun e w'=>e= .returned (.tuple #[.agg #[.slice none 0 0,.slice none 0 0,.slice none 0 0,.slice none 0 0],.agg #[.bool false,.int .i64 0,.slice none 0 0,.slice none 0 0,.slice none 0 0],.int .i64 er])∧Below w.heap.size w w':=by
 go_enter Tryz.func37,Tryz.ntmps37
 go_wp2
 refine bodyPost_ret (v:=.tuple #[.agg #[.slice none 0 0,.slice none 0 0,.slice none 0 0,.slice none 0 0],.agg #[.bool false,.int .i64 0,.slice none 0 0,.slice none 0 0,.slice none 0 0],.int .i64 er]) (by simp[results,Tryz.results37,go_sem]) rfl ?_
 exact⟨rfl,cZ⟩
end
end Go.Proofs.YtfnciigbbolckaaGreat
