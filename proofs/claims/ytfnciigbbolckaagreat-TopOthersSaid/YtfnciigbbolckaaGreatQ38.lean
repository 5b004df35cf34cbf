/- Part 38 of the proof about mailboattop.TopOthers. No condition. -/
import Derived.Test.YtfnciigbbolckaaGreatQ00
import Derived.Test.YtfnciigbbolckaaGreatQ11
import Derived.Test.YtfnciigbbolckaaGreatQ12
import Derived.Test.YtfnciigbbolckaaGreatQ25
import Derived.Test.YtfnciigbbolckaaGreatQ36
import Derived.Test.YtfnciigbbolckaaGreatQ37
set_option linter.unusedVariables false
set_option linter.unusedSimpArgs false
set_option maxRecDepth 100000
set_option maxHeartbeats 64000000
namespace Go.Proofs.YtfnciigbbolckaaGreat
open Go Go.RowKit Iv
attribute [local go_sem] Oper.semAt_some
attribute [local go_sem] pw gu B_app pv B_get B_toList
section
theorem qn (a:Option Addr) (len c:Nat) (w:World) (h:1≤len):(Instr.slice 22 (.slice a len c) (some (.int .i64 1)) none none).run Tryz.prog w= .ok (.slice (dropA a c 1 1) (len-1) (c-1)) w:=by
 have hu:Tryz.prog.underlying 22=some (.slice (Tryz.prog.elem 22)):=by kernel_rfl
 have hs:(sizeOf (Tryz.prog.elem 22)).run Tryz.prog w= .ok 1 w:=by kernel_rfl
 rw[run_slice_l w _ a len c hu .i64 1 (by omega) (by omega),hs];rfl
attribute [local go_sem ↓] qn
theorem FindPS.hit {ps:List (Tk×Value)} {ts:List Tk} {no:Int} {t:Tk} {w w':World} {e:Ending} (h:FindPS ps ts no w e w') (hf:findS ts no=some t):(∃(ua:Option Addr) (uc:Nat),(t,.slice ua t.hs.length uc)∈ps∧e= .returned (.tuple #[.agg #[.int .i64 t.no,.int .i64 t.q.src,.int .i64 t.q.dst,.int .i64 t.q.sz,.int .i64 t.q.rd,.int .i64 t.q.D,.int .i64 t.q.pr,.bool t.q.cu,(.slice ua t.hs.length uc),.int .i64 t.st,.int .i64 t.un],.bool true])∧RHops w' (.slice ua t.hs.length uc) t.hs)∧Below w.heap.size w w':=by
 obtain⟨⟨t',u,h1,h2,h3,h4⟩ | ⟨h1,-⟩,hb⟩:=h
 ·rw[hf]at h1
  injection h1 with h1
  subst h1;obtain⟨ua,uc,rfl,-⟩:=id h4;exact⟨⟨ua,uc,h2,h3,h4⟩,hb⟩
 ·rw[hf]at h1
  cases h1
theorem PosPost.hit {cs:List Con} {t:Tk} {now:Int} {w w':World} {e:Ending} (h:PosPost cs t now w e w') (ho:t.st=1∧begun now t.hs<t.hs.length):e= .returned (.tuple #[.int .i64 (posN cs t now),.int .i64 (posT t now),.bool true])∧Below w.heap.size w w':=by
 obtain⟨⟨_,_,h⟩ | ⟨h,-⟩,hb⟩:=h
 ·exact⟨h,hb⟩
 ·exact absurd ho h
def MvPost (z:Nat) (zo:Obj) (qs:List Int) (cs:List Con) (base g:Nat) (uq uc:Value) (now:Int) (vs:List Int) (acc tk ba:Value) (lim:Nat) (w:World) (e:Ending) (w':World):Prop:=
 ((e=giveUp∧w'.heap[z]? =some zo)∨(e= .returned (.tuple #[])∧∃ex ts ut uv mv dr,ExSt z zo base g ex uq uc now ts vs ut uv acc tk mv dr ba lim w'∧XInv qs cs now ts vs∧LenX ts))∧Below base w w'
theorem move_any (z:Nat) (zo:Obj) (qs:List Int) (cs:List Con) (base g:Nat) (ex:List Nat) (uq uc:Value) (now:Int) (ts:List Tk) (v:Int) (vs:List Int) (ut uv acc tk mv dr ba:Value) (lim:Nat) (w:World) (hx:ExSt z zo base g ex uq uc now ts (v::vs) ut uv acc tk mv dr ba (lim+1) w) (hq:RRow intC 1 w base uq qs) (hc:RRow conC 7 w base uc cs) (hp:PlanOK qs cs) (hi:XInv qs cs now ts (v::vs)) (hl:LenX ts) (hn:0≤now∧now≤1099511627776) (hlim:lim≤1000):
  Calls Tryz.prog 135 #[.pointer (some ⟨g,0,none⟩)] w (MvPost z zo qs cs base g uq uc now vs acc tk ba (lim+1) w):=by
 obtain⟨n1,x1,om1,l1⟩:=id hx.om;obtain⟨ma,mc,hme⟩:=dg om1;subst hme;obtain⟨n2,x2,od1,l2⟩:=id hx.od;obtain⟨da,dc,hde⟩:=dg od1;subst hde;clear om1 l1 od1 l2;obtain⟨i0,hin,hz0,hz1,hz2⟩:=info_parts iD;have HX:=aa hx;have HQ:=aa hq;have HC:=aa hc;have HP:=aa hp;have HI:=aa hi;have HL:=aa hl;have HN:=aa hn;have HG:Hid (AtX w g uq uc ut now uv acc tk (.slice ma n1 mc) (.slice da n2 dc) ba):=aa hx.at_;have hgl:g<w.heap.size:=(ai.1 hx.at_).1;have hbs:base≤w.heap.size:=hx.bs;obtain⟨aq,cq,rfl,-⟩:=hq;obtain⟨ca,cc,rfl,-⟩:=hc;obtain⟨va,vc,rfl,e1,e2,-,e4⟩:=id hx.rv;obtain⟨vb,vo,rfl,hvb,hvcell⟩:=e4 (by simp);have hv0:w.cell? ⟨vb,vo,none⟩=some (.int .i64 v):=hvcell 0 v rfl 0 _ rfl;obtain⟨ps,hps,hown,hhs⟩:=id hx.ot;obtain⟨pa,pc,hue⟩:=dg hown;obtain⟨pn,hpn⟩:=cR ps.length
 rw[hpn]at hue hown;subst hue;obtain⟨m,hm⟩:=cR ((v::vs).length)
 have hm1:1≤m:=by rw[←hm];simp
 have hm0:(0:Int)<(m:Int):=by omega
 have hm2:0<m:=by omega
 rw[hm]at HX HG e1;obtain⟨A,t,C,hts,hfind,hno,hop,hA⟩:=hi.first;have HT:=aa (cS hts (cS hfind (cS hno (cS hop hA))));have HPS:=aa (cS hps (cS hown hhs));have cg:=fun q=>cU (show w.heap[g]? =some (.cells (xC (.slice aq qs.length cq) (.slice ca cs.length cc) (.slice pa pn pc) now (.slice (some ⟨vb,vo,none⟩) m vc) acc tk (.slice ma n1 mc) (.slice da n2 dc) ba) _ (0,0))from HG.out) q
 simp only[xC]at cg;clear hx hi hl hn hps hown hhs hts hfind hno hop hA hvcell hm hpn hp;unfold maxLen at e2;go_enter Tryz.func135,Tryz.ntmps135
 go_upto_region 0 with fail
 refine ei (fun V=>Below w.heap.size w V) [0,0,0,0,1,0,0,0,1,0,1,2,0,0,0,2,3,0] (.go 0 (.go 1 (.go 2 (.go 3 (.go 4 (.go 5 (.go 6 (.go 7 (.go 8 (.go 9 (.go 10 (.br2 11 15 (.go 12 (.go 13 (.go 14 (.go 15 (.go 16 (.go 17 (.fin))))))) (.go 11 (.go 12 (.go 13 (.go 14 (.go 16 (.go 17 (.fin))))))))))))))))))) (by kernel_rfl) (by kernel_rfl) ?_ ?_
 case refine_1=>exact bdrew (ap _ _)
 iterate 11 (refine dG rfl (by decide) (by rfl) (fun w1 hS=>by(try(obtain⟨_,_⟩:=bcell (hS rfl)));go_simp;rfl) ?_;(try simp only[Act.put,ae,af,ag]))
 have HROW:Hid (∀W,Below w.heap.size w W→RRow tkP 11 W W.heap.size (.slice pa pn pc) ps∧∀p∈ps,RHops W p.2 p.1.hs):=aa (fun W hW=>⟨(dF (by decide) fI HPS.out.2.1).below' hW,fun p hp=>(HPS.out.2.2 p hp).1.below' hW⟩);have hdr:Below w.heap.size w w.drew:=bdrew (ap _ _);refine⟨?ga,?gb⟩
 case' ga=>
  refine ej rfl (by rfl) (fun K hK=>?_)
  go_simp
  refine(lW ts ps (.slice aq qs.length cq) (.slice ca cs.length cc) (.slice none 0 0) (.slice pa pn pc) v w.drew ⟨_,_,_,rfl⟩ ⟨_,_,_,rfl⟩ ⟨_,_,_,rfl⟩ HPS.out.1 (HROW.out _ hdr).1 (HROW.out _ hdr).2).mono ?_
  intro e w1 hres;obtain⟨⟨ua,uc,hmem,rfl,hru⟩,hb1⟩:=hres.hit HT.out.2.1;have B1:Below w.heap.size w w1:=hdr.trans (hb1.mono (by simp));refine hK _ _ B1 ?_
  clear hK K
  (try simp only[Act.put,ae,af,ag])
  iterate 3 (refine dG rfl (by decide) (by rfl) (fun w1 hS=>by(try(obtain⟨_,_⟩:=bcell (hS rfl)));go_simp;rfl) ?_;(try simp only[Act.put,ae,af,ag]))
  refine dH rfl rfl (by rfl) (fun K hK=>?_)
  go_simp
  obtain⟨T,hT⟩:=cR w1.heap.size
  obtain⟨w2,hw2⟩:=cR (w1.alloc (.cells #[.int .i64 0,.int .i64 0,.int .i64 0,.int .i64 0,.int .i64 0,.int .i64 0,.int .i64 0,.bool false,.slice none 0 0,.int .i64 0,.int .i64 0] 41))
  rw[hw2,hT];have B2:Below w.heap.size w w2:=by rw[←hw2];exact de B1
  have XT:w2.heap[T]? =some (.cells #[.int .i64 0,.int .i64 0,.int .i64 0,.int .i64 0,.int .i64 0,.int .i64 0,.int .i64 0,.bool false,.slice none 0 0,.int .i64 0,.int .i64 0] 41 (0,0)):=by rw[←hw2,←hT];exact cW
  have hwT:w.heap.size≤T:=by rw[←hT];exact B1.size
  have HRU:Hid (RHops w2 (.slice ua t.hs.length uc) t.hs):=aa (by rw[←hw2];exact hru.below' (de (ap _ _)));clear hw2 hT B1 hb1 hres hru;refine hK _ _ B2 ?_
 case' gb=>
  refine ej rfl (by rfl) (fun K hK=>?_)
  go_simp
  obtain⟨T,hT⟩:=cR w.heap.size
  obtain⟨w1,hw1⟩:=cR ((w.alloc (.cells #[.int .i64 0,.int .i64 0,.int .i64 0,.int .i64 0,.int .i64 0,.int .i64 0,.int .i64 0,.bool false,.slice none 0 0,.int .i64 0,.int .i64 0] 41)).drew)
  rw[hw1,hT];have B1:Below w.heap.size w w1:=by rw[←hw1];exact bdrew (de (ap _ _))
  have XT1:w1.heap[T]? =some (.cells #[.int .i64 0,.int .i64 0,.int .i64 0,.int .i64 0,.int .i64 0,.int .i64 0,.int .i64 0,.bool false,.slice none 0 0,.int .i64 0,.int .i64 0] 41 (0,0)):=by rw[←hw1,←hT];exact cW (W:=w)
  have hwT:w.heap.size≤T:=by omega
  have zT:T<w1.heap.size:=(ai.1 XT1).1;refine hK _ _ B1 ?_
  have HXT1:=aa XT1;clear hK K hw1 hT XT1
  (try simp only[Act.put,ae,af,ag])
  refine dH rfl rfl (by rfl) (fun K hK=>?_)
  go_simp
  refine(lW ts ps (.slice aq qs.length cq) (.slice ca cs.length cc) (.slice none 0 0) (.slice pa pn pc) v w1 ⟨_,_,_,rfl⟩ ⟨_,_,_,rfl⟩ ⟨_,_,_,rfl⟩ HPS.out.1 (HROW.out _ B1).1 (HROW.out _ B1).2).mono ?_
  intro e w2 hres;obtain⟨⟨ua,uc,hmem,rfl,hru⟩,hb1⟩:=hres.hit HT.out.2.1;have B2:Below w.heap.size w w2:=B1.trans (hb1.mono (by omega));have XT:w2.heap[T]? =some (.cells #[.int .i64 0,.int .i64 0,.int .i64 0,.int .i64 0,.int .i64 0,.int .i64 0,.int .i64 0,.bool false,.slice none 0 0,.int .i64 0,.int .i64 0] 41 (0,0)):=(hb1.block _ zT).trans HXT1.out;have HRU:Hid (RHops w2 (.slice ua t.hs.length uc) t.hs):=aa hru;clear hb1 hres hru HXT1 zT B1;refine hK _ _ B2 ?_
  clear hK K
  (try simp only[Act.put,ae,af,ag])
  iterate 3 (refine dG rfl (by decide) (by rfl) (fun w1 hS=>by(try(obtain⟨_,_⟩:=bcell (hS rfl)));go_simp;rfl) ?_;(try simp only[Act.put,ae,af,ag]))
 all_goals
  (try clear hK K)
  (try simp only[Act.put,ae,af,ag])
  have HXT:=aa XT;have HB2:=aa B2;have HMEM:=aa hmem;clear XT B2 hmem hdr;refine ey rfl rfl (by rfl) (fun K hK=>?_)
  refine eh 41 _ _ rfl T #[.int .i64 t.no,.int .i64 t.q.src,.int .i64 t.q.dst,.int .i64 t.q.sz,.int .i64 t.q.rd,.int .i64 t.q.D,.int .i64 t.q.pr,.bool t.q.cu,(.slice ua t.hs.length uc),.int .i64 t.st,.int .i64 t.un] #[.int .i64 0,.int .i64 0,.int .i64 0,.int .i64 0,.int .i64 0,.int .i64 0,.int .i64 0,.bool false,.slice none 0 0,.int .i64 0,.int .i64 0] 41 rfl rfl HXT.out rfl (by kernel_rfl) (by simp[Value.oneCell']) ?_
  intro w3 hW hbW hsW hoW;refine hK _ _ ?_
  clear hK K
  (try simp only[Act.put,ae,af,ag])
  refine dG rfl (by decide) (by rfl) (fun w1 hS=>by go_simp;rfl) ?_
  (try simp only[Act.put,ae,af,ag])
  refine fe ?_
  have B3:Below w.heap.size w w3:=HB2.out.trans (hbW _ hwT);have HX3:Hid (ExSt z zo base g ex (.slice aq qs.length cq) (.slice ca cs.length cc) now ts (v::vs) (.slice pa pn pc) (.slice (some ⟨vb,vo,none⟩) m vc) acc tk (.slice ma n1 mc) (.slice da n2 dc) ba (lim+1) w3):=aa (HX.out.below B3);have HU3:Hid (RHops w3 (.slice ua t.hs.length uc) t.hs):=aa ((HPS.out.2.2 _ HMEM.out).1.below' B3);have HSEP:=aa ((HPS.out.2.2 _ HMEM.out).2);have HXT3:=aa hW;have HB3:=aa B3;have zg3:g<w3.heap.size:=by have:=B3.size;omega
  have zT3:T<w3.heap.size:=(ai.1 hW).1;have hgT:g≠T:=by omega
  have X3:w3.heap[g]? =some (.cells (xC (.slice aq qs.length cq) (.slice ca cs.length cc) (.slice pa pn pc) now (.slice (some ⟨vb,vo,none⟩) m vc) acc tk (.slice ma n1 mc) (.slice da n2 dc) ba) 107 (0,0)):=HX3.out.at_;have cg3:=fun q=>cU X3 q
  simp only[xC]at cg3;have fg3:=fun q=>dC X3 q
  clear hW hbW hsW hoW B3 HXT HB2 HRU cg hv0 hvb X3;go_upto_region 2 with fail
  obtain⟨w4,hw4⟩:=cR (w3.setCell ⟨g,5,none⟩ (.slice (dropA (some ⟨vb,vo,none⟩) vc 1 1) (m-1) (vc-1)))
  rw[hw4];obtain⟨uvc,huv⟩:=cR (vc-1)
  obtain⟨uva,huva⟩:=cR (dropA (some ⟨vb,vo,none⟩) vc 1 1)
  obtain⟨m4,hm4⟩:=cR (m-1)
  have HX4:Hid (ExSt z zo base g ex (.slice aq qs.length cq) (.slice ca cs.length cc) now ts vs (.slice pa pn pc) (.slice uva m4 uvc) acc tk (.slice ma n1 mc) (.slice da n2 dc) ba lim w4):=aa (by rw[←hw4,huv,huva,hm4];exact HX3.out.pop (by rw[huv,huva,hm4]));rw[huv,huva,hm4]at hw4 ⊢;have hne4:∀q,q≠g→w4.heap[q]? =w3.heap[q]?:=fun q h=>by rw[←hw4];exact heap_setCell_other w3 ⟨g,5,none⟩ q _ h
  have hs4:w4.heap.size=w3.heap.size:=by rw[←hw4];simp
  have HB4:Hid (Below base w w4):=aa (by rw[←hw4];exact bset (HB3.out.mono hbs) HX3.out.gb);have HU4:Hid (RHops w4 (.slice ua t.hs.length uc) t.hs):=aa (HU3.out.keepAt (by omega) (fun hn b hb=>hne4 b (fun e=>(HSEP.out hn).2 g (by simp) (by rw[←e];exact hb))));have XT4:=(hne4 T (fun e=>hgT e.symm)).trans HXT3.out;have HXT4:=aa XT4;have zg4:g<w4.heap.size:=by omega
  have zT4:T<w4.heap.size:=by omega
  have zw4:w.heap.size≤w4.heap.size:=by have:=HB3.out.size;omega
  have hlt4:=HX4.out.tb;have cg4:=fun q=>cU HX4.out.at_ q
  simp only[xC]at cg4;have cT4:=fun q=>cU XT4 q
  have HTB4:=aa hlt4;clear hw4 hne4 hs4 XT4 huv huva hm4 HX3 HXT3 HU3 HB3 cg3 fg3 zg3 zT3 hlt4;have HWK:Hid (WOK qs cs t):=aa (HI.out.wok HP.out (by rw[HT.out.1];simp));obtain⟨nd,hnd⟩:=cR (posN cs t now)
  obtain⟨tm,htm⟩:=cR (posT t now)
  have HND:=aa (cS hnd htm);clear hnd htm;have hd4:Below w4.heap.size w4 w4.drew:=bdrew (ap _ _);have HUD:Hid (RHops w4.drew (.slice ua t.hs.length uc) t.hs):=aa (HU4.out.below' hd4);have HCD:Hid (RRow conC 7 w4.drew w4.drew.heap.size (.slice ca cs.length cc) cs):=aa (HC.out.below (HB4.out.trans (hd4.mono HX4.out.bs)) (aj _) (by simp;exact HX4.out.bs));refine dd (fun V=>Below (w4).heap.size (w4) V) [0,0,0,0,0,1,1,0,0,0,1,3,0,0,0,0,0,0,0] [0,1,2,3,4,5,6,7,8,9,10,11,12,13,14,15,16,17,18] (by kernel_rfl) (by kernel_rfl) ?_ ?_
  case refine_1=>exact cZ
  (iterate 11 (first | (refine cX rfl (by decide) (by rfl) (fun w1 hS=>by(try(obtain⟨_,_⟩:=bcell (hS rfl)));go_simp;rfl) ?_;simp only[Act.put,ae,af,ag]) | (refine dm rfl (by decide) (by rfl) ?_;simp only[Act.put,ae,af,ag])))
  (refine di rfl rfl (by rfl) (fun K hK=>?_);go_simp)
  refine(oV qs cs (.slice aq qs.length cq) (.slice ca cs.length cc) t (.slice ua t.hs.length uc) now w4.drew ⟨_,_,_,rfl⟩ HCD.out HUD.out (fun h hh=>(HWK.out h hh).1)).mono ?_
  rintro e wc44 hpp;obtain⟨rfl,hbc44⟩:=hpp.hit ⟨HT.out.2.2.2.1.st,HT.out.2.2.2.1.bl⟩;rw[HND.out.1,HND.out.2];clear hpp
  (refine hK _ _ ?_;clear hK K;(try simp only[Act.put,ae,af,ag]))
  (iterate 7 (first | (refine cX rfl (by decide) (by rfl) (fun w1 hS=>by(try(obtain⟨_,_⟩:=bcell (hS rfl)));go_simp;rfl) ?_;simp only[Act.put,ae,af,ag]) | (refine dm rfl (by decide) (by rfl) ?_;simp only[Act.put,ae,af,ag])))
  refine du ?_
  have B5:Below w4.heap.size w4 wc44:=hd4.trans (hbc44.mono (by simp));obtain⟨w5,hw5⟩:∃q,q=wc44:=⟨_,rfl⟩
  rw[←hw5]at B5 ⊢;have HX5:=aa (HX4.out.below B5);have HU5:Hid (RHops w5 (.slice ua t.hs.length uc) t.hs):=aa (HU4.out.below' B5);have XT5:=(B5.block _ zT4).trans HXT4.out;have HXT5:=aa XT5;have HB5:Hid (Below base w w5):=aa (HB4.out.trans (B5.mono HX4.out.bs));have z45:w4.heap.size≤w5.heap.size:=B5.size;have zg5:g<w5.heap.size:=by omega
  have zT5:T<w5.heap.size:=by omega
  have zw5:w.heap.size≤w5.heap.size:=by omega
  have HTB:Hid (∀b,(Value.slice pa pn pc).ownBlock=some b→base≤b∧b<w.heap.size):=aa HX.out.tb;have cg5:=fun q=>cU HX5.out.at_ q
  simp only[xC]at cg5;have cT5:=fun q=>cU XT5 q
  clear hw5 B5 hbc44 hd4 HUD HCD HX4 HU4 HXT4 HB4 cg4 cT4 zg4 zT4 HTB4 XT5 zw4 z45;obtain⟨t1,ht1⟩:=cR (stopT t now tm)
  have HT1:=aa ht1;clear ht1;have hd5:Below w5.heap.size w5 w5.drew:=bdrew (ap _ _);have HUD:Hid (RHops w5.drew (.slice ua t.hs.length uc) t.hs):=aa (HU5.out.below' hd5);have hl2:t.hs.length≤100000:=by have:=HL.out t (by rw[HT.out.1];simp);omega
  go_upto_region 3 with fail
  refine dd (fun V=>Below (w5).heap.size (w5) V) [0,0,0,1,0,0,0,1,0,3,3] [0,1,2,3,4,5,6,7,8,9,10] (by kernel_rfl) (by kernel_rfl) ?_ ?_
  case refine_1=>exact cZ
  (iterate 9 (first | (refine cX rfl (by decide) (by rfl) (fun w1 hS=>by(try(obtain⟨_,_⟩:=bcell (hS rfl)));go_simp;rfl) ?_;simp only[Act.put,ae,af,ag]) | (refine dm rfl (by decide) (by rfl) ?_;simp only[Act.put,ae,af,ag])))
  (refine di rfl rfl (by rfl) (fun K hK=>?_);go_simp)
  refine(jB t (.slice ua t.hs.length uc) now tm w5.drew HUD.out hl2).mono ?_
  rw[HT1.out];rintro e wc57 hst;obtain⟨⟨u1,rfl,hru1,hfr1⟩,hbc57⟩:=hst;obtain⟨ua1,uc1,rfl,-⟩:=id hru1;have HX57:=aa (HX5.out.below (dq hd5 hbc57));have hsep1:t1.hs≠[]→(∀b,(Value.slice pa pn pc).ownBlock=some b→(Value.slice ua1 t1.hs.length uc1).ownBlock≠some b)∧∀b∈g::ex,(Value.slice ua1 t1.hs.length uc1).ownBlock≠some b:=(fun _=>HX5.out.sepn (fun b hb=>(by have h:=hfr1 b hb;simpa using h)))
  have zT57:T<wc57.heap.size:=(by have:=hbc57.size;simp at this;omega)
  have HXT57:=aa ((hbc57.block T (by simp;omega)).trans HXT5.out);have HU57:Hid (RHops wc57 (.slice ua t.hs.length uc) t.hs):=aa (HUD.out.below' hbc57);have HB57:Hid (Below base w wc57):=aa (HB5.out.trans ((dq hd5 hbc57).mono HX5.out.bs));have z57:w5.heap.size≤wc57.heap.size:=(by have:=hbc57.size;simp at this;omega)
  (refine hK _ _ ?_;clear hK K;(try simp only[Act.put,ae,af,ag]))
  (refine di rfl rfl (by rfl) (fun K hK=>?_);go_simp)
  refine(iJ ts t1 (.slice ua1 t1.hs.length uc1) base g ex 107 (xC (.slice aq qs.length cq) (.slice ca cs.length cc) (.slice pa pn pc) now (.slice uva m4 uvc) acc tk (.slice ma n1 mc) (.slice da n2 dc) ba) (.slice pa pn pc) wc57 HX57.out.at_ (by decide) rfl HX57.out.ot HX57.out.bs hru1 hsep1 HI.out.len).mono ?_
  rintro e wc58 hset;obtain⟨he,⟨ut1,hx6,hat6⟩,hb58,hk58⟩:=HX57.out.set hset;subst he
  (refine hK _ _ ?_;clear hK K;(try simp only[Act.put,ae,af,ag]))
  refine du ?_
  obtain⟨w6,hw6⟩:∃q,q=wc58:=⟨_,rfl⟩
  rw[←hw6]at hx6 hb58 hk58 ⊢;have hno1:t1.no=t.no:=by rw[←HT1.out];rfl
  have hset6:setS ts t1=A++t1::C:=by
   rw[HT.out.1];exact kr (fun x hx=>by rw[hno1,HT.out.2.2.1];exact HT.out.2.2.2.2 x hx) hno1.symm
  rw[hset6]at hx6;have hpos:=oU HP.out HT.out.2.2.2.1 HN.out.2;rw[HND.out.2]at hpos;have HI6:Hid (XInv qs cs now (A++t1::C) vs):=aa (by
   have h:=HI.out;rw[HT.out.1,←HT.out.2.2.1]at h;rw[←HT1.out];exact h.stop HP.out HT.out.2.2.2.1 (by have:=HN.out.1;omega) hpos.1 (by rw[HND.out.2];exact aR _))
  have hl1:t1.hs.length≤2000:=by rw[←HT1.out];exact aK (m7 t now tm) (HL.out t (by rw[HT.out.1];simp))
  have HL6:Hid (LenX (A++t1::C)):=aa (ky (t:=t) (by rw[←HT.out.1];exact HL.out) hl1);have XT6:=(hk58.block T zT57 (fun e=>hgT e.symm) (fun e=>by have:=(HTB.out T e).2;omega)).trans HXT57.out;have HU6:Hid (RHops w6 (.slice ua t.hs.length uc) t.hs):=aa (HU57.out.keepAt hk58.size (fun hn b hb=>hk58.block b (HU57.out.blk hn hb) (fun e=>(HSEP.out hn).2 g (by simp) (by rw[←e];exact hb)) (fun e=>(HSEP.out hn).1 b e hb)));have HB6:Hid (Below base w w6):=aa (HB57.out.trans hb58);have hT6:ut1.ownBlock≠some T:=fun e=>by
   rcases hat6 with h | h
   ·rw[h]at e;have:=(HTB.out T e).2;omega
   ·have:=h T e;omega
  have z6:wc57.heap.size≤w6.heap.size:=hk58.size;have zg6:g<w6.heap.size:=by omega
  have zT6:T<w6.heap.size:=by omega
  have HXT6:=aa XT6;have HT6:=aa hT6;obtain⟨ps6,-,ho6,-⟩:=id hx6.ot;obtain⟨pa6,pc6,hue6⟩:=dg ho6;obtain⟨pn6,hpn6⟩:=cR ps6.length
  rw[hpn6]at hue6;subst hue6;have HX6:=aa hx6;have cT6:=fun q=>cU XT6 q
  clear hw6 hx6 hb58 hk58 hset hset6 hno1 hat6 hT6 XT6 ho6 hpn6 hl1 hru1 hfr1 hsep1 HX57 HXT57 HU57 HB57 HX5 HU5 HXT5 HB5 cg5 cT5 HUD hd5 hbc57 zT57 z57 zg5 zT5 zw5 z6 hl2;have hd6:Below w6.heap.size w6 w6.drew:=bdrew (ap _ _);have HX6D:=aa (HX6.out.below hd6);have HCD:Hid (RRow conC 7 w6.drew w6.drew.heap.size (.slice ca cs.length cc) cs):=aa (HC.out.below (HB6.out.trans (hd6.mono HX6.out.bs)) (aj _) HX6D.out.bs);have hvl:vs.length≤100000:=by obtain⟨n1,x1,-,h1⟩:=HX6.out.om;omega
  go_upto_region 4 with fail
  refine jH [] (fun c W=>MvPost z zo qs cs base g (.slice aq qs.length cq) (.slice ca cs.length cc) now vs acc tk ba (lim+1) w (.panicked c) W) (fun _ _ _ h1 h2=>⟨h1,h2⟩) (fun V=>Below w6.heap.size w6 V) [0,2,1,0,0,3,0,0,0,0,0] [0,2,3,4,1,5,6,7,8,9,10] (by kernel_rfl) (by kernel_rfl) ?_ ?_
  case refine_1=>exact cZ
  (iterate 4 (first | (refine cX rfl (by decide) (by rfl) (fun w1 hS=>by(try(obtain⟨_,_⟩:=bcell (hS rfl)));go_simp;rfl) ?_;simp only[Act.put,ae,af,ag]) | (refine dm rfl (by decide) (by rfl) ?_;simp only[Act.put,ae,af,ag])))
  (refine dA rfl rfl (by rfl) (fun K hK=>?_);go_simp)
  refine(nL qs cs (A++t1::C) vs g (.slice aq qs.length cq) (.slice ca cs.length cc) (.slice pa6 pn6 pc6) now (.slice uva m4 uvc) acc tk (.slice ma n1 mc) (.slice da n2 dc) ba w6.drew HX6D.out.at_ ⟨_,_,_,rfl⟩ HCD.out HP.out HX6D.out.ot.rtks (fun x hx=>HI6.out.wok HP.out hx) HI6.out.len HL6.out HX6D.out.rv hvl).mono ?_
  rintro e wc61 ⟨hxt | ⟨vb6,vh6,B6,H6,rfl,hfl6,hB1,hB2,hH1,hH2,hto6⟩,hbc61⟩
  ·subst hxt
   exact⟨rfl,.inl ⟨rfl,(HX6.out.below (dq hd6 hbc61)).zz⟩,HB6.out.trans ((dq hd6 hbc61).mono HX6.out.bs)⟩
  have hb61:Below w6.heap.size w6 wc61:=dq hd6 hbc61;have HQ61:Hid (RRow intC 1 wc61 wc61.heap.size (.slice aq qs.length cq) qs):=aa (HQ.out.below (HB6.out.trans (hb61.mono HX6.out.bs)) (aj _) (aK HX6.out.bs hb61.size));have HC61:Hid (RRow conC 7 wc61 wc61.heap.size (.slice ca cs.length cc) cs):=aa (HC.out.below (HB6.out.trans (hb61.mono HX6.out.bs)) (aj _) (aK HX6.out.bs hb61.size));have HBK:Hid (BkOK cs B6):=aa (HI6.out.bset HP.out hfl6.1 hB1 hB2);have HHK:Hid (HkOK qs H6):=aa (HI6.out.hset HP.out hfl6.2 hH1 hH2);have HPM:=aa (cS hB1 (cS hH1 hfl6.1));have HTO:=aa hto6;have HB61:=aa hb61;clear hB1 hB2 hH1 hH2 hfl6 hto6 hbc61
  (refine hK _ _ (by exact hb61) ?_;clear hK K;(try simp only[Act.put,ae,af,ag]))
  clear hb61
  (refine di rfl rfl (by rfl) (fun K hK=>?_);go_simp)
  refine(ql qs cs B6 H6 t (.slice ua t.hs.length uc) nd tm (.slice aq qs.length cq) (.slice ca cs.length cc) vb6 vh6 wc61 HQ61.out HC61.out (dF (by decide) dL HTO.out.b) (dF (by decide) dO HTO.out.h) HP.out HBK.out HHK.out ⟨_,_,_,rfl⟩).mono ?_
  rintro e wc65 ⟨⟨va7,r7,rfl,hres7⟩,hbc65⟩
  (refine hK _ _ ?_;clear hK K;(try simp only[Act.put,ae,af,ag]))
  (iterate 5 (first | (refine cX rfl (by decide) (by rfl) (fun w1 hS=>by(try(obtain⟨_,_⟩:=bcell (hS rfl)));go_simp;rfl) ?_;simp only[Act.put,ae,af,ag]) | (refine dm rfl (by decide) (by rfl) ?_;simp only[Act.put,ae,af,ag])))
  refine oA ?_
  have B7:Below w6.heap.size w6 wc65:=dq HB61.out hbc65;obtain⟨w7,hw7⟩:∃q,q=wc65:=⟨_,rfl⟩
  rw[←hw7]at B7 hres7 ⊢;have HX7:=aa (HX6.out.below B7);have HU7:Hid (RHops w7 (.slice ua t.hs.length uc) t.hs):=aa (HU6.out.below' B7);have XT7:=(B7.block _ zT6).trans HXT6.out;have HXT7:=aa XT7;have HB7:Hid (Below base w w7):=aa (HB6.out.trans (B7.mono HX6.out.bs));have z67:w6.heap.size≤w7.heap.size:=B7.size;have zg7:g<w7.heap.size:=by omega
  have zT7:T<w7.heap.size:=by omega
  have cg7:=fun q=>cU HX7.out.at_ q
  simp only[xC]at cg7;have cT7:=fun q=>cU XT7 q
  clear hw7 B7 hbc65 hd6 HX6 HX6D HCD HU6 HXT6 HB6 cT6 XT7 z67 zg6 zT6 HQ61 HC61 HBK HHK HTO HB61 hpos;rcases hres7 with⟨rfl,rfl⟩ | ⟨rfl,hs7,hE7,hR7⟩
  ·cases hcu:t.q.cu with
   | true=>
    rw[hcu]at cT7;go_wp2
    exact⟨rfl,.inl ⟨rfl,HX7.out.zz⟩,HB7.out⟩
   | false=>
    rw[hcu]at cT7;go_upto_region 5 with fail
    clear cT7 hcu;have cT7:=fun q=>cU HXT7.out q
    obtain⟨t2,ht2⟩:=cR (stopT t now now)
    have HT2:=aa ht2;clear ht2;have hd7:Below w7.heap.size w7 w7.drew:=bdrew (ap _ _);have HUD:Hid (RHops w7.drew (.slice ua t.hs.length uc) t.hs):=aa (HU7.out.below' hd7);have hl2:t.hs.length≤100000:=by have:=HL.out t (by rw[HT.out.1];simp);omega
    refine dd (fun V=>Below (w7).heap.size (w7) V) [0,0,0,1,0,0,0,1,0,0,0,1,3,3] [0,1,2,3,4,5,6,7,8,9,10,11,12,13] (by kernel_rfl) (by kernel_rfl) ?_ ?_
    case refine_1=>exact cZ
    (iterate 12 (first | (refine cX rfl (by decide) (by rfl) (fun w1 hS=>by(try(obtain⟨_,_⟩:=bcell (hS rfl)));go_simp;rfl) ?_;simp only[Act.put,ae,af,ag]) | (refine dm rfl (by decide) (by rfl) ?_;simp only[Act.put,ae,af,ag])))
    (refine di rfl rfl (by rfl) (fun K hK=>?_);go_simp)
    refine(jB t (.slice ua t.hs.length uc) now now w7.drew HUD.out hl2).mono ?_
    rw[HT2.out];rintro e wc80 hst;obtain⟨⟨u2,rfl,hru2,hfr2⟩,hbc80⟩:=hst;obtain⟨ua2,uc2,rfl,-⟩:=id hru2;have HX8:=aa (HX7.out.below (dq hd7 hbc80));have hsep2:t2.hs≠[]→(∀b,(Value.slice pa6 pn6 pc6).ownBlock=some b→(Value.slice ua2 t2.hs.length uc2).ownBlock≠some b)∧∀b∈g::ex,(Value.slice ua2 t2.hs.length uc2).ownBlock≠some b:=(fun _=>HX7.out.sepn (fun b hb=>(by have h:=hfr2 b hb;simpa using h)))
    have z8:w7.heap.size≤wc80.heap.size:=(by have:=hbc80.size;simp at this;omega)
    have zT8:T<wc80.heap.size:=(by omega)
    have HXT8:=aa ((hbc80.block T (by simp;omega)).trans HXT7.out);have HB8:Hid (Below base w wc80):=aa (HB7.out.trans ((dq hd7 hbc80).mono HX7.out.bs))
    (refine hK _ _ ?_;clear hK K;(try simp only[Act.put,ae,af,ag]))
    (refine di rfl rfl (by rfl) (fun K hK=>?_);go_simp)
    refine(iJ (A++t1::C) t2 (.slice ua2 t2.hs.length uc2) base g ex 107 (xC (.slice aq qs.length cq) (.slice ca cs.length cc) (.slice pa6 pn6 pc6) now (.slice uva m4 uvc) acc tk (.slice ma n1 mc) (.slice da n2 dc) ba) (.slice pa6 pn6 pc6) wc80 HX8.out.at_ (by decide) rfl HX8.out.ot HX8.out.bs hru2 hsep2 HI6.out.len).mono ?_
    rintro e wc81 hset2;obtain⟨he2,⟨ut2,hx9,hat9⟩,hb9,hk9⟩:=HX8.out.set hset2;subst he2
    (refine hK _ _ ?_;clear hK K;(try simp only[Act.put,ae,af,ag]))
    refine du ?_
    obtain⟨w9,hw9⟩:∃q,q=wc81:=⟨_,rfl⟩
    rw[←hw9]at hx9 hb9 hk9 ⊢;have hno2:t2.no=t.no:=by rw[←HT2.out];rfl
    have hset9:setS (A++t1::C) t2=A++t2::C:=kr (fun x hx=>by rw[hno2,HT.out.2.2.1];exact HT.out.2.2.2.2 x hx) (by rw[hno2,←HT1.out];rfl);rw[hset9]at hx9;have HI9:Hid (XInv qs cs now (A++t2::C) vs):=aa (by
     have h:=HI.out;rw[HT.out.1,←HT.out.2.2.1]at h;rw[←HT2.out];have hpos:=oU HP.out HT.out.2.2.2.1 HN.out.2;exact h.stop HP.out HT.out.2.2.2.1 HN.out.1 HN.out.2 hpos.2)
    have HL9:Hid (LenX (A++t2::C)):=aa (ky (t:=t1) HL6.out (by rw[←HT2.out];exact aK (m7 t now now) (HL.out t (by rw[HT.out.1];simp))));have XT9:=(hk9.block T zT8 (fun e=>hgT e.symm) HT6.out).trans HXT8.out;have HB9:Hid (Below base w w9):=aa (HB8.out.trans hb9);have z9:T<w9.heap.size:=by have:=hk9.size;omega
    have zg9:g<w9.heap.size:=by omega
    obtain⟨ps9,-,ho9,-⟩:=id hx9.ot;obtain⟨pa9,pc9,hue9⟩:=dg ho9;obtain⟨pn9,hpn9⟩:=cR ps9.length
    rw[hpn9]at hue9;subst hue9;have HX9:=aa hx9;have cg9:=fun q=>cU HX9.out.at_ q
    simp only[xC]at cg9;have cT9:=fun q=>cU XT9 q
    obtain⟨n9,x9,ob9,lb9⟩:=id hx9.od;have hn9:n9=n2:=by
     obtain⟨_,_,h⟩:=dg ob9;injection h with _ h _
     exact h.symm
    subst hn9;have HOB9:=aa ob9;have hlb:n9+vs.length≤lim:=lb9;have hbs9:base≤w9.heap.size:=hx9.bs;have HGB9:Hid ((Value.slice da n9 dc).ownBlock≠some g):=aa (fun e=>by
     obtain⟨cs',f,h1⟩:=ed ob9 e;exact et h1 hx9.at_ (by decide) rfl)
    clear hw9 hx9 hb9 hk9 hset2 hset9 hno2 hat9 ho9 hpn9 hru2 hfr2 hsep2 HX8 HXT8 HB8 HX7 HU7 HXT7 HB7 cg7 cT7 HUD hd7 hbc80 zT8 z8 zg7 zT7 hl2 XT9 ob9 lb9;go_upto_region 6 with fail
    refine dd (fun V=>Below w9.heap.size w9 V) [0,0,0,0,0,1,0,1,2,3,0,0,0,3] [0,1,2,3,4,5,6,7,8,9,10,11,12,13] (by kernel_rfl) (by kernel_rfl) ?_ ?_
    case refine_1=>exact bdrew (ap _ _)
    (iterate 8 (first | (refine cX rfl (by decide) (by rfl) (fun w1 hS=>by(try(obtain⟨_,_⟩:=bcell (hS rfl)));go_simp;rfl) ?_;simp only[Act.put,ae,af,ag]) | (refine dm rfl (by decide) (by rfl) ?_;simp only[Act.put,ae,af,ag])))
    (refine dA rfl rfl (by rfl) (fun K hK=>?_);go_simp)
    (refine hK _ _ (by exact de (bdrew (ap _ _))) ?_;clear hK K;(try simp only[Act.put,ae,af,ag]))
    obtain⟨w10,hw10⟩:=cR ((w9.alloc (.cells #[.int .i64 t.no] 3)).drew)
    rw[hw10];have B10:Below w9.heap.size w9 w10:=by rw[←hw10];exact bdrew (de (ap _ _))
    have X10:w10.heap[w9.heap.size]? =some (.cells #[.int .i64 t.no] 3 (0,0)):=by rw[←hw10];exact cW (W:=w9)
    have z10:w9.heap.size<w10.heap.size:=(ai.1 X10).1;have HO10:=aa (cV HOB9.out (fun q hq=>B10.block q (HOB9.out.lt q hq).2));have HG10:=aa ((B10.block _ zg9).trans HX9.out.at_);have HB10:=aa B10;have HX10:=aa X10;clear hw10 X10 B10 cT9 cg9;refine di rfl rfl (by rfl) (fun K hK=>?_)
    refine dW _ _ _ _ rfl base 3 i0 _ 1 8 cP hin hz0 hz1 hz2 rfl (by omega) (.slice da n9 dc) n9 x9 rfl HO10.out ⟨w9.heap.size,0,none⟩ 1 1 [.int .i64 t.no] rfl rfl (dI HX10.out) (by simp[Value.oneCell']) (by simp only[maxLen];omega) (by omega) (by omega) (by omega) ?_
    intro vo w11 ho11 hg11 hf11;obtain⟨va11,vc11,hve⟩:=dg ho11;subst hve;have HG11:=aa ((dw hg11 (by omega) (fun e=>HGB9.out e)).trans HG10.out);have hgl11:g<w11.heap.size:=(ai.1 HG11.out).1;have c11:=fun q=>cU HG11.out q
    simp only[xC]at c11;have f11:=fun q=>dC HG11.out q
    have HO11:=aa ho11;have HGR:=aa hg11;have HF11:=aa hf11;clear ho11 hg11 hf11;refine hK _ _ ?_
    clear hK K
    (try simp only[Act.put,ae,af,ag])
    (iterate 3 (first | (refine cX rfl (by decide) (by rfl) (fun w1 hS=>by(try(obtain⟨_,_⟩:=bcell (hS rfl)));go_simp;rfl) ?_;simp only[Act.put,ae,af,ag]) | (refine dm rfl (by decide) (by rfl) ?_;simp only[Act.put,ae,af,ag])))
    (refine di rfl rfl (by rfl) (fun K hK=>?_);go_simp)
    refine hK _ _ ?_
    clear hK K;refine du ?_
    go_wp2
    go_end0
    have hkK:KpO g (Value.slice da n9 dc).ownBlock w9 (w11.setCell ⟨g,9,none⟩ (.slice va11 (n9+1) vc11)):=((KpO.of HB10.out).trans (KpO.grown HGR.out)).trans (KpO.set g 9 _ w11 _);obtain⟨hxF,hbF⟩:=HX9.out.pushD HOB9.out (n':=n9+1) (by omega) hkK (eD HG11.out 9 _) (cV HO11.out (fun q hq=>heap_setCell_other w11 ⟨g,9,none⟩ q _ (fun e=>by
     obtain⟨cs',f,h1⟩:=ed HO11.out hq;exact et h1 HG11.out (by decide) e))) (by
     rcases HF11.out with h | h
     ·exact .inl h
     ·exact .inr (fun b hb=>by rw[h]at hb;have:=Option.some.inj hb;omega))
    exact⟨.inr ⟨rfl,_,_,_,_,_,_,hxF,HI9.out,HL9.out⟩,HB9.out.trans hbF⟩
  ·obtain⟨va8,vc8,rfl,-⟩:=id hR7
   go_upto_region 8 with fail
   obtain⟨t2,ht2⟩:=cR (resT t hs7 now)
   have HT2:=aa ht2;clear ht2;have hd7:Below w7.heap.size w7 w7.drew:=bdrew (ap _ _);have HUD:Hid (RHops w7.drew (.slice ua t.hs.length uc) t.hs):=aa (HU7.out.below' hd7);have hl2:t.hs.length≤100000:=by have:=HL.out t (by rw[HT.out.1];simp);omega
   have hl3:t.hs.length≤2000:=HL.out t (by rw[HT.out.1];simp);have hl4:=hE7.len;have HRD:Hid (RHops w7.drew (.slice va8 hs7.length vc8) hs7):=aa (RRow.below' hR7 hd7);have HE7:=aa hE7;clear hE7 hR7;refine dd (fun V=>Below (w7).heap.size (w7) V) [0,0,0,1,0,0,0,0,1,3,3] [0,1,2,3,4,5,6,7,8,9,10] (by kernel_rfl) (by kernel_rfl) ?_ ?_
   case refine_1=>exact cZ
   (iterate 9 (first | (refine cX rfl (by decide) (by rfl) (fun w1 hS=>by(try(obtain⟨_,_⟩:=bcell (hS rfl)));go_simp;rfl) ?_;simp only[Act.put,ae,af,ag]) | (refine dm rfl (by decide) (by rfl) ?_;simp only[Act.put,ae,af,ag])))
   (refine di rfl rfl (by rfl) (fun K hK=>?_);go_simp)
   refine(mP t (.slice ua t.hs.length uc) (.slice va8 hs7.length vc8) hs7 now w7.drew HUD.out HRD.out (by omega) (by omega)).mono ?_
   rw[HT2.out];rintro e wc106 hst;obtain⟨⟨u2,rfl,hru2,hfr2⟩,hbc106⟩:=hst;obtain⟨ua2,uc2,rfl,-⟩:=id hru2;have HX8:=aa (HX7.out.below (dq hd7 hbc106));have hsep2:t2.hs≠[]→(∀b,(Value.slice pa6 pn6 pc6).ownBlock=some b→(Value.slice ua2 t2.hs.length uc2).ownBlock≠some b)∧∀b∈g::ex,(Value.slice ua2 t2.hs.length uc2).ownBlock≠some b:=(fun _=>HX7.out.sepn (fun b hb=>(by have h:=hfr2 b hb;simpa using h)))
   have z8:w7.heap.size≤wc106.heap.size:=(by have:=hbc106.size;simp at this;omega)
   have zT8:T<wc106.heap.size:=(by omega)
   have HXT8:=aa ((hbc106.block T (by simp;omega)).trans HXT7.out);have HB8:Hid (Below base w wc106):=aa (HB7.out.trans ((dq hd7 hbc106).mono HX7.out.bs))
   (refine hK _ _ ?_;clear hK K;(try simp only[Act.put,ae,af,ag]))
   (refine di rfl rfl (by rfl) (fun K hK=>?_);go_simp)
   refine(iJ (A++t1::C) t2 (.slice ua2 t2.hs.length uc2) base g ex 107 (xC (.slice aq qs.length cq) (.slice ca cs.length cc) (.slice pa6 pn6 pc6) now (.slice uva m4 uvc) acc tk (.slice ma n1 mc) (.slice da n2 dc) ba) (.slice pa6 pn6 pc6) wc106 HX8.out.at_ (by decide) rfl HX8.out.ot HX8.out.bs hru2 hsep2 HI6.out.len).mono ?_
   rintro e wc107 hset2;obtain⟨he2,⟨ut2,hx9,hat9⟩,hb9,hk9⟩:=HX8.out.set hset2;subst he2
   (refine hK _ _ ?_;clear hK K;(try simp only[Act.put,ae,af,ag]))
   refine du ?_
   obtain⟨w9,hw9⟩:∃q,q=wc107:=⟨_,rfl⟩
   rw[←hw9]at hx9 hb9 hk9 ⊢;have hno2:t2.no=t.no:=by rw[←HT2.out];rfl
   have hset9:setS (A++t1::C) t2=A++t2::C:=kr (fun x hx=>by rw[hno2,HT.out.2.2.1];exact HT.out.2.2.2.2 x hx) (by rw[hno2,←HT1.out];rfl);rw[hset9]at hx9;have HI9:Hid (XInv qs cs now (A++t2::C) vs):=aa (by
    have h:=HI6.out;have hE:=HE7.out;have hat:({t.q with src:=nd,rd:=tm}:Rq)=atQ cs t now:=by unfold atQ;rw[HND.out.1,HND.out.2]
    rw[hat]at hE;have hv:t.no ∉ vs:=by rw[HT.out.2.2.1];exact(cL.1 HI.out.nod).1
    have e1:t1=stopT t now (posT t now):=by rw[←HT1.out,HND.out.2]
    have hpm:=HPM.out;rw[e1]at h hpm;rw[←HT2.out];exact h.res HP.out HT.out.2.2.2.1 hv hE hpm.1 hpm.2.1)
   have HL9:Hid (LenX (A++t2::C)):=aa (ky (t:=t1) HL6.out (by
    have hm1:stopT t now tm∈A++t1::C:=by rw[HT1.out];simp
    rw[←HT2.out];exact res_len hm1 HPM.out.2.2 hl4))
   have XT9:=(hk9.block T zT8 (fun e=>hgT e.symm) HT6.out).trans HXT8.out;have HB9:Hid (Below base w w9):=aa (HB8.out.trans hb9);have z9:T<w9.heap.size:=by have:=hk9.size;omega
   have zg9:g<w9.heap.size:=by omega
   obtain⟨ps9,-,ho9,-⟩:=id hx9.ot;obtain⟨pa9,pc9,hue9⟩:=dg ho9;obtain⟨pn9,hpn9⟩:=cR ps9.length
   rw[hpn9]at hue9;subst hue9;have HX9:=aa hx9;have cg9:=fun q=>cU HX9.out.at_ q
   simp only[xC]at cg9;have cT9:=fun q=>cU XT9 q
   obtain⟨n9,x9,ob9,lb9⟩:=id hx9.om;have hn9:n9=n1:=by
    obtain⟨_,_,h⟩:=dg ob9;injection h with _ h _
    exact h.symm
   subst hn9;have HOB9:=aa ob9;have hlb:n9+vs.length≤lim:=lb9;have hbs9:base≤w9.heap.size:=hx9.bs;have HGB9:Hid ((Value.slice ma n9 mc).ownBlock≠some g):=aa (fun e=>by
    obtain⟨cs',f,h1⟩:=ed ob9 e;exact et h1 hx9.at_ (by decide) rfl)
   clear hw9 hx9 hb9 hk9 hset2 hset9 hno2 hat9 ho9 hpn9 hru2 hfr2 hsep2 HX8 HXT8 HB8 HX7 HU7 HXT7 HB7 cg7 cT7 HUD hd7 hbc106 zT8 z8 zg7 zT7 hl2 XT9 ob9 lb9;go_upto_region 9 with fail
   refine dd (fun V=>Below w9.heap.size w9 V) [0,0,0,0,0,1,0,1,2,3,0,0,0,3] [0,1,2,3,4,5,6,7,8,9,10,11,12,13] (by kernel_rfl) (by kernel_rfl) ?_ ?_
   case refine_1=>exact bdrew (ap _ _)
   (iterate 8 (first | (refine cX rfl (by decide) (by rfl) (fun w1 hS=>by(try(obtain⟨_,_⟩:=bcell (hS rfl)));go_simp;rfl) ?_;simp only[Act.put,ae,af,ag]) | (refine dm rfl (by decide) (by rfl) ?_;simp only[Act.put,ae,af,ag])))
   (refine dA rfl rfl (by rfl) (fun K hK=>?_);go_simp)
   (refine hK _ _ (by exact de (bdrew (ap _ _))) ?_;clear hK K;(try simp only[Act.put,ae,af,ag]))
   obtain⟨w10,hw10⟩:=cR ((w9.alloc (.cells #[.int .i64 t.no] 3)).drew)
   rw[hw10];have B10:Below w9.heap.size w9 w10:=by rw[←hw10];exact bdrew (de (ap _ _))
   have X10:w10.heap[w9.heap.size]? =some (.cells #[.int .i64 t.no] 3 (0,0)):=by rw[←hw10];exact cW (W:=w9)
   have z10:w9.heap.size<w10.heap.size:=(ai.1 X10).1;have HO10:=aa (cV HOB9.out (fun q hq=>B10.block q (HOB9.out.lt q hq).2));have HG10:=aa ((B10.block _ zg9).trans HX9.out.at_);have HB10:=aa B10;have HX10:=aa X10;clear hw10 X10 B10 cT9 cg9;refine di rfl rfl (by rfl) (fun K hK=>?_)
   refine dW _ _ _ _ rfl base 3 i0 _ 1 8 cP hin hz0 hz1 hz2 rfl (by omega) (.slice ma n9 mc) n9 x9 rfl HO10.out ⟨w9.heap.size,0,none⟩ 1 1 [.int .i64 t.no] rfl rfl (dI HX10.out) (by simp[Value.oneCell']) (by simp only[maxLen];omega) (by omega) (by omega) (by omega) ?_
   intro vo w11 ho11 hg11 hf11;obtain⟨va11,vc11,hve⟩:=dg ho11;subst hve;have HG11:=aa ((dw hg11 (by omega) (fun e=>HGB9.out e)).trans HG10.out);have hgl11:g<w11.heap.size:=(ai.1 HG11.out).1;have c11:=fun q=>cU HG11.out q
   simp only[xC]at c11;have f11:=fun q=>dC HG11.out q
   have HO11:=aa ho11;have HGR:=aa hg11;have HF11:=aa hf11;clear ho11 hg11 hf11;refine hK _ _ ?_
   clear hK K
   (try simp only[Act.put,ae,af,ag])
   (iterate 3 (first | (refine cX rfl (by decide) (by rfl) (fun w1 hS=>by(try(obtain⟨_,_⟩:=bcell (hS rfl)));go_simp;rfl) ?_;simp only[Act.put,ae,af,ag]) | (refine dm rfl (by decide) (by rfl) ?_;simp only[Act.put,ae,af,ag])))
   (refine di rfl rfl (by rfl) (fun K hK=>?_);go_simp)
   refine hK _ _ ?_
   clear hK K;refine du ?_
   go_wp2
   go_end0
   have hkK:KpO g (Value.slice ma n9 mc).ownBlock w9 (w11.setCell ⟨g,8,none⟩ (.slice va11 (n9+1) vc11)):=((KpO.of HB10.out).trans (KpO.grown HGR.out)).trans (KpO.set g 8 _ w11 _);obtain⟨hxF,hbF⟩:=HX9.out.pushM HOB9.out (n':=n9+1) (by omega) hkK (eD HG11.out 8 _) (cV HO11.out (fun q hq=>heap_setCell_other w11 ⟨g,8,none⟩ q _ (fun e=>by
    obtain⟨cs',f,h1⟩:=ed HO11.out hq;exact et h1 HG11.out (by decide) e))) (by
    rcases HF11.out with h | h
    ·exact .inl h
    ·exact .inr (fun b hb=>by rw[h]at hb;have:=Option.some.inj hb;omega))
   exact⟨.inr ⟨rfl,_,_,_,_,_,_,hxF,HI9.out,HL9.out⟩,HB9.out.trans hbF⟩
end
section
theorem mk1_idle (z:Nat) (w:World):
  CallsD Tryz.prog 132 #[.pointer (some ⟨z,0,none⟩)] .returning w fun e u' w'=>e= .returned (.tuple #[])∧u'= .returning∧w'=w:=by
 refine callsD_of_wpS Tryz.func132 rfl fun c₀ cs hu=>?_
 apply wpS_seq
 apply wpS_region
 simp[wpOpsS,go_sem,recoverD,hu,Tryz.ntmps132,Exit.thenS]
 refine wpS_of_wp ?_
 go_wp2
 cases c₀
 simp_all [bodyPostS,results,Tryz.results132]
theorem li (z:Nat) (u:Value) (w:World) (hz:w.heap[z]? =some (.cells #[u] 4 (0,0))):
  CallsD Tryz.prog 132 #[.pointer (some ⟨z,0,none⟩)] (.panicking [{v:=.iface 215 (.agg #[]),recovered:=false}]) w fun e u' w'=>
   e= .returned (.tuple #[])∧u'= .panicking [{v:=.iface 215 (.agg #[]),recovered:=true}]∧w'.heap[z]? =some (.cells #[.bool false] 4 (0,0))∧w'.os=w.os∧w'.tape=w.tape∧w'.output=w.output∧w.heap.size≤w'.heap.size∧∀q,q<w.heap.size→q≠z→w'.heap[q]? =w.heap[q]?:=by
 have cz:=cU hz 0;have fz:=dC hz 0;have hzl:z<w.heap.size:=(ai.1 hz).1;refine callsD_of_wpS Tryz.func132 rfl fun c₀ cs hu=>?_
 apply wpS_seq
 apply wpS_region
 simp[wpOpsS,go_sem,recoverD,hu,Tryz.ntmps132,Exit.thenS]
 refine wpS_of_wp ?_
 show Code.wp _ _ _ {tmps:=#[.pointer (some ⟨z,0,none⟩),.iface 215 (.agg #[]),undef,undef,.iface 215 (.agg #[]),undef,undef,undef,undef,undef,undef,undef,undef,undef,undef],defers:=[]} w
 have hta:∀W:World,(Instr.typeAssert (.iface 215 (.agg #[])) 20 215 true).run Tryz.prog W= .ok (.tuple #[.agg #[],.bool true]) W:=fun _=>by kernel_rfl
 go_wp2
 refine⟨rfl,_,rfl,.tuple #[],by simp[results,Tryz.results132],rfl,rfl,?_,rfl,rfl,rfl,by simp,fun q hq hne=>?_⟩
 ·exact(ak _ _ _ (by simp;omega)).trans (eD hz 0 _)
 ·exact(ak _ _ _ (by simp;omega)).trans (heap_setCell_other w ⟨z,0,none⟩ q _ hne)
end
end Go.Proofs.YtfnciigbbolckaaGreat
