/- Part 25 of the proof about mailboattop.TopOthers. No condition. -/
import Derived.Test.YtfnciigbbolckaaGreatQ00
import Derived.Test.YtfnciigbbolckaaGreatQ07
import Derived.Test.YtfnciigbbolckaaGreatQ08
import Derived.Test.YtfnciigbbolckaaGreatQ09
import Derived.Test.YtfnciigbbolckaaGreatQ10
import Derived.Test.YtfnciigbbolckaaGreatQ12
import Derived.Test.YtfnciigbbolckaaGreatQ20
import Derived.Test.YtfnciigbbolckaaGreatQ23
import Derived.Test.YtfnciigbbolckaaGreatQ24
set_option linter.unusedVariables false
set_option linter.unusedSimpArgs false
set_option maxRecDepth 100000
set_option maxHeartbeats 64000000
namespace Go.Proofs.YtfnciigbbolckaaGreat
open Go Go.RowKit Iv
attribute [local go_sem] Oper.semAt_some
attribute [local go_sem] pw gu B_app pv B_get B_toList
section
def numS (ts:List Tk) (k:Nat) (b:Int):Prop:=∀(j:Nat) (t:Tk),k≤j→ts[j]? =some t→b<t.no
theorem rnil {α:Type} (enc:α→List Value) (s:Nat) (w:World) (N:Nat):RRow enc s w N (.slice none 0 0) ([]:List α):=⟨none,0,rfl,aj _,by unfold maxLen;omega,fun _=>rfl,fun h=>absurd h (by simp)⟩
theorem fw {w:World} {b b' n s:Nat} {e:TypeId} {v:Value} {xs:List Value} (h:w.ownsRow b e s v n xs) (k:b'≤b):w.ownsRow b' e s v n xs:=by
 obtain⟨h1,h2⟩:=h;refine⟨h1,h2.imp id ?_⟩
 rintro⟨g,cap,cur,e1,e2,r⟩;exact⟨g,cap,cur,e1,aK k e2,r⟩
theorem pV {qs:List Int} {cs:List Con} {ts:List Tk} (h:∀t∈ts,TkW qs cs t):numS ts 0 0:=fun j t _ ht=>by have:=(h t (az ht)).n0;omega
theorem pW {ts:List Tk} (h:ts.Pairwise (fun a b=>a.no<b.no)) {k:Nat} {t:Tk} (hk:ts[k]? =some t):numS ts (k+1) t.no:=fun j x hj hx=>by
 obtain⟨h1,e1⟩:=aw.1 hk;obtain⟨h2,e2⟩:=aw.1 hx;rw[←e1,←e2];exact cJ.1 h k j h1 h2 (by omega)
theorem jm:∀{ts:List Tk} {t:Tk},t∈ts→t.hs.length≤(allB ts).length
 | x::r,t,h=>by
  rw[fm,ay];rcases aG.1 h with rfl | h
  ·unfold bksL;rw[aZ];omega
  ·have:=jm h;omega
theorem LedOK.hops {qs:List Int} {cs:List Con} {ts:List Tk} (h:LedOK qs cs ts) {t:Tk} (ht:t∈ts):t.hs.length≤512:=aK (jm ht) h.nb
theorem LedOK.wok {qs:List Int} {cs:List Con} {ts:List Tk} (h:LedOK qs cs ts) {t:Tk} (ht:t∈ts):WOK qs cs t:=fun x hx=>by
 obtain⟨n,tm,hh⟩:=iy (h.tk t ht).way x hx;have hf:=hh.facts h.pl (h.tk t ht).rq;exact⟨⟨hh.c0,hh.c1⟩,by omega,by omega⟩
theorem m6 (qs:List Int) (cs:List Con) (ts:List Tk) (uq uc ut:Value) (w:World) (hq:RRow intC 1 w w.heap.size uq qs) (hc:RRow conC 7 w w.heap.size uc cs) (ht:RTks w ut ts) (hl:LedOK qs cs ts):
  Calls Tryz.prog 17 #[.agg #[uq,uc,.slice none 0 0,ut]] w fun e w'=>e= .returned (.int .i64 0)∧Below w.heap.size w w':=by
 have HQ:=aa hq;have HC:=aa hc;have HT:=aa ht;have HL:=aa hl;obtain⟨ps,rfl,hps,hrh⟩:=ht;have HRH:=aa hrh;obtain⟨ta,tc,rfl,h1,h2,-,h4⟩:=hps;have H4:=aa h4;unfold maxLen at h2;have hlt:ps.length≤64:=by have:=hl.len;rwa [aZ]at this
 obtain⟨ts,hts⟩:=cR (ps.map (·.1))
 have HPS:Hid (ts=ps.map (·.1)):=aa hts.symm;rw[hts]at HT HL;have HQU:Hid (∃a k c,uq= .slice a k c):=aa (by obtain⟨a,c,h,-⟩:=hq;exact⟨_,_,_,h⟩);clear hq hc hl hrh h4 hts;go_enter Tryz.func17,Tryz.ntmps17
 go_upto_region 1 with fail
 obtain⟨Z,hZ⟩:=cR w.heap.size
 obtain⟨w1,hw1⟩:=cR (w.alloc (.cells #[uq,uc,.slice none 0 0,.slice ta ps.length tc] 36))
 rw[hw1];have B1:Below Z w w1:=by rw[←hw1,←hZ];exact de (ap _ _)
 have X0:w1.heap[Z]? =some (.cells #[uq,uc,.slice none 0 0,.slice ta ps.length tc] 36 (0,0)):=by rw[←hw1,←hZ];exact cW
 have z0:Z<w1.heap.size:=(ai.1 X0).1;have k0:=fun q_=>cU X0 q_
 have HZ:=aa hZ;have HX:=aa (cS B1 X0);rw[hZ]at HQ HC ⊢;clear hw1 B1 X0 hZ;go_wp2_with fail
 refine(eV qs cs uq uc w1 (HQ.out.below HX.out.1 (aj _) (by omega)) (HC.out.below HX.out.1 (aj _) (by omega))).mono ?_
 unfold PlanPost;rintro e w2 ⟨⟨r,rfl,-,hr0⟩,hb2⟩;obtain rfl:r=0:=hr0 HL.out.pl;have z2:=hb2.size;have HX2:=aa (cS (HX.out.1.trans (hb2.mono (by omega))) ((hb2.block _ z0).trans HX.out.2));have k0:=fun q_=>cU HX2.out.2 q_
 have y0:Z<w2.heap.size:=by omega
 have hcall:∀args W,(callFunc 48 args).run Tryz.prog W= .ok (.enter 48 args) W:=fun _ _=>by kernel_rfl
 clear hr0 hb2;go_wp2_with fail
 refine(lZ [] _ 48 #[] (fun _=>false) w2 (rnil bkgC 4 _ _) ⟨hcall,fun x W hx=>by cases hx⟩).mono ?_
 rintro e w3 ⟨rfl,hb3⟩;have z3:=hb3.size;have HX3:=aa (cS (HX2.out.1.trans (hb3.mono (by omega))) ((hb3.block _ y0).trans HX2.out.2));have k0:=fun q_=>cU HX3.out.2 q_
 have y0:Z<w3.heap.size:=by omega
 have d1:decide ((ps.length:Int)>64)=false:=decide_eq_false (by omega);have hlen:ps.length≤9223372036854775807:=by omega
 clear hb3;go_wp2_with fail
 go_loopw [4,25] (fun bv kv wr=>∃(k:Nat) (b:Int),k≤ps.length∧kv= .int .i64 (k:Int)∧bv= .int .i64 b∧Hid (numS ts k b)∧Hid (Below w3.heap.size w3 wr)) (fun _ kv _=>ps.length-(intOf kv).toNat)
 case atStart=>exact⟨0,0,aE _,rfl,rfl,aa (pV HL.out.tk),aa (ap _ _)⟩
 case round=>
  obtain⟨k,b,hk,rfl,rfl,HN,HBR⟩:=hrel;have zr:w3.heap.size≤wr.heap.size:=HBR.out.size;have HXr:=aa (cS (HX3.out.1.trans (HBR.out.mono (by omega))) ((HBR.out.block _ y0).trans HX3.out.2));have zr0:Z<wr.heap.size:=by omega
  have i0:(0:Int)≤(k:Int):=by omega
  clear k0;by_cases hk1:k<ps.length
  ·obtain⟨bb,o,rfl,hbb,hcc⟩:=H4.out (by omega)
   obtain⟨x,hx⟩:∃x,ps[k]? =some x:=⟨_,am hk1⟩
   obtain⟨t,u⟩:=x;have hru:=HRH.out (t,u) (az hx);simp only at hru;obtain⟨ua,uc2,hue,-⟩:=id hru;subst hue;obtain⟨g0,g1,g2,g3,g4,g5,g6,g7,g8,g9,g10⟩:=(iA hcc hx).below (fun q=>HXr.out.1.cell (p:=⟨bb,q,none⟩) (by rw[←HZ.out];exact hbb));have hbr:bb<wr.heap.size:=by have:=HZ.out;omega
   have i1:(k:Int)<(ps.length:Int):=by omega
   have htx:ts[k]? =some t:=by rw[HPS.out,bO,hx];rfl
   have HTX:=aa htx;have HNX:=aa (pW HL.out.num htx);have HRU:=aa hru;clear hx hru hcc htx;go_upto_region 12 with fail
   obtain⟨w7,hw7⟩:=cR (wr.alloc (.cells #[.int .i64 t.no,.int .i64 t.q.src,.int .i64 t.q.dst,.int .i64 t.q.sz,.int .i64 t.q.rd,.int .i64 t.q.D,.int .i64 t.q.pr,.bool t.q.cu,(.slice ua t.hs.length uc2),.int .i64 t.st,.int .i64 t.un] 41))
   rw[hw7];have b7:Below wr.heap.size wr w7:=by rw[←hw7];exact de (ap _ _)
   have X7:w7.heap[wr.heap.size]? =some (.cells #[.int .i64 t.no,.int .i64 t.q.src,.int .i64 t.q.dst,.int .i64 t.q.sz,.int .i64 t.q.rd,.int .i64 t.q.D,.int .i64 t.q.pr,.bool t.q.cu,(.slice ua t.hs.length uc2),.int .i64 t.st,.int .i64 t.un] 41 (0,0)):=by rw[←hw7];exact cW
   have z7:wr.heap.size<w7.heap.size:=(ai.1 X7).1;have c7:=fun q=>cU X7 q
   have k0:=fun q_=>cU ((b7.block _ zr0).trans HXr.out.2) q_
   have zr7:Z<w7.heap.size:=by omega
   have HX7:=aa X7;have HB7:Hid (Below Z w w7):=aa (HXr.out.1.trans (b7.mono (by omega)));have HBB7:Hid (Below w3.heap.size w3 w7):=aa (HBR.out.trans (b7.mono (by omega)));have HRU7:Hid (RRow hpC 4 w7 w7.heap.size (.slice ua t.hs.length uc2) t.hs):=aa (HRU.out.below' (by rw[HZ.out];exact HB7.out));clear hw7 b7 X7 g0 g1 g2 g3 g4 g5 g6 g7 g8 g9 g10;go_wp2_with fail
   have htm:t∈ts:=az HTX.out;refine(ctk_any qs cs t b uq uc _ w7 (HQ.out.below HB7.out (aj _) (by omega)) (HC.out.below HB7.out (aj _) (by omega)) HRU7.out HL.out.pl (HL.out.tk t htm) (by have:=HL.out.hops htm;omega) (HN.out k t (aj _) HTX.out)).mono ?_
   clear htm;rintro e w8 ⟨rfl,hb8⟩;have z8:=hb8.size;have HBB8:Hid (Below w3.heap.size w3 w8):=aa (HBB7.out.trans (hb8.mono (by omega)));have c7:=fun q=>cU ((hb8.block _ z7).trans HX7.out) q
   have z78:wr.heap.size<w8.heap.size:=by omega
   clear hb8 k0;go_wp2
   go_roundw
   case rel=>exact⟨k+1,t.no,by omega,by go_num,rfl,HNX,HBB8⟩
   case measure=>simp[intOf];omega
  ·obtain rfl:k=ps.length:=by omega
   have k0:=fun q_=>cU HXr.out.2 q_
   have HWr:=aa HXr.out.1;have HW0:Hid (∃V,Below w.heap.size w V∧V=wr):=aa ⟨wr,by rw[HZ.out];exact HWr.out,rfl⟩;go_wp2_with fail
   refine(iO qs cs [] uq uc _ wr (HQ.out.below HWr.out (aj _) (by omega)) (HC.out.below HWr.out (aj _) (by omega)) (rnil bkgC 4 _ _)).mono ?_
   unfold BkPost;rintro e w5 ⟨⟨r,rfl,-,hr0⟩,hb5⟩;obtain rfl:r=0:=hr0 ⟨HL.out.pl,by simp,(fun b hb=>by cases hb),(fun k a b h=>by simp at h)⟩;have z5:=hb5.size;have HX5:=aa (cS (HWr.out.trans (hb5.mono (by omega))) ((hb5.block _ zr0).trans HXr.out.2));have k0:=fun q_=>cU HX5.out.2 q_
   have zr5:Z<w5.heap.size:=by omega
   clear hr0 hb5;go_wp2_with fail
   refine(fq qs cs ts uq uc _ w5 HQU.out (HC.out.below HX5.out.1 (aj _) (by omega)) HL.out.pl (HT.out.below' (by rw[HZ.out];exact HX5.out.1)) (fun t ht=>HL.out.wok ht) HL.out.len (fun t ht=>by have:=HL.out.hops ht;omega)).mono ?_
   unfold TabPost;rintro e w6 ⟨⟨vb,vh,B,H,rfl,hB1,hB2,hH1,hH2,hto⟩,hb6⟩;have z6:=hb6.size;have HX6:Hid (Below Z w w6):=aa (HX5.out.1.trans (hb6.mono (by omega)));have HTO:=aa (cS hto (cS (HL.out.bset hB1 hB2) (HL.out.hset hH1 hH2)));clear hb6 hto hB1 hB2 hH1 hH2 k0;go_wp2_with fail
   refine(gJ qs cs B H uq uc vb vh w6 (HQ.out.below HX6.out (aj _) (by omega)) (HC.out.below HX6.out (aj _) (by omega)) (dF (by decide) dL HTO.out.1.b) (dF (by decide) dO HTO.out.1.h)).mono ?_
   unfold CtPost;rintro e w9 ⟨⟨r,rfl,hr0⟩,hb9⟩;obtain rfl:r=0:=hr0.2 ⟨HL.out.pl,HTO.out.2⟩;have HW:Hid (Below Z w w9):=aa (HX6.out.trans (hb9.mono (by omega)));clear hr0 hb9;go_wp2
   go_ret
   rw[HZ.out];exact⟨rfl,HW.out⟩
theorem lI (qs:List Int) (cs:List Con) (ts:List Tk) (uq uc ut:Value) (w:World) (hq:RRow intC 1 w w.heap.size uq qs) (hc:RRow conC 7 w w.heap.size uc cs) (ht:RTks w ut ts) (hl:LedOK qs cs ts):
  Calls Tryz.prog 7 #[.agg #[uq,uc,.slice none 0 0,ut]] w fun e w'=>(∃(vb vh:Value) (B:List Bkg) (H:List Hld),e= .returned (.tuple #[.agg #[uq,uc,vb,vh],.int .i64 0])∧B.Perm (allB ts)∧B.Pairwise leB∧H.Perm (allH cs ts)∧H.Pairwise leH∧TabO w' w.heap.size vb vh B H)∧Below w.heap.size w w':=by
 have HQ:=aa hq;have HC:=aa hc;have HT:=aa ht;have HL:=aa hl;have HQU:Hid (∃a k c,uq= .slice a k c):=aa (by obtain⟨a,c,h,-⟩:=hq;exact⟨_,_,_,h⟩);clear hq hc hl ht;go_enter Tryz.func7,Tryz.ntmps7
 go_upto_region 1 with fail
 obtain⟨Z,hZ⟩:=cR w.heap.size
 obtain⟨w1,hw1⟩:=cR ((w.alloc (.cells #[uq,uc,.slice none 0 0,ut] 36)).alloc (.cells #[.slice none 0 0,.slice none 0 0,.slice none 0 0,.slice none 0 0] 44))
 rw[hw1];have B1:Below Z w w1:=by rw[←hw1,←hZ];exact cZ
 have X0:w1.heap[Z]? =some (.cells #[uq,uc,.slice none 0 0,ut] 36 (0,0)):=by rw[←hw1,←hZ];exact(by repeat (first | exact cY (by first | rfl | (simp;done)) | refine(ak _ _ _ (by first | (simp;done) | (simp;omega))).trans ?_))
 have X1:w1.heap[Z+1]? =some (.cells #[.slice none 0 0,.slice none 0 0,.slice none 0 0,.slice none 0 0] 44 (0,0)):=by rw[←hw1,←hZ];exact(by repeat (first | exact cY (by first | rfl | (simp;done)) | refine(ak _ _ _ (by first | (simp;done) | (simp;omega))).trans ?_))
 have z1:Z+1<w1.heap.size:=(ai.1 X1).1;have z0:Z<w1.heap.size:=by omega
 have k0:=fun q_=>cU X0 q_
 have HZ:=aa hZ;have HX:=aa (cS B1 (cS X0 X1));rw[hZ]at HQ HC ⊢;clear hw1 B1 X0 X1 hZ;go_wp2_with fail
 refine(m6 qs cs ts uq uc ut w1 (HQ.out.below HX.out.1 (aj _) (by omega)) (HC.out.below HX.out.1 (aj _) (by omega)) (HT.out.below' (by rw[HZ.out];exact HX.out.1)) HL.out).mono ?_
 rintro e w2 ⟨rfl,hb2⟩;have z2:=hb2.size;have HX2:=aa (cS (HX.out.1.trans (hb2.mono (by omega))) (cS ((hb2.block _ z0).trans HX.out.2.1) ((hb2.block _ z1).trans HX.out.2.2)));have k0:=fun q_=>cU HX2.out.2.1 q_
 have y0:Z<w2.heap.size:=by omega
 have y1:Z+1<w2.heap.size:=by omega
 clear hb2;go_wp2_with fail
 refine(fq qs cs ts uq uc ut w2 HQU.out (HC.out.below HX2.out.1 (aj _) (by omega)) HL.out.pl (HT.out.below' (by rw[HZ.out];exact HX2.out.1)) (fun t ht=>HL.out.wok ht) HL.out.len (fun t ht=>by have:=HL.out.hops ht;omega)).mono ?_
 unfold TabPost;rintro e w6 ⟨⟨vb,vh,B,H,rfl,hB1,hB2,hH1,hH2,hto⟩,hb6⟩;have z6:=hb6.size;have HX6:=aa ((hb6.block _ y1).trans HX2.out.2.2);have HB6:Hid (Below Z w w6):=aa (HX2.out.1.trans (hb6.mono (by omega)));have HTO:=aa hto;have HPB:=aa (cS hB1 (cS hB2 (cS hH1 hH2)));clear hb6 hto hB1 hB2 hH1 hH2 k0;obtain⟨aq,kq,cq,rfl⟩:=HQU.out;obtain⟨ca,cc,rfl,-⟩:=id HC.out;obtain⟨ba,bc,hbe⟩:=dg HTO.out.b;subst hbe;obtain⟨ha,hc',hhe⟩:=dg HTO.out.h;subst hhe;go_wp2_with (refine dv rfl 44 _ _ rfl (Z+1) #[.slice aq kq cq,.slice ca cs.length cc,.slice ba B.length bc,.slice ha H.length hc'] _ 44 rfl rfl HX6.out rfl (by kernel_rfl) (by simp[Value.oneCell']) ?_;intro wF hW hbW hsW hoW;have HBF:Hid (Below Z w wF):=aa (HB6.out.trans (hbW _ (by omega)));have HOF:=aa (cS hoW hsW);have zF:Z+1<wF.heap.size:=(ai.1 hW).1;have cF:=fun o=>cU hW o;clear hW hbW hsW hoW)
 refine bodyPost_ret (v:=.tuple #[.agg #[.slice aq kq cq,.slice ca cs.length cc,.slice ba B.length bc,.slice ha H.length hc'],.int .i64 0]) (by simp[results,Tryz.results7,go_sem,aP,cF,zF]) rfl ?_
 have hz2:Z≤w2.heap.size:=by omega
 have hkB:∀q,(Value.slice ba B.length bc).ownBlock=some q→wF.heap[q]? =w6.heap[q]?:=fun q hq=>HOF.out.1 q (fun e=>by have:=(HTO.out.b.lt q hq).1;omega)
 have hkH:∀q,(Value.slice ha H.length hc').ownBlock=some q→wF.heap[q]? =w6.heap[q]?:=fun q hq=>HOF.out.1 q (fun e=>by have:=(HTO.out.h.lt q hq).1;omega)
 rw[HZ.out];exact⟨⟨_,_,B,H,rfl,HPB.out.1,HPB.out.2.1,HPB.out.2.2.1,HPB.out.2.2.2,⟨fw (cV HTO.out.b hkB) hz2,fw (cV HTO.out.h hkH) hz2⟩⟩,HBF.out⟩
end
section
def LenX (ts:List Tk):Prop:=∀t∈ts,t.hs.length≤2000
theorem n7 {ts:List Tk} {no:Int} {t:Tk} (h:findS ts no=some t):∃A C,ts=A++t::C∧t.no=no∧∀a∈A,a.no≠no:=by
 unfold findS at h;obtain⟨h1,A,C,h2,h3⟩:=List.find?_eq_some_iff_append.1 h;exact⟨A,C,h2,by simpa using h1,fun a ha=>by simpa using h3 a ha⟩
theorem kx {ts:List Tk} {t:Tk} (num:ts.Pairwise (fun a b=>a.no<b.no)) (ht:t∈ts):findS ts t.no=some t:=by
 obtain⟨A,C,rfl⟩:=List.append_of_mem ht;unfold findS;refine List.find?_eq_some_iff_append.2 ⟨by simp,A,C,rfl,fun a ha=>?_⟩
 have:=jf num a (by simp[ha]);simpa using this
theorem XInv.first {qs:List Int} {cs:List Con} {now:Int} {ts:List Tk} {v:Int} {vs:List Int} (h:XInv qs cs now ts (v::vs)):∃A t C,ts=A++t::C∧findS ts v=some t∧t.no=v∧Open qs cs now t∧∀a∈A,a.no≠v:=by
 obtain⟨t,ht,e,e1,e2⟩:=h.vic v (by simp);have hf:=kx h.num ht;rw[e]at hf;obtain⟨A,C,h1,h2,h3⟩:=n7 hf;exact⟨A,t,C,h1,hf,h2,⟨h.tk t ht,e1,e2⟩,h3⟩
theorem XInv.wok {qs:List Int} {cs:List Con} {now:Int} {ts:List Tk} {vs:List Int} (hp:PlanOK qs cs) (h:XInv qs cs now ts vs) {t:Tk} (ht:t∈ts):WOK qs cs t:=fun x hx=>by
 obtain⟨n,tm,hh⟩:=iy (h.tk t ht).way x hx;have hf:=hh.facts hp (h.tk t ht).rq;exact⟨⟨hh.c0,hh.c1⟩,by omega,by omega⟩
theorem BkOK.filter {cs:List Con} {B:List Bkg} (h:BkOK cs B) (p:Bkg→Bool):BkOK cs (B.filter p):=by
 have hs:=h.set;refine BkOK.of ⟨aK (bn _ _) hs.1,fun b hb=>hs.2.1 b (bG.1 hb).1,hs.2.2.sublist List.filter_sublist⟩ (h.sorted.sublist List.filter_sublist)
theorem XInv.bset {qs:List Int} {cs:List Con} {now:Int} {ts:List Tk} {vs:List Int} (hp:PlanOK qs cs) (h:XInv qs cs now ts vs) (nb:(allB ts).length≤512) {B:List Bkg} (hB:B.Perm ((allB ts).filter (kp vs now))) (hs:B.Pairwise leB):BkOK cs B:=
 BkOK.of (BkSet.perm ⟨aK (bn _ _) nb,fun b hb=>ka hp h.tk b (bG.1 hb).1,h.dis⟩ hB.symm) hs
theorem XInv.hset {qs:List Int} {cs:List Con} {now:Int} {ts:List Tk} {vs:List Int} (hp:PlanOK qs cs) (h:XInv qs cs now ts vs) (nh:(allH cs ts).length≤512) {H:List Hld} (hH:H.Perm (allH cs ts)) (hs:H.Pairwise leH):HkOK qs H:=
 ⟨by rw[hH.length_eq];exact nh,fun x hx=>ke hp h.tk x (hH.mem_iff.1 hx),hs,h.lev.perm hH.symm⟩
theorem ky {A C:List Tk} {t t':Tk} (h:LenX (A++t::C)) (ht:t'.hs.length≤2000):LenX (A++t'::C):=fun x hx=>by
 rcases aA.1 hx with hx | hx
 ·exact h x (by simp[hx])
 ·rcases aG.1 hx with rfl | hx
  ·exact ht
  ·exact h x (by simp[hx])
theorem m7 (t:Tk) (now un:Int):(stopT t now un).hs.length≤t.hs.length:=by
 show(t.hs.take _).length≤_
 rw[aS];omega
theorem res_len {ts:List Tk} {t:Tk} {now un:Int} {hs:List Hp} (ht:stopT t now un∈ts) (nb:(allB ts).length≤512) (hl:hs.length≤1000):(resT t hs now).hs.length≤2000:=by
 have h1:=jm ht;have h2:(stopT t now un).hs=t.hs.take (begun now t.hs):=rfl;rw[h2]at h1;show(t.hs.take (begun now t.hs)++hs).length≤2000
 rw[ay];omega
def vicB (ts:List Tk) (hs:List Hp) (now:Int) (n:Int):Bool:=match findS ts n with
 | some t=>ovlT t hs now
 | none=>false
def vicS (cs:List Con) (now:Int) (ts:List Tk) (hs:List Hp):List Int:=(weakS cs now ts).filter (vicB ts hs now)
theorem m8 {cs:List Con} {now:Int} {ts:List Tk} {n:Int} (h:n∈weakS cs now ts):∃t∈ts,t.no=n∧t.st=1∧begun now t.hs<t.hs.length:=by
 unfold weakS at h;obtain⟨t,ht,rfl⟩:=bu.1 h;obtain⟨h1,h2⟩:=bG.1 ht;unfold weakB restB at h2;simp only[aQ,decide_eq_true_eq]at h2;exact⟨t,h1,rfl,h2.2.1.1,h2.2.1.2⟩
theorem n8 {cs:List Con} {now:Int} {ts:List Tk} (num:ts.Pairwise (fun a b=>a.no<b.no)):(weakS cs now ts).Nodup:=by
 unfold weakS;refine List.pairwise_map.2 ((num.sublist List.filter_sublist).imp fun h=>?_)
 omega
theorem pX {qs:List Int} {cs:List Con} {now:Int} {ts:List Tk} {q:Rq} {no:Int} {hs:List Hp} {B:List Bkg} {H:List Hld} (h:LedOK qs cs ts) (he:EOK qs cs q B H hs) (hB:B.Perm ((allB ts).filter (kp (weakS cs now ts) now))) (hH:H.Perm (allH cs ts)) (hl:ts.length<64) (h0:1≤no) (h1:no≤1152921504606846976) (hnew:∀t∈ts,t.no<no):XInv qs cs now (ts++[newT no q hs]) (vicS cs now ts hs):=by
 refine XInv.begin h he hB hH hl h0 h1 hnew ((n8 h.num).sublist List.filter_sublist) (fun v hv=>m8 (bG.1 hv).1) (fun t ht hw hv=>?_)
 cases ho:ovlT t hs now with
 | false=>rfl
 | true=>
  refine absurd (bG.2 ⟨hw,?_⟩) hv
  unfold vicB;rw[kx h.num ht];exact ho
theorem o6 {ts:List Tk} (num:ts.Pairwise (fun a b=>a.no<b.no)) (h0:∀t∈ts,1≤t.no) (hc:∀t,ts.getLast? =some t→t.no<1152921504606846976):1≤nextS ts∧nextS ts≤1152921504606846976∧∀t∈ts,t.no<nextS ts:=by
 unfold nextS
 cases hl:ts.getLast? with
 | none=>
  have:ts=[]:=List.getLast?_eq_none_iff.1 hl;subst this;exact⟨(by show(1:Int)≤1;omega),(by show(1:Int)≤1152921504606846976;omega),(fun t ht=>by cases ht)⟩
 | some x=>
  have hm:=List.mem_of_getLast? hl;have h1:=h0 x hm;have h2:=hc x hl;refine⟨by show 1≤x.no+1;omega,by show x.no+1≤_;omega,fun t ht=>?_⟩
  show t.no<x.no+1
  obtain⟨i,hi⟩:=List.getLast?_eq_some_iff.1 hl;subst hi;rcases aA.1 ht with ht | ht
  ·have:=(aT.1 num).2.2 t ht x (by simp)
   omega
  ·rw[aH.1 ht];omega
theorem iP {ts:List Tk} {q:Rq} {no:Int} {hs:List Hp} (h:∀t∈ts,t.hs.length≤512) (hl:hs.length≤1000):LenX (ts++[newT no q hs]):=fun x hx=>by
 rcases aA.1 hx with hx | hx
 ·have:=h x hx;omega
 ·rw[aH.1 hx];show hs.length≤2000;omega
theorem iQ {n:Nat}:∀{ts:List Tk},(∀t∈ts,t.hs.length≤n)→(allB ts).length≤ts.length*n
 | [],_=>by simp[allB]
 | t::r,h=>by
  have h1:=iQ (ts:=r) (fun x hx=>h x (by simp[hx]));have h2:=h t (by simp);rw[fm,ay,aI,Nat.succ_mul];unfold bksL;rw[aZ];omega
theorem kz (cs:List Con) (q:Rq) (no:Int):∀(hs:List Hp) (n f:Int),(hopsH cs q no n f hs).length≤hs.length
 | [],_,_=>aj _
 | h::r,n,f=>by
  rw[dY,ay,aI];have:=kz cs q no r (conOf cs h.ct).tt h.bg;split<;>simp<;>omega
theorem iR {cs:List Con} {n:Nat}:∀{ts:List Tk},(∀t∈ts,t.hs.length≤n)→(allH cs ts).length≤ts.length*(n+1)
 | [],_=>by simp[allH]
 | t::r,h=>by
  have h1:=iR (cs:=cs) (ts:=r) (fun x hx=>h x (by simp[hx]));have h2:=h t (by simp);have h3:=kz cs t.q t.no t.hs t.q.src t.q.rd;rw[fp,ay,aI,Nat.succ_mul];unfold hldsT;rw[ay];have h4:(endH t.q t.no t.un (nodeE cs t.q.src t.hs) (fromE t.q.rd t.hs)).length≤1:=by unfold endH;split<;>simp
  omega
end
section
theorem pY (O:List Bkg) (v:Value) (f:FuncId) (caps:Array Value) (Pd:Bkg→Bool) (w:World) (hr:RRow bkgC 4 w w.heap.size v O) (hp:PrdB f caps Pd w O) (hno:∀x∈O,Pd x=false):
  Calls Tryz.prog 84 #[v,.func (.func f) #[] caps] w fun e w'=>e= .returned v∧Below w.heap.size w w':=by
 have hI:=jh O v f caps Pd w hr hp;have HNO:=aa hno;obtain⟨a,c,rfl,-⟩:=hr;have hcall:=hp.1;clear hp hno;go_enter Tryz.func84,Tryz.ntmps84
 go_wp2_with fail
 refine hI.mono ?_
 unfold IdxPost;rintro e w1 ⟨hb1,⟨rfl,hall⟩ | ⟨k,rfl,hk,hpre,hdel⟩⟩
 ·have HB:=aa hb1
  clear hI hall hb1;go_wp2
  go_ret
  exact⟨rfl,HB.out⟩
 ·exfalso
  have h1:=hdel _ (am hk);rw[HNO.out _ (bY hk)]at h1
  cases h1
def PredDO (f:FuncId) (caps:Array Value) (Pd:Bkg→Bool) (v:Value) (w:World) (l:List Bkg):Prop:=(∀args W,(callFunc f args).run Tryz.prog W= .ok (.enter f args) W)∧
 ∀(x:Bkg) (W:World),x∈l→w.heap.size≤W.heap.size→(∀q,q<w.heap.size→v.ownBlock≠some q→W.heap[q]? =w.heap[q]?)→Calls Tryz.prog f (#[.agg #[.int .i64 x.ct,.int .i64 x.bg,.int .i64 x.en,.int .i64 x.tk]]++caps) W fun e W'=>e= .returned (.bool (Pd x))∧Below W.heap.size W W'
theorem m9 (O:List Bkg) (B:Nat) (v:Value) (f:FuncId) (caps:Array Value) (Pd:Bkg→Bool) (w:World) (ho:w.ownsRow B 53 4 v O.length (O.flatMap bkgC)) (hp:PredDO f caps Pd v w O) (hl:O.length≤1000000000000) (hB:B≤w.heap.size):
  Calls Tryz.prog 84 #[v,.func (.func f) #[] caps] w fun e w'=>(∃v',e= .returned v'∧w'.ownsRow B 53 4 v' (O.filter fun x=> !Pd x).length ((O.filter fun x=> !Pd x).flatMap bkgC)∧v'.ownBlock=v.ownBlock)∧(∀q,q<w.heap.size→v.ownBlock≠some q→w'.heap[q]? =w.heap[q]?)∧Below B w w':=by
 by_cases hex:∃x∈O,Pd x=true
 ·have hpos:0<O.length:=by
   obtain⟨x,hx,_⟩:=hex;exact List.length_pos_of_mem hx
  obtain⟨g,cap,rfl⟩:=fd ho hpos;refine(delB_any O B g cap f caps Pd w ho ⟨hp.1,fun x W hx hs hk=>hp.2 x W hx hs (fun q hq hne=>hk q hq (fun e=>hne (by rw[e];rfl)))⟩ hex hl).mono ?_
  rintro e w' ⟨rfl,h1,h2,h3⟩;exact⟨⟨_,rfl,h1,rfl⟩,fun q hq hne=>h2 q hq (fun e=>hne (by rw[e];rfl)),h3⟩
 ·have hno:∀x∈O,Pd x=false:=fun x hx=>by
   cases h:Pd x with
   | false=>rfl
   | true=>exact absurd ⟨x,hx,h⟩ hex
  have hfl:(O.filter fun x=> !Pd x)=O:=List.filter_eq_self.2 (fun x hx=>by simp[hno x hx]);refine(pY O v f caps Pd w (RRow.of_bks ho) ⟨hp.1,fun x W hx hW=>hp.2 x W hx hW.size (fun q hq _=>hW.block q hq)⟩ hno).mono ?_
  rintro e w' ⟨rfl,hb⟩;rw[hfl];exact⟨⟨_,rfl,cV ho (fun q hq=>hb.block q (ho.lt q hq).2),rfl⟩,fun q hq _=>hb.block q hq,hb.mono hB⟩
end
section
theorem idxI_any (l:List Int) (v:Int) (u:Value) (w:World) (hr:RRow intC 1 w w.heap.size u l) (hl:l.length≤100000):
  Calls Tryz.prog 131 #[u,.int .i64 v] w fun e w'=>(∃r:Int,e= .returned (.int .i64 r)∧decide (r≥0)=l.contains v)∧Below w.heap.size w w':=by
 obtain⟨a,c,rfl,h1,h2,-,h4⟩:=hr;unfold maxLen at h2;have H4:=aa h4;have hln:l.length≤9223372036854775807:=by omega
 clear h4;go_enter Tryz.func131,Tryz.ntmps131
 go_wp2_with fail
 go_loopw [8] (fun kv wr=>∃k:Nat,k≤l.length∧kv= .int .i64 (k:Int)∧Hid (∀x∈l.take k,x≠v)∧Hid (Below w.heap.size w wr)) (fun kv _=>l.length-(intOf kv).toNat)
 case atStart=>exact⟨0,aE _,rfl,aa (by simp),aa (ap _ _)⟩
 case round=>
  obtain⟨k,hk,rfl,HT,HB⟩:=hrel;have zr:w.heap.size≤wr.heap.size:=HB.out.size;have k0:(0:Int)≤(k:Int):=by omega
  by_cases hlt:k<l.length
  ·obtain⟨bb,o,rfl,hbb,hc⟩:=H4.out (by omega)
   obtain⟨x,hx⟩:∃x,l[k]? =some x:=⟨_,am hlt⟩
   have p0:wr.cell? ⟨bb,o+k,none⟩=some (.int .i64 x):=(HB.out.cell (p:=⟨bb,o+k,none⟩) hbb).trans (by have:=hc k x hx 0 _ rfl;simpa using this);have k1:(k:Int)<(l.length:Int):=by omega
   have HX:=aa hx;clear hx hc;by_cases hv:v=x
   ·have d:(v==x)=true:=by rw[beq_iff_eq];exact hv
    have HV:=aa hv;clear hv;go_wp2
    go_ret
    refine⟨⟨(k:Int),rfl,?_⟩,HB.out⟩
    rw[decide_eq_true (by omega)];have hm:=az HX.out;rw[←HV.out]at hm;exact(List.contains_iff_mem.2 hm).symm
   ·have d:(v==x)=false:=by rw[beq_eq_false_iff_ne];exact hv
    have HT2:Hid (∀y∈l.take (k+1),y≠v):=aa (fun y hy=>by
     rw[aN,HX.out]at hy;rcases aA.1 hy with hy | hy
     ·exact HT.out y hy
     ·simp at hy;rw[hy];exact fun e=>hv e.symm)
    clear hv;go_wp2
    go_roundw
    case rel=>exact⟨k+1,by omega,by go_num,HT2,HB⟩
    case measure=>simp[intOf];omega
  ·obtain rfl:k=l.length:=by omega
   go_wp2
   go_ret
   refine⟨⟨-1,rfl,?_⟩,HB.out⟩
   have hT:=HT.out;rw[aL]at hT;have:l.contains v=false:=by
    rw[Bool.eq_false_iff];intro hc;exact hT v (List.contains_iff_mem.1 hc) rfl
   rw[this];decide
theorem kB (l:List Int) (v:Int) (u:Value) (w:World) (hr:RRow intC 1 w w.heap.size u l) (hl:l.length≤100000):
  Calls Tryz.prog 86 #[u,.int .i64 v] w fun e w'=>e= .returned (.bool (l.contains v))∧Below w.heap.size w w':=by
 have HR:=aa hr;obtain⟨a,c,rfl,-⟩:=hr;go_enter Tryz.func86,Tryz.ntmps86
 go_wp2_with fail
 refine(idxI_any l v _ w HR.out hl).mono ?_
 rintro e w2 ⟨⟨r,rfl,hr2⟩,hb⟩;have HR2:=aa hr2;have HB:=aa hb;clear hr2 hb;go_wp2
 go_ret
 exact⟨by first | rfl | (rw[HR2.out];rfl) | (rw[←HR2.out];rfl),HB.out⟩
theorem nf (l:List Hp) (h:Hp) (u:Value) (w:World) (hr:RHops w u (l++[h])) (hl:l.length≤100000):
  Calls Tryz.prog 87 #[u] w fun e w'=>e= .returned (.int .i64 h.ar)∧Below w.heap.size w w':=by
 obtain⟨a,c,rfl,h1,h2,-,h4⟩:=hr;unfold maxLen at h2;have hlen:(l++[h]).length=l.length+1:=by simp
 rw[hlen]at h1 h4 ⊢;obtain⟨bb,o,rfl,hbb,hc⟩:=h4 (by omega);have p3:w.cell? ⟨bb,o+l.length*4+3,none⟩=some (.int .i64 h.ar):=hc l.length h (by simp) 3 _ rfl;have hw1:IntKind.i64.wrap (((l.length+1:Nat):Int)-1)=(l.length:Int):=by rw[ax];omega
 have k0:(0:Int)≤(l.length:Int):=by omega
 have k1:(l.length:Int)<((l.length+1:Nat):Int):=by omega
 have l63:l.length+1≤9223372036854775807:=by omega
 clear hc hlen h4;go_enter Tryz.func87,Tryz.ntmps87
 go_wp2
 go_ret
 exact⟨rfl,ap _ _⟩
end
section
theorem pZ (a b:Hp) (g:Nat) (w:World) (hg:w.heap[g]? =some (.cells #[.int .i64 a.ct,.int .i64 a.bg,.int .i64 a.en,.int .i64 a.ar] 68 (0,0))):
  Calls Tryz.prog 165 #[.agg #[.int .i64 b.ct,.int .i64 b.bg,.int .i64 b.en,.int .i64 b.ar],.pointer (some ⟨g,0,none⟩)] w fun e w'=>e= .returned (.bool (ovlH a b))∧Below w.heap.size w w':=by
 have hgl:g<w.heap.size:=(ai.1 hg).1;have HG:=aa hg;clear hg;go_enter Tryz.func165,Tryz.ntmps165
 go_upto_region 1 with fail
 obtain⟨w1,hw1⟩:=cR (w.alloc (.cells #[.int .i64 b.ct,.int .i64 b.bg,.int .i64 b.en,.int .i64 b.ar] 68))
 rw[hw1];have HB1:Hid (Below w.heap.size w w1):=aa (by rw[←hw1];exact de (ap _ _));have X1:w1.heap[w.heap.size]? =some (.cells #[.int .i64 b.ct,.int .i64 b.bg,.int .i64 b.en,.int .i64 b.ar] 68 (0,0)):=by rw[←hw1];exact cW
 have z1:w.heap.size<w1.heap.size:=(ai.1 X1).1;have cx:=fun q=>cU X1 q
 have cg:=fun q=>cU ((HB1.out.block _ hgl).trans HG.out) q
 have zg:g<w1.heap.size:=by omega
 obtain⟨p,hp⟩:=cR ((a.ct==b.ct))
 obtain⟨q,hq⟩:=cR (decide (a.bg<b.en))
 obtain⟨r,hr⟩:=cR (decide (b.bg<a.en))
 have HV:Hid (ovlH a b=((p&&q)&&r)):=aa (by unfold ovlH;rw[hp,hq,hr]);clear hw1 X1
 cases p with
 | false=>
  go_wp2
  go_ret
  rw[HV.out];exact⟨rfl,HB1.out⟩
 | true=>
  cases q with
  | false=>
   go_wp2
   go_ret
   rw[HV.out];exact⟨rfl,HB1.out⟩
  | true=>
   go_wp2
   go_ret
   rw[HV.out];exact⟨by first | rfl | (rw[hr];rfl) | (cases r<;>rfl),HB1.out⟩
theorem ovl1_any (a:Hp) (hs:List Hp) (g:Nat) (u:Value) (w:World) (hg:w.heap[g]? =some (.cells #[u] 39 (0,0))) (hr:RRow hpC 4 w w.heap.size u hs):
  Calls Tryz.prog 164 #[.agg #[.int .i64 a.ct,.int .i64 a.bg,.int .i64 a.en,.int .i64 a.ar],.pointer (some ⟨g,0,none⟩)] w fun e w'=>e= .returned (.bool (hs.any fun b=>ovlH a b))∧Below w.heap.size w w':=by
 have hgl:g<w.heap.size:=(ai.1 hg).1;have HG:=aa hg;have HR:=aa hr;obtain⟨ua,uc,rfl,-⟩:=hr;clear hg;go_enter Tryz.func164,Tryz.ntmps164
 go_upto_region 1 with fail
 obtain⟨w1,hw1⟩:=cR (w.alloc (.cells #[.int .i64 a.ct,.int .i64 a.bg,.int .i64 a.en,.int .i64 a.ar] 68))
 rw[hw1];have HB1:Hid (Below w.heap.size w w1):=aa (by rw[←hw1];exact de (ap _ _));have X1:w1.heap[w.heap.size]? =some (.cells #[.int .i64 a.ct,.int .i64 a.bg,.int .i64 a.en,.int .i64 a.ar] 68 (0,0)):=by rw[←hw1];exact cW
 have z1:w.heap.size<w1.heap.size:=(ai.1 X1).1;have HX:=aa X1;have cg:=cU ((HB1.out.block _ hgl).trans HG.out) 0;have zg:g<w1.heap.size:=by omega
 have hcall:∀args W,(callFunc 165 args).run Tryz.prog W= .ok (.enter 165 args) W:=fun _ _=>by kernel_rfl
 clear hw1 X1;go_wp2_with fail
 refine(iG hs _ 165 #[.pointer (some ⟨w.heap.size,0,none⟩)] (fun b=>ovlH a b) w1 (HR.out.below' HB1.out) ⟨hcall,fun b W _ hW=>pZ a b w.heap.size W ((hW.block _ z1).trans HX.out)⟩).mono ?_
 rintro e w2 ⟨rfl,hb2⟩;have HW:=aa (dq HB1.out hb2);clear hb2;go_wp2
 go_ret
 exact⟨rfl,HW.out⟩
end
end Go.Proofs.YtfnciigbbolckaaGreat
