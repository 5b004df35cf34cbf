/- Part 20 of the proof about mailboattop.TopOthers. No condition. -/
import Derived.Test.YtfnciigbbolckaaGreatQ00
import Derived.Test.YtfnciigbbolckaaGreatQ05
import Derived.Test.YtfnciigbbolckaaGreatQ19
set_option linter.unusedVariables false
set_option linter.unusedSimpArgs false
set_option maxRecDepth 100000
set_option maxHeartbeats 64000000
namespace Go.Proofs.YtfnciigbbolckaaGreat
open Go Go.RowKit Iv
attribute [local go_sem] Oper.semAt_some
attribute [local go_sem] pw gu B_app pv B_get B_toList
section
theorem clonB0 (w:World):Calls Tryz.prog 50 #[.slice none 0 0] w fun e w'=>e= .returned (.slice none 0 0)∧w'=w:=by
 have hq:∀W:World,(binOp .eql 33 (.slice none 0 0) (.slice none 0 0)).run Tryz.prog W= .ok (.bool true) W:=fun W=>by kernel_rfl
 go_enter Tryz.func50,Tryz.ntmps50
 go_wp2
 go_ret
 exact⟨rfl,rfl⟩
theorem pR (ts:List Tk) (t:Tk):allB (ts++[t])=allB ts++bksL t.no t.hs:=by rw[iz,fm];simp[allB]
theorem pS (cs:List Con) (ts:List Tk) (t:Tk):allH cs (ts++[t])=allH cs ts++hldsT cs t:=by rw[fD,fp];simp[allH]
theorem mX {ts:List Tk} (h:∀t∈ts,t.hs.length≤10000):(allB ts).length≤ts.length*10000:=by
 induction ts with
 | nil=>simp[allB]
 | cons t r ih=>
  rw[fm,ay,aI];have h1:=h t (by simp);have h2:=ih (fun x hx=>h x (by simp[hx]));have h3:(bksL t.no t.hs).length=t.hs.length:=by unfold bksL;rw[aZ]
  omega
theorem lE (cs:List Con) (t:Tk):(hldsT cs t).length≤t.hs.length+1:=by
 unfold hldsT;rw[ay];have:=ji cs t.q t.no t.hs t.q.src t.q.rd;unfold endH;split<;>simp<;>omega
theorem mY {cs:List Con} {ts:List Tk} (h:∀t∈ts,t.hs.length≤10000):(allH cs ts).length≤ts.length*10001:=by
 induction ts with
 | nil=>simp[allH]
 | cons t r ih=>
  rw[fp,ay,aI];have h1:=h t (by simp);have h2:=ih (fun x hx=>h x (by simp[hx]));have h3:=lE cs t;omega
structure TbL (B TB:Nat) (uq uc:Value) (lb:List Bkg) (lh:List Hld) (vb vh:Value) (W:World):Prop where
 box:W.heap[TB]? =some (.cells #[uq,uc,vb,vh] 44 (0,0))
 pb:∃M:List Bkg,M.Perm lb∧W.ownsRow B 53 4 vb M.length (M.flatMap bkgC)
 ph:W.ownsRow B 75 5 vh lh.length (lh.flatMap hldC)
theorem TbL.below {B TB:Nat} {uq uc:Value} {lb:List Bkg} {lh:List Hld} {vb vh:Value} {W W':World} (h:TbL B TB uq uc lb lh vb vh W) (k:Below W.heap.size W W'):TbL B TB uq uc lb lh vb vh W':=by
 obtain⟨M,h1,h2⟩:=h.pb;exact⟨(k.block _ (ai.1 h.box).1).trans h.box,⟨M,h1,cV h2 (fun q hq=>k.block q (h2.lt q hq).2)⟩,cV h.ph (fun q hq=>k.block q (h.ph.lt q hq).2)⟩
theorem fq (qs:List Int) (cs:List Con) (ts:List Tk) (uq uc ut:Value) (w:World) (hq:∃a k c,uq= .slice a k c) (hc:RRow conC 7 w w.heap.size uc cs) (hp:PlanOK qs cs) (ht:RTks w ut ts) (hb:∀t∈ts,WOK qs cs t) (hl:ts.length≤64) (hh:∀t∈ts,t.hs.length≤10000):
  Calls Tryz.prog 18 #[.agg #[uq,uc,.slice none 0 0,ut]] w (TabPost uq uc (allB ts) (allH cs ts) w.heap.size w):=by
 obtain⟨aq,kq,cq,rfl⟩:=hq;have HC:=aa hc;have HP:=aa hp;have HB:=aa hb;have HHL:=aa hh;obtain⟨ca,cc,rfl,-⟩:=hc;obtain⟨ps,hps,hrow,hrh⟩:=ht;have hpl:ps.length=ts.length:=by rw[hps];simp
 have HPS:=aa hps;have HRH:=aa hrh;obtain⟨a,c,rfl,h1,h2,-,h4⟩:=hrow;have H4:=aa h4;unfold maxLen at h2;have hps64:ps.length≤64:=by omega
 clear h4 hb hp hps hrh hpl hh;go_enter Tryz.func18,Tryz.ntmps18
 go_upto_region 1 with fail
 obtain⟨s0,hs0⟩:=cR w.heap.size
 have HS0:=aa hs0;obtain⟨w1,hw1⟩:=cR ((w.alloc (.cells #[.slice aq kq cq,.slice ca cs.length cc,.slice none 0 0,.slice a ps.length c] 36)).alloc (.cells #[.slice none 0 0,.slice none 0 0,.slice none 0 0,.slice none 0 0] 44))
 rw[hw1];have B1:Below w.heap.size w w1:=by rw[←hw1];exact cZ
 have X0:w1.heap[w.heap.size]? =some (.cells #[.slice aq kq cq,.slice ca cs.length cc,.slice none 0 0,.slice a ps.length c] 36 (0,0)):=by rw[←hw1];exact(ak _ _ _ (by simp)).trans cW
 have X1:w1.heap[w.heap.size+1]? =some (.cells #[.slice none 0 0,.slice none 0 0,.slice none 0 0,.slice none 0 0] 44 (0,0)):=by rw[←hw1];exact cY (by simp)
 have hsz1:w1.heap.size=w.heap.size+1+1:=by rw[←hw1];simp
 rw[hs0]at X0 X1 B1 hsz1 ⊢;have z1:s0<w1.heap.size:=by omega
 have cx0:=fun q=>cU X0 q
 have HX:=aa (cS X0 X1);have HB1:=aa B1;have HSZ:=aa hsz1;clear hw1 X0 X1 B1 hsz1 hs0;refine ei (fun V=>Below w1.heap.size w1 V) [0,1,0,1,2,0,2,3] (.go 0 (.go 1 (.go 2 (.go 3 (.br2 4 6 (.go 5 (.go 6 (.go 7 (.fin)))) (.go 4 (.go 5 (.go 7 (.fin))))))))) (by kernel_rfl) (by kernel_rfl) ?_ ?_
 case refine_1=>exact bdrew (ap _ _)
 iterate 4 (refine dG rfl (by decide) (by rfl) (fun w1 hS=>by(try(obtain⟨_,_⟩:=bcell (hS rfl)));go_simp;rfl) ?_;(try simp only[Act.put,ae,af,ag]))
 refine⟨?ga,?gb⟩
 case' ga=>
  refine ej rfl (by rfl) (fun K hK=>?_)
  go_simp
  refine(clonB0 _).mono ?_
  rintro e wc ⟨rfl,rfl⟩;refine hK _ _ (bdrew (ap _ _)) ?_
  clear hK K
  (try simp only[Act.put,ae,af,ag])
  refine dG rfl (by decide) (by rfl) (fun w1 hS=>by(try(obtain⟨_,_⟩:=bcell (hS rfl)));go_simp;rfl) ?_
  (try simp only[Act.put,ae,af,ag])
  refine dH rfl rfl (by rfl) (fun K hK=>?_)
  go_simp
  refine hK _ _ (de (bdrew (ap _ _))) ?_
  clear hK K
  (try simp only[Act.put,ae,af,ag])
 case' gb=>
  refine ej rfl (by rfl) (fun K hK=>?_)
  go_simp
  refine hK _ _ (de (bdrew (ap _ _))) ?_
  clear hK K
  (try simp only[Act.put,ae,af,ag])
  refine dH rfl rfl (by rfl) (fun K hK=>?_)
  go_simp
  refine(clonB0 _).mono ?_
  rintro e wc ⟨rfl,rfl⟩;refine hK _ _ (de (bdrew (ap _ _))) ?_
  clear hK K
  (try simp only[Act.put,ae,af,ag])
  refine dG rfl (by decide) (by rfl) (fun w1 hS=>by(try(obtain⟨_,_⟩:=bcell (hS rfl)));go_simp;rfl) ?_
  (try simp only[Act.put,ae,af,ag])
 all_goals
  obtain⟨w2,hw2⟩:=cR ((w1.alloc (.cells #[.slice none 0 0,.slice none 0 0,.slice none 0 0,.slice none 0 0] 44)).drew)
  rw[hw2];have B2:Below w1.heap.size w1 w2:=by rw[←hw2];exact bdrew (de (ap _ _))
  have X2:w2.heap[w1.heap.size]? =some (.cells #[.slice none 0 0,.slice none 0 0,.slice none 0 0,.slice none 0 0] 44 (0,0)):=by rw[←hw2];exact cW (W:=w1)
  have hsz2:w2.heap.size=w1.heap.size+1:=by rw[←hw2];simp
  have HX2:=aa X2;have HB2:=aa B2;clear hw2 X2 B2 cx0;refine ey rfl rfl (by rfl) (fun K hK=>?_)
  refine eh 44 _ _ rfl w1.heap.size #[.slice aq kq cq,.slice ca cs.length cc,.slice none 0 0,.slice none 0 0] _ 44 rfl rfl HX2.out rfl (by kernel_rfl) (by simp[Value.oneCell']) ?_
  intro w3 hW hbW hsW hoW;have HB3:Hid (Below w1.heap.size w1 w3):=aa (HB2.out.trans (hbW _ (aj _)));have hsz3:w3.heap.size=w1.heap.size+1:=by omega
  have HW:=aa hW;clear hbW hsW hoW hW;refine hK _ _ ?_
  clear hK K
  (try simp only[Act.put,ae,af,ag])
  refine fe ?_
  obtain⟨TB,hTB⟩:=cR w1.heap.size
  have HTB:Hid (s0+1<TB∧TB<w3.heap.size):=aa (by have:=HSZ.out;omega);rw[hTB];rw[hTB]at HW;have HBW3:Hid (Below s0 w w3):=aa (HB1.out.trans (HB3.out.mono (by omega)));have HL0:Hid (w3.heap[s0]? =some (.cells #[.slice aq kq cq,.slice ca cs.length cc,.slice none 0 0,.slice a ps.length c] 36 (0,0))∧w3.heap[s0+1]? =some (.cells #[.slice none 0 0,.slice none 0 0,.slice none 0 0,.slice none 0 0] 44 (0,0))):=aa (by
   have hz:=HSZ.out;have hx:=HX.out;exact⟨(HB3.out.block _ (by omega)).trans hx.1,(HB3.out.block _ (by omega)).trans hx.2⟩)
  have c3:=fun q=>cU HL0.out.1 q
  have z3:s0<w3.heap.size:=by have:=HTB.out;omega
  clear hTB hsz2 hsz3 HX HSZ HB1 HB2 HB3 HX2;go_wp2_with fail
  clear c3;go_loopw [15] (fun kv wr=>∃(k:Nat) (vb vh:Value),k≤ps.length∧kv= .int .i64 (k:Int)∧Hid (TbL w3.heap.size TB (.slice aq kq cq) (.slice ca cs.length cc) (allB (ts.take k)) (allH cs (ts.take k)) vb vh wr)∧Hid (KpB w3.heap.size [TB] w3 wr)) (fun kv _=>ps.length-(intOf kv).toNat)
  case atStart=>exact⟨0,_,_,aE _,rfl,aa ⟨HW.out,⟨[],List.Perm.refl _,aX _ _ _ _⟩,aX _ _ _ _⟩,aa (KpB.refl _ _ _)⟩
  case round=>
   obtain⟨k,vb,vh,hk,rfl,HT,HK⟩:=hrel;have zr:w3.heap.size≤wr.heap.size:=HK.out.size;have hz:=HTB.out;have HBW:Hid (Below s0 w wr):=aa (HBW3.out.trans (HK.out.below (by omega) (fun x hx=>by simp at hx;omega)));have HLr:Hid (wr.heap[s0]? =some (.cells #[.slice aq kq cq,.slice ca cs.length cc,.slice none 0 0,.slice a ps.length c] 36 (0,0))∧wr.heap[s0+1]? =some (.cells #[.slice none 0 0,.slice none 0 0,.slice none 0 0,.slice none 0 0] 44 (0,0))):=aa ⟨(HK.out.block _ (by omega) (by simp;omega)).trans HL0.out.1,(HK.out.block _ (by omega) (by simp;omega)).trans HL0.out.2⟩;have zs:s0<wr.heap.size:=by omega
   have zt:TB<wr.heap.size:=by omega
   clear hz;have k0:(0:Int)≤(k:Int):=by omega
   by_cases hlt:k<ps.length
   ·obtain⟨bb,o,rfl,hbb,hcc⟩:=H4.out (by omega)
    obtain⟨⟨t,u⟩,hx⟩:∃x,ps[k]? =some x:=⟨_,am hlt⟩
    have hru:=HRH.out (t,u) (az hx);simp only at hru;have HRU:=aa hru;obtain⟨ua,uc2,hue,-⟩:=id hru;subst hue;have hbs:bb<s0:=by rw[←HS0.out];exact hbb
    obtain⟨g0,g1,g2,g3,g4,g5,g6,g7,g8,g9,g10⟩:=(iA hcc hx).below (fun q=>HBW.out.cell (p:=⟨bb,q,none⟩) hbs);have hbr:bb<wr.heap.size:=by omega
    have k1:(k:Int)<(ps.length:Int):=by omega
    have htx:ts[k]? =some t:=by rw[HPS.out,bO,hx];rfl
    have HTS:Hid (ts.take (k+1)=ts.take k++[t]):=aa (el htx);have HTW:Hid (∀h∈t.hs,HpB cs h):=aa (HB.out t (az htx));have htl:t.hs.length≤10000:=HHL.out t (az htx);have hBl:(allB (ts.take k)).length≤640000:=by
     have h5:=mX (ts:=ts.take k) (fun x hx=>HHL.out x (List.mem_of_mem_take hx));have h6:(ts.take k).length≤64:=by rw[aS];omega
     omega
    have hHl:(allH cs (ts.take k)).length≤640064:=by
     have h5:=mY (cs:=cs) (ts:=ts.take k) (fun x hx=>HHL.out x (List.mem_of_mem_take hx));have h6:(ts.take k).length≤64:=by rw[aS];omega
     omega
    obtain⟨LB,hLB⟩:=cR (allB (ts.take k))
    obtain⟨LH,hLH⟩:=cR (allH cs (ts.take k))
    have HLL:=aa (cS hLB hLH);rw[hLB,hLH]at HT;rw[hLB]at hBl;rw[hLH]at hHl;clear hx hru hcc htx hLB hLH;go_upto_region 5 with fail
    obtain⟨w7,hw7⟩:=cR (wr.alloc (.cells #[.int .i64 t.no,.int .i64 t.q.src,.int .i64 t.q.dst,.int .i64 t.q.sz,.int .i64 t.q.rd,.int .i64 t.q.D,.int .i64 t.q.pr,.bool t.q.cu,(.slice ua t.hs.length uc2),.int .i64 t.st,.int .i64 t.un] 41))
    rw[hw7];have b7:Below wr.heap.size wr w7:=by rw[←hw7];exact de (ap _ _)
    have X7:w7.heap[wr.heap.size]? =some (.cells #[.int .i64 t.no,.int .i64 t.q.src,.int .i64 t.q.dst,.int .i64 t.q.sz,.int .i64 t.q.rd,.int .i64 t.q.D,.int .i64 t.q.pr,.bool t.q.cu,(.slice ua t.hs.length uc2),.int .i64 t.st,.int .i64 t.un] 41 (0,0)):=by rw[←hw7];exact cW
    have z7:wr.heap.size<w7.heap.size:=(ai.1 X7).1;have c7:=fun q=>cU X7 q
    have HX7:=aa X7;have HB7:=aa b7;have HT7:=aa (HT.out.below b7);have cT7:=fun q=>cU HT7.out.box q
    have zt7:TB<w7.heap.size:=by omega
    clear hw7 b7 X7 g0 g1 g2 g3 g4 g5 g6 g7 g8 g9 g10;obtain⟨M,hM1,hM2⟩:=HT7.out.pb;have hMl:M.length≤640000:=by rw[hM1.length_eq];exact hBl
    obtain⟨ba,bc,hbe⟩:=dg hM2;subst hbe;have HM:=aa (cS hM1 hM2);clear hM1 hM2;have HRU7:Hid (RHops w7.drew (.slice ua t.hs.length uc2) t.hs):=aa (by
     have h5:Below w.heap.size w w7:=by rw[HS0.out];exact HBW.out.trans (HB7.out.mono (by omega))
     exact HRU.out.below' (bdrew h5))
    obtain⟨i0,hin,hz0,hz1,hz2⟩:=info_parts jP;obtain⟨j0,jin,jz0,jz1,jz2⟩:=info_parts iF;refine dd (fun V=>Below w7.heap.size w7 V) [0,1,0,1,0,1,2,3,0,3] [0,1,2,3,4,5,6,7,8,9] (by kernel_rfl) (by kernel_rfl) ?_ ?_
    case refine_1=>exact bdrew (ap _ _)
    (iterate 6 (first | (refine cX rfl (by decide) (by rfl) (fun w1 hS=>by(try(obtain⟨_,_⟩:=bcell (hS rfl)));go_simp;rfl) ?_;simp only[Act.put,ae,af,ag]) | (refine dm rfl (by decide) (by rfl) ?_;simp only[Act.put,ae,af,ag])))
    (refine dA rfl rfl (by rfl) (fun K hK=>?_);go_simp)
    refine(jk t.hs _ t.no _ HRU7.out (by omega)).mono ?_
    unfold SortB;rintro e w8 ⟨⟨vB,Mb,rfl,hp1,-,how⟩,hb8⟩;have HB8:Hid (Below w7.heap.size w7 w8):=aa ((bdrew (ap w7.heap.size w7)).trans (hb8.mono (by simp)));have HMB:=aa (cS hp1 (dF (by decide) dL how));obtain⟨vBa,vBc,rfl⟩:=dg how;have hMbl:Mb.length≤10000:=by rw[hp1.length_eq];unfold bksL;rw[aZ];exact htl
    have HT8:=aa (HT7.out.below HB8.out);have HM8:Hid (w8.ownsRow w3.heap.size 53 4 (.slice ba M.length bc) M.length (M.flatMap bkgC)):=aa (cV HM.out.2 (fun q hq=>HB8.out.block q (HM.out.2.lt q hq).2));have z8:w7.heap.size≤w8.heap.size:=HB8.out.size;clear hp1 how hb8;refine hK _ _ HB8.out ?_
    clear hK K
    (try simp only[Act.put,ae,af,ag])
    refine di rfl rfl (by rfl) (fun K hK=>?_)
    refine iM bkgC 4 (by decide) dL _ _ 33 53 rfl i0 _ 32 bU hin hz0 hz1 hz2 rfl w3.heap.size (.slice ba M.length bc) M.length (M.flatMap bkgC) rfl HM8.out (.slice vBa Mb.length vBc) Mb rfl HMB.out.2 (eF gD Mb) (by omega) (by omega) (by omega) ?_
    intro v9 w9 ho9 hg9 hat9;obtain⟨v9a,v9c,rfl⟩:=dg ho9;have HK9:Hid (KpO TB (Value.slice ba M.length bc).ownBlock w8 w9):=aa (KpO.grown hg9);have hlow:∀b,b<w3.heap.size→w9.heap[b]? =w8.heap[b]?:=fun b hb=>dw hg9 (by omega) (fun e=>by have:=(HM8.out.lt b e).1;omega)
    have HTX9:Hid (w9.heap[TB]? =some (.cells #[.slice aq kq cq,.slice ca cs.length cc,.slice ba M.length bc,vh] 44 (0,0))):=aa ((hlow TB HTB.out.2).trans HT8.out.box);have HX9:Hid (w9.heap[wr.heap.size]? =some (.cells #[.int .i64 t.no,.int .i64 t.q.src,.int .i64 t.q.dst,.int .i64 t.q.sz,.int .i64 t.q.rd,.int .i64 t.q.D,.int .i64 t.q.pr,.bool t.q.cu,(.slice ua t.hs.length uc2),.int .i64 t.st,.int .i64 t.un] 41 (0,0))):=aa ((dw hg9 (by omega) (fun e=>absurd (fE HM8.out e ((HB8.out.block _ z7).trans HX7.out)) (by decide))).trans ((HB8.out.block _ z7).trans HX7.out));have HH9:Hid (w9.ownsRow w3.heap.size 75 5 vh LH.length (LH.flatMap hldC)):=aa (cV HT8.out.ph (fun q hq=>dw hg9 (HT8.out.ph.lt q hq).2 (fT HT8.out.ph HM8.out (by decide) hq)));have HO9:=aa ho9;have z9:w8.heap.size≤w9.heap.size:=hg9.size;have cT9:=fun q=>cU HTX9.out q
    have fT9:=fun q=>dC HTX9.out q
    have zt9:TB<w9.heap.size:=by omega
    have HKA:Hid (KpB w3.heap.size [TB] w3 w9):=aa (((HK.out.trans (KpB.of HB7.out zr)).trans (KpB.of HB8.out (by omega))).trans (HK9.out.toB (fun b hb=>(HM8.out.lt b hb).1) (by simp) (by omega)));clear ho9 hg9 hat9 hlow;refine hK _ _ ?_
    clear hK K cT7 c7
    (try simp only[Act.put,ae,af,ag])
    (iterate 1 (first | (refine cX rfl (by decide) (by rfl) (fun w1 hS=>by(try(obtain⟨_,_⟩:=bcell (hS rfl)));go_simp;rfl) ?_;simp only[Act.put,ae,af,ag]) | (refine dm rfl (by decide) (by rfl) ?_;simp only[Act.put,ae,af,ag])))
    (refine di rfl rfl (by rfl) (fun K hK=>?_);go_simp)
    obtain⟨w10,hw10⟩:=cR (w9.setCell ⟨TB,2,none⟩ (.slice v9a (M.length+Mb.length) v9c))
    rw[hw10];have hne10:∀q,q≠TB→w10.heap[q]? =w9.heap[q]?:=fun q h1=>by rw[←hw10];exact heap_setCell_other w9 ⟨TB,2,none⟩ q _ h1
    have HL10:Hid (TbL w3.heap.size TB (.slice aq kq cq) (.slice ca cs.length cc) (LB++bksL t.no t.hs) LH (.slice v9a (M.length+Mb.length) v9c) vh w10):=aa (by
     refine⟨by rw[←hw10];exact eD HTX9.out 2 _,⟨M++Mb,HM.out.1.append HMB.out.1,?_⟩,cV HH9.out (fun q hq=>hne10 q (fun e=>by have:=(HH9.out.lt q hq).1;have:=HTB.out;omega))⟩
     rw[ay,aV];exact cV HO9.out (fun q hq=>hne10 q (fun e=>by have:=(HO9.out.lt q hq).1;have:=HTB.out;omega)))
    have HK10:Hid (KpB w3.heap.size [TB] w3 w10):=aa (by rw[←hw10];exact HKA.out.trans (KpB.set w9 _ (by simp)));have HX10:Hid (w10.heap[wr.heap.size]? =some (.cells #[.int .i64 t.no,.int .i64 t.q.src,.int .i64 t.q.dst,.int .i64 t.q.sz,.int .i64 t.q.rd,.int .i64 t.q.D,.int .i64 t.q.pr,.bool t.q.cu,(.slice ua t.hs.length uc2),.int .i64 t.st,.int .i64 t.un] 41 (0,0))):=aa ((hne10 _ (by have:=HTB.out;omega)).trans HX9.out);have z10:w9.heap.size=w10.heap.size:=by rw[←hw10];simp
    clear hw10 hne10 cT9 fT9 zt9 HKA HTX9 HX9 HH9 HO9 HK9
    (refine hK _ _ ?_;clear hK K;(try simp only[Act.put,ae,af,ag]))
    refine du ?_
    have cx10:=fun q=>cU HX10.out q
    have cT10:=fun q=>cU HL10.out.box q
    have zx10:wr.heap.size<w10.heap.size:=by omega
    have zt10:TB<w10.heap.size:=by omega
    obtain⟨ha,hc,hhe⟩:=dg HL10.out.ph;have HHE:=aa hhe;rw[hhe]at HL10;subst hhe;have cT10:=fun q=>cU HL10.out.box q
    have HBW10:Hid (Below s0 w w10):=aa (HBW3.out.trans (HK10.out.below (by have:=HTB.out;omega) (fun x hx=>by have:=HTB.out;simp at hx;omega)));have HLX10:Hid (w10.heap[s0]? =some (.cells #[.slice aq kq cq,.slice ca cs.length cc,.slice none 0 0,.slice (some ⟨bb,o,none⟩) ps.length c] 36 (0,0))):=aa ((HK10.out.block _ (by have:=HTB.out;omega) (by have:=HTB.out;simp;omega)).trans HL0.out.1);have cL10:=fun q=>cU HLX10.out q
    have zs10:s0<w10.heap.size:=by omega
    have hcl:Below w.heap.size w w10.drew:=by rw[HS0.out];exact bdrew HBW10.out
    have HRU10:Hid (RHops w10.drew (.slice ua t.hs.length uc2) t.hs∧RRow conC 7 w10.drew w10.drew.heap.size (.slice ca cs.length cc) cs):=aa ⟨HRU.out.below' hcl,HC.out.below' hcl⟩;clear hcl;go_upto_region 6 with fail
    refine dd (fun V=>Below w10.heap.size w10 V) [0,1,0,1,0,1,0,1,0,1,0,1,2,3,0,3] [0,1,2,3,4,5,6,7,8,9,10,11,12,13,14,15] (by kernel_rfl) (by kernel_rfl) ?_ ?_
    case refine_1=>exact bdrew (ap _ _)
    (iterate 12 (first | (refine cX rfl (by decide) (by rfl) (fun w1 hS=>by(try(obtain⟨_,_⟩:=bcell (hS rfl)));go_simp;rfl) ?_;simp only[Act.put,ae,af,ag]) | (refine dm rfl (by decide) (by rfl) ?_;simp only[Act.put,ae,af,ag])))
    (refine dA rfl rfl (by rfl) (fun K hK=>?_);go_simp)
    refine(nZ qs cs _ _ _ t.q t.hs t.no t.un _ ⟨_,_,_,rfl⟩ HRU10.out.2 HP.out HRU10.out.1 HTW.out htl).mono ?_
    unfold OwnPost;rintro e w11 ⟨⟨vH,rfl,how⟩,hb11⟩;have HB11:Hid (Below w10.heap.size w10 w11):=aa ((bdrew (ap w10.heap.size w10)).trans (hb11.mono (by simp)));obtain⟨LT,hLT⟩:=cR (holdS cs t.q t.no t.un t.hs)
    have hLTl:LT.length≤10001:=by
     have h5:=lE cs t;have h6:hldsT cs t=LT:=hLT;rw[h6]at h5;omega
    have HLT:Hid (hldsT cs t=LT):=aa hLT;rw[hLT]at how;have HMB:=aa (dF (by decide) dO how);obtain⟨vHa,vHc,rfl⟩:=dg how;have HT11:=aa (HL10.out.below HB11.out);have z11:w10.heap.size≤w11.heap.size:=HB11.out.size;clear how hb11 hLT;refine hK _ _ HB11.out ?_
    clear hK K
    (try simp only[Act.put,ae,af,ag])
    refine di rfl rfl (by rfl) (fun K hK=>?_)
    refine iM hldC 5 (by decide) dO _ _ 42 75 rfl j0 _ 40 bV jin jz0 jz1 jz2 rfl w3.heap.size (.slice ha LH.length hc) LH.length (LH.flatMap hldC) rfl HT11.out.ph (.slice vHa LT.length vHc) LT rfl HMB.out (eF gd LT) (by omega) (by omega) (by omega) ?_
    intro v12 w12 ho12 hg12 hat12;obtain⟨v12a,v12c,rfl⟩:=dg ho12;have hown:∀b,(Value.slice ha LH.length hc).ownBlock=some b→w3.heap.size≤b:=fun b hb=>(HT11.out.ph.lt b hb).1
    have HK12:Hid (KpO TB (Value.slice ha LH.length hc).ownBlock w11 w12):=aa (KpO.grown hg12);have HTX12:Hid (w12.heap[TB]? =some (.cells #[.slice aq kq cq,.slice ca cs.length cc,.slice v9a (M.length+Mb.length) v9c,.slice ha LH.length hc] 44 (0,0))):=aa ((dw hg12 (by omega) (fun e=>by have:=hown TB e;have:=HTB.out;omega)).trans HT11.out.box);have HP12:Hid (∃M':List Bkg,M'.Perm (LB++bksL t.no t.hs)∧w12.ownsRow w3.heap.size 53 4 (.slice v9a (M.length+Mb.length) v9c) M'.length (M'.flatMap bkgC)):=aa (by
     obtain⟨M',h5,h6⟩:=HT11.out.pb;exact⟨M',h5,cV h6 (fun q hq=>dw hg12 (h6.lt q hq).2 (fT h6 HT11.out.ph (by decide) hq))⟩)
    have HO12:=aa ho12;have z12:w11.heap.size≤w12.heap.size:=hg12.size;have cT12:=fun q=>cU HTX12.out q
    have fT12:=fun q=>dC HTX12.out q
    have zt12:TB<w12.heap.size:=by omega
    have HKA:Hid (KpB w3.heap.size [TB] w3 w12):=aa ((HK10.out.trans (KpB.of HB11.out (by omega))).trans (HK12.out.toB hown (by simp) (by omega)));clear ho12 hg12 hat12 hown cT10 cL10 cx10;refine hK _ _ ?_
    clear hK K
    (try simp only[Act.put,ae,af,ag])
    (iterate 1 (first | (refine cX rfl (by decide) (by rfl) (fun w1 hS=>by(try(obtain⟨_,_⟩:=bcell (hS rfl)));go_simp;rfl) ?_;simp only[Act.put,ae,af,ag]) | (refine dm rfl (by decide) (by rfl) ?_;simp only[Act.put,ae,af,ag])))
    (refine di rfl rfl (by rfl) (fun K hK=>?_);go_simp)
    obtain⟨w13,hw13⟩:=cR (w12.setCell ⟨TB,3,none⟩ (.slice v12a (LH.length+LT.length) v12c))
    rw[hw13];have hne13:∀q,q≠TB→w13.heap[q]? =w12.heap[q]?:=fun q h1=>by rw[←hw13];exact heap_setCell_other w12 ⟨TB,3,none⟩ q _ h1
    have HL13:Hid (TbL w3.heap.size TB (.slice aq kq cq) (.slice ca cs.length cc) (LB++bksL t.no t.hs) (LH++LT) (.slice v9a (M.length+Mb.length) v9c) (.slice v12a (LH.length+LT.length) v12c) w13):=aa (by
     obtain⟨M',h5,h6⟩:=HP12.out;refine⟨by rw[←hw13];exact eD HTX12.out 3 _,⟨M',h5,cV h6 (fun q hq=>hne13 q (fun e=>by have:=(h6.lt q hq).1;have:=HTB.out;omega))⟩,?_⟩
     rw[ay,aV];exact cV HO12.out (fun q hq=>hne13 q (fun e=>by have:=(HO12.out.lt q hq).1;have:=HTB.out;omega)))
    have HK13:Hid (KpB w3.heap.size [TB] w3 w13):=aa (by rw[←hw13];exact HKA.out.trans (KpB.set w12 _ (by simp)));clear hw13 hne13 cT12 fT12 zt12 HKA HTX12 HP12 HO12 HK12
    (refine hK _ _ ?_;clear hK K;(try simp only[Act.put,ae,af,ag]))
    refine du ?_
    go_wp2
    go_roundw
    case rel=>exact⟨k+1,_,_,by omega,by go_num,aa (by
     rw[HTS.out,pR,pS,HLL.out.1,HLL.out.2,HLT.out];exact HL13.out),HK13⟩
    case measure=>simp[intOf];omega
   ·obtain rfl:k=ps.length:=by omega
    have hE:ts.take ps.length=ts:=by rw[HPS.out,bM (by simp)]
    rw[hE]at HT;obtain⟨M,hM1,hM2⟩:=HT.out.pb;obtain⟨ba,bc,rfl⟩:=dg hM2;obtain⟨ha,hc,rfl⟩:=dg HT.out.ph;have cT:=fun q=>cU HT.out.box q
    have hMl:M.length≤640000:=by
     have h5:=mX HHL.out;have h6:ts.length≤64:=hl;rw[hM1.length_eq];omega
    have hHl:(allH cs ts).length≤640064:=by
     have h5:=mY (cs:=cs) HHL.out;have h6:ts.length≤64:=hl;omega
    have HM:=aa (cS hM1 hM2);obtain⟨LH,hLH⟩:=cR (allH cs ts)
    have HLH:=aa hLH;have HPH:=aa HT.out.ph;rw[hLH]at HPH hHl cT;clear hM1 hM2 hE hLH;have zz:w3.heap.size≤wr.heap.size:=zr;go_wp2_with fail
    refine(n5 (.slice aq kq cq) (.slice ca cs.length cc) _ _ M LH w3.heap.size _ ⟨_,_,_,rfl⟩ ⟨_,_,_,rfl⟩ ⟨HM.out.2,HPH.out⟩ zz (by omega) (by omega)).mono ?_
    unfold TabPost;rintro e w5 ⟨⟨vb5,vh5,B5,H5,rfl,k1,k2,k3,k4,k5⟩,hb5⟩;obtain⟨b5a,b5c,rfl⟩:=dg k5.b;obtain⟨h5a,h5c,rfl⟩:=dg k5.h;have HR5:=aa (cS k1 (cS k2 (cS k3 (cS k4 k5))));have HB5:=aa hb5;have hz:=HTB.out;have Y1:=aa ((hb5.block (s0+1) (by omega)).trans HLr.out.2);have HBW5:Hid (Below s0 w w5):=aa (HBW.out.trans (hb5.mono (by omega)));clear k1 k2 k3 k4 k5 hb5 hz cT;go_wp2_with (refine dv rfl 44 _ _ rfl (s0+1) #[.slice aq kq cq,.slice ca cs.length cc,.slice b5a B5.length b5c,.slice h5a H5.length h5c] _ 44 rfl rfl Y1.out rfl (by kernel_rfl) (by simp[Value.oneCell']) ?_;intro wF hW hbW hsW hoW;have HBF:Hid (Below s0 w wF):=aa (HBW5.out.trans (hbW _ (by omega)));have HOF:=aa (cS hoW hsW);have zF:s0+1<wF.heap.size:=(ai.1 hW).1;have cF:=fun o=>cU hW o;clear hW hbW hsW hoW)
    refine bodyPost_ret (v:=.agg #[.slice aq kq cq,.slice ca cs.length cc,.slice b5a B5.length b5c,.slice h5a H5.length h5c]) (by simp[results,Tryz.results18,go_sem,aP,cF,zF]) rfl ?_
    obtain⟨k1,k2,k3,k4,k5⟩:=HR5.out;refine⟨⟨_,_,B5,H5,rfl,k1.trans HM.out.1,k2,by rw[HLH.out];exact k3,k4,⟨jW (cV k5.b (fun q hq=>HOF.out.1 q (fun e=>?_))) ?_,jW (cV k5.h (fun q hq=>HOF.out.1 q (fun e=>?_))) ?_⟩⟩,by rw[HS0.out];exact HBF.out⟩
    ·have:=(k5.b.lt q hq).1;have:=HTB.out;omega
    ·rw[HS0.out];have:=HTB.out;omega
    ·have:=(k5.h.lt q hq).1;have:=HTB.out;omega
    ·rw[HS0.out];have:=HTB.out;omega
end
section
abbrev Mv:=Lbl×(Int×Int×Int×Int)
def mvC (m:Mv):Array Value:=#[.int .i64 m.1.nd,.int .i64 m.1.fr,.int .i64 m.1.tt,.int .i64 m.1.tm,.int .i64 m.2.1,.int .i64 m.2.2.1,.int .i64 m.2.2.2.1,.int .i64 m.2.2.2.2]
def mvOK (g:Gp) (x:Lbl) (c:Con) (room:Sp) (e a:Int):Prop:=leaveS g.cu e c.rg≤x.tt∧a≤g.D∧(c.tt=g.dst∨a<room.2)
instance (g:Gp) (x:Lbl) (c:Con) (room:Sp) (e a:Int):Decidable (mvOK g x c room e a):=by unfold mvOK;exact inferInstance
def conA (g:Gp) (i:Nat):Con:=g.cs.getD i ⟨0,0,0,0,0,0,0⟩
def gapA (g:Gp) (i:Nat):List Sp:=g.G.getD i []
def durA (g:Gp) (i:Nat):Int:=g.Ds.getD i 0
def moveOf (g:Gp) (x:Lbl) (i:Nat) (room:Sp):Option Mv:=
 match hopG (gapA g i) (durA g i) (max x.tm room.1)with
 | none=>none
 | some b=>if mvOK g x (conA g i) room (b+durA g i) (b+durA g i+(conA g i).rg)then some (⟨(conA g i).tt,room.1,room.2,b+durA g i+(conA g i).rg⟩,((i:Int),b,b+durA g i,b+durA g i+(conA g i).rg))else none
def roomsA (g:Gp) (i:Nat):List Sp:=roomsP g (conA g i).tt.toNat
def movesI (g:Gp) (x:Lbl) (i:Nat):List Mv:=if(conA g i).fr=x.nd then(roomsA g i).filterMap (moveOf g x i)else[]
def movesP (g:Gp) (x:Lbl) (n:Nat):List Mv:=(List.range n).flatMap (movesI g x)
def movesL (g:Gp) (x:Lbl):List Mv:=movesP g x g.cs.length
theorem fV (g:Gp) (x:Lbl) (n:Nat):movesP g x (n+1)=movesP g x n++movesI g x n:=by
 unfold movesP;rw[List.range_succ,aV];simp
theorem ks (g:Gp) (x:Lbl) {n:Nat} (hn:n+1≤g.cs.length):∃r,movesL g x=movesP g x n++movesI g x n++r:=by
 unfold movesL;obtain⟨k,hk⟩:∃k,g.cs.length=n+1+k:=⟨g.cs.length-(n+1),by omega⟩
 rw[hk,←fV];clear hk hn;induction k with
 | zero=>exact⟨[],by simp⟩
 | succ k ih=>
  obtain⟨r,hr⟩:=ih;exact⟨r++movesI g x (n+1+k),by rw[show n+1+(k+1)=n+1+k+1 by omega,fV,hr,aY]⟩
theorem kt (g:Gp) (x:Lbl) (i k:Nat) {r:Sp} (hk:(roomsA g i)[k]? =some r):((roomsA g i).take (k+1)).filterMap (moveOf g x i)=((roomsA g i).take k).filterMap (moveOf g x i)++(moveOf g x i r).toList:=by
 rw[aN,hk,List.filterMap_append];congr 1
theorem lF (g:Gp) (x:Lbl) (i k:Nat) {r:Sp} {m:Mv} (hf:(conA g i).fr=x.nd) (hk:(roomsA g i)[k]? =some r) (hm:moveOf g x i r=some m):∃r',movesI g x i=((roomsA g i).take k).filterMap (moveOf g x i)++[m]++r':=by
 refine⟨((roomsA g i).drop (k+1)).filterMap (moveOf g x i),?_⟩
 have h:=kt g x i k hk;rw[hm]at h;unfold movesI;rw[if_pos hf];conv=>lhs;rw[←bP (k+1) (roomsA g i),List.filterMap_append,h]
 rfl
def Prot (B z1 z2 q:Nat) (e:TypeId):Prop:=q<B∨q=z1∨q=z2∨e=86∨e=95∨e=68
def KpP (B z1 z2:Nat) (w w':World):Prop:=w.heap.size≤w'.heap.size∧∀(q:Nat) (cs:Array Value) (e:TypeId) (f:Nat×Nat),w.heap[q]? =some (Obj.cells cs e f)→Prot B z1 z2 q e→w'.heap[q]? =some (.cells cs e f)
theorem KpP.refl (B z1 z2:Nat) (w:World):KpP B z1 z2 w w:=⟨aj _,fun _ _ _ _ h _=>h⟩
theorem KpP.trans {B z1 z2:Nat} {a b c:World} (h:KpP B z1 z2 a b) (k:KpP B z1 z2 b c):KpP B z1 z2 a c:=⟨aK h.1 k.1,fun q cs e f hq hp=>k.2 q cs e f (h.2 q cs e f hq hp) hp⟩
theorem KpP.of {B z1 z2:Nat} {w w':World} (h:CK w w'):KpP B z1 z2 w w':=⟨h.1,fun q cs e f hq _=>h.2 q cs e f hq⟩
theorem KpP.putObj {B z1 z2:Nat} (W:World) (l:Nat) {o:Obj} (o':Obj) (h:W.heap[l]? =some o) (hc:o.isCells=false):KpP B z1 z2 W (W.putObj l o'):=⟨(grownBy_putObj' W l o').size,fun q cs e f hq _=>by
 refine((grownBy_putObj' W l o').block q (ai.1 hq).1 (fun e'=>?_)).trans hq
 injection e' with e'
 subst e';rw[h]at hq;injection hq with hq
 subst hq
 cases hc⟩
theorem CK.kpp {B z1 z2:Nat} {w0 a b:World} (h:CK w0 a) (k:KpP B z1 z2 a b) (hB:w0.heap.size≤B):CK w0 b:=⟨aK h.1 k.1,fun q cs e f hq=>k.2 q cs e f (h.2 q cs e f hq) (.inl (aO (ai.1 hq).1 hB))⟩
end
end Go.Proofs.YtfnciigbbolckaaGreat
