/- Part 31 of the proof about mailboattop.TopOthers. No condition. -/
import Derived.Test.YtfnciigbbolckaaGreatQ00
import Derived.Test.YtfnciigbbolckaaGreatQ06
import Derived.Test.YtfnciigbbolckaaGreatQ12
import Derived.Test.YtfnciigbbolckaaGreatQ24
import Derived.Test.YtfnciigbbolckaaGreatQ29
import Derived.Test.YtfnciigbbolckaaGreatQ30
set_option linter.unusedVariables false
set_option linter.unusedSimpArgs false
set_option maxRecDepth 100000
set_option maxHeartbeats 64000000
namespace Go.Proofs.YtfnciigbbolckaaGreat
open Go Go.RowKit Iv
attribute [local go_sem] Oper.semAt_some
attribute [local go_sem] pw gu B_app pv B_get B_toList
section
theorem eY {A B:World} {o:Obj} (h:A.alloc o=B):∃g,A.heap.size=g∧B.heap[g]? =some o∧Below A.heap.size A B:=by
 subst h;exact⟨_,rfl,cW,de (ap _ _)⟩
theorem nD {P:Program} {ops:Array Oper} {Q:Exit→Act→World→Prop} {S:World→Prop} {kd:List Nat} {i j:Nat} {t u:PT} {a:Act} {w:World} (h1:wpOp P ops Q i (fun a' w'=>S w'∧wpTree P ops Q S kd t a' w') a w) (h2:wpOp P ops Q j (fun a' w'=>S w'∧wpTree P ops Q S kd u a' w') a w):wpTree P ops Q S kd (.br2 i j t u) a w:=⟨h1,h2⟩
def BuildPost (qs:List Int) (cs:List Con) (l:List Bkg) (hs:List Hld) (src dst:Int) (s:Nat) (rd D pr:Int) (cu:Bool) (w:World) (e:Ending) (w':World):Prop:=
 ((∃(R:List (List Sp)) (gB:Nat),e= .returned (.tuple #[.pointer (some ⟨gB,0,none⟩),.bool true])∧RoomsOK qs qs hs (s:Int) R∧Gr w' gB (gOf cs l R src dst s rd D pr cu))∨(¬HkOK qs hs∧e= .returned (.tuple #[.pointer none,.bool false])))∧Below w.heap.size w w'
theorem jq (qs:List Int) (cs:List Con) (l:List Bkg) (hs:List Hld) (src dst:Int) (s:Nat) (rd D pr:Int) (cu:Bool) (uq uc ub uh:Value) (w:World) (hq:RRow intC 1 w w.heap.size uq qs) (hc:RRow conC 7 w w.heap.size uc cs) (hl:RRow bkgC 4 w w.heap.size ub l) (hh:RRow hldC 5 w w.heap.size uh hs)
  (hp:PlanOK qs cs) (hb:BkOK cs l) (hr:ReqOK qs.length src dst (s:Int) rd D pr):
  Calls Tryz.prog 76 #[.agg #[uq,uc,ub,uh],.agg #[.int .i64 src,.int .i64 dst,.int .i64 (s:Int),.int .i64 rd,.int .i64 D,.int .i64 pr,.bool cu]] w (BuildPost qs cs l hs src dst s rd D pr cu w):=by
 have HQ:=aa hq;have HC:=aa hc;have HL:=aa hl;have HH:=aa hh;have HP:=aa hp;have HB:=aa hb;have HR:=aa hr;have s1:1≤s:=by have:=hr.2.2.1.1;omega
 have s2:s≤65536:=by have:=hr.2.2.1.2.1;omega
 have hc64:cs.length≤64:=hp.1.2.2;have hq16:qs.length≤16:=hp.1.2.1;have hb512:=hb.1;obtain⟨aq,cq,rfl,q1,q2,q3,q4⟩:=hq;obtain⟨ac,cc,rfl,c1,c2,c3,c4⟩:=hc;obtain⟨al,cl,rfl,-⟩:=hl;obtain⟨ah,ch,rfl,-⟩:=hh;unfold maxLen at c2 q2;have HC4:=aa c4;clear c3 c4 q3 q4 hp hb hr;unfold BuildPost;go_enter Tryz.func76,Tryz.ntmps76
 go_upto_region 1 with fail
 obtain⟨w1,hw1⟩:=cR ((w.alloc (.cells #[.slice aq qs.length cq,.slice ac cs.length cc,.slice al l.length cl,.slice ah hs.length ch] 44)).alloc (.cells #[.int .i64 src,.int .i64 dst,.int .i64 (s:Int),.int .i64 rd,.int .i64 D,.int .i64 pr,.bool cu] 38))
 rw[hw1];have hb1:Below w.heap.size w w1:=by rw[←hw1];exact cZ
 have X0:w1.heap[w.heap.size]? =some (.cells #[.slice aq qs.length cq,.slice ac cs.length cc,.slice al l.length cl,.slice ah hs.length ch] 44 (0,0)):=by rw[←hw1];exact(ak _ _ _ (by simp)).trans cW
 have X1:w1.heap[w.heap.size+1]? =some (.cells #[.int .i64 src,.int .i64 dst,.int .i64 (s:Int),.int .i64 rd,.int .i64 D,.int .i64 pr,.bool cu] 38 (0,0)):=by rw[←hw1];exact cY (by simp)
 have z1:w.heap.size+1<w1.heap.size:=(ai.1 X1).1;clear hw1;have HB1:=aa hb1;have HX0:=aa X0;have HX1:=aa X1;have c0:=fun q=>cU X0 q
 have c1_:=fun q=>cU X1 q
 clear X0 X1 hb1;go_wp2_with fail
 refine(gJ qs cs l hs _ _ _ _ _ (HQ.out.below' HB1.out) (HC.out.below' HB1.out) (HL.out.below' HB1.out) (HH.out.below' HB1.out)).mono ?_
 unfold CtPost;rintro e w2 ⟨⟨r,rfl,hr2⟩,hb2⟩;have HB2:=aa (dq HB1.out hb2);have HX0':=aa ((hb2.block _ (by omega)).trans HX0.out);have HX1':=aa ((hb2.block _ z1).trans HX1.out);have z2:w.heap.size+1<w2.heap.size:=by have:=hb2.size;omega
 have HR2:=aa hr2;clear hb2 hr2 c0 c1_ HX0 HX1;have c0:=fun q=>cU HX0'.out q
 have c1_:=fun q=>cU HX1'.out q
 by_cases zr:r=0
 case neg=>
  have d0:(r != 0)=true:=by simpa using zr
  have HNE:Hid (¬HkOK qs hs):=aa (fun h=>zr (HR2.out.2 ⟨HP.out,HB.out,h⟩));clear zr;go_wp2
  refine bodyPost_ret (results_tmp2 rfl _ _ _) rfl ?_
  exact⟨.inr ⟨HNE.out,rfl⟩,HB2.out⟩
 subst zr;clear HR2;go_wp2_with fail
 refine(fC qs cs _ _ src dst (s:Int) rd D pr cu _ (HQ.out.below' HB2.out) (HC.out.below' HB2.out)).mono ?_
 unfold CrPost;rintro e w3 ⟨⟨r,rfl,-,hr2⟩,hb3⟩;obtain rfl:=hr2 HP.out HR.out;have HB3:=aa (dq HB2.out hb3);have HX0:=aa ((hb3.block _ (by omega)).trans HX0'.out);have HX1:=aa ((hb3.block _ z2).trans HX1'.out);have z3:w.heap.size+1<w3.heap.size:=by have:=hb3.size;omega
 clear hb3 hr2 c0 c1_ HX0' HX1';have c0:=fun q=>cU HX0.out q
 have c1_:=fun q=>cU HX1.out q
 go_upto_region 4 with fail
 obtain⟨wZ,hwZ⟩:=cR (w3.alloc (.cells #[.slice aq qs.length cq,.slice ac cs.length cc,.slice al l.length cl,.slice ah hs.length ch,.int .i64 src,.int .i64 dst,.int .i64 (s:Int),.int .i64 rd,.int .i64 D,.int .i64 pr,.bool cu,.slice none 0 0,.slice none 0 0,.slice none 0 0] 196))
 rw[hwZ];obtain⟨gB,hgB,hgn,hbZ⟩:=eY hwZ;rw[hgB]at hbZ z3 ⊢;have HBZ:Hid (Below w.heap.size w wZ):=aa (HB3.out.trans (hbZ.mono (by omega)));have HX0Z:=aa ((hbZ.block w.heap.size (by omega)).trans HX0.out);have HX1Z:=aa ((hbZ.block (w.heap.size+1) z3).trans HX1.out);have zZ:gB<wZ.heap.size:=(ai.1 hgn).1;have HL0:Hid (L1 wZ w.heap.size gB [] [] (fun a b=>#[.slice aq qs.length cq,.slice ac cs.length cc,.slice al l.length cl,.slice ah hs.length ch,.int .i64 src,.int .i64 dst,.int .i64 (s:Int),.int .i64 rd,.int .i64 D,.int .i64 pr,.bool cu,a,.slice none 0 0,b]) (.slice none 0 0) (.slice none 0 0) [] wZ):=aa ⟨hgn,iu,iu,fun i v l h=>by simp at h,fun _ _=>rfl,ap _ _⟩;clear hwZ hgB hgn hbZ c0 c1_;have c0:=fun q=>cU HX0Z.out q
 have c1_:=fun q=>cU HX1Z.out q
 obtain⟨G,hG⟩:=cR (gapsL cs l)
 have hGl:G.length=cs.length:=by rw[←hG];exact jo _ _
 obtain⟨Ds,hDs⟩:=cR (cs.map (fun c=>durS c s))
 have HGl:=aa hGl;have HG:=aa hG;have HDs:=aa hDs;have HDl:Hid (Ds.length=cs.length):=aa (by rw[←hDs];simp);clear hG hDs hGl;go_wp2_with fail
 clear c0 c1_;go_loopw [34] (fun kv wr=>∃(k:Nat) (ug ud:Value) (vals:List Value),k≤cs.length∧kv= .int .i64 (k:Int)∧Hid (L1 wZ w.heap.size gB (G.take k) (Ds.take k) (fun a b=>#[.slice aq qs.length cq,.slice ac cs.length cc,.slice al l.length cl,.slice ah hs.length ch,.int .i64 src,.int .i64 dst,.int .i64 (s:Int),.int .i64 rd,.int .i64 D,.int .i64 pr,.bool cu,a,.slice none 0 0,b]) ug ud vals wr)) (fun kv _=>cs.length-(intOf kv).toNat)
 case atStart=>exact⟨0,_,_,[],aE _,rfl,HL0⟩
 case round=>
  obtain⟨k,ug,ud,vals,hk,rfl,HLL⟩:=hrel;have zr:gB<wr.heap.size:=HLL.out.lt;have HBr:Hid (Below w.heap.size w wr):=aa (HBZ.out.trans HLL.out.bel);have cr0:=fun q=>cU ((HLL.out.keep w.heap.size (by omega)).trans HX0Z.out) q
  have cr1:=fun q=>cU ((HLL.out.keep (w.heap.size+1) (by omega)).trans HX1Z.out) q
  by_cases hlt:k<cs.length
  ·have k0:(0:Int)≤(k:Int):=by omega
   have k1:(k:Int)<(cs.length:Int):=by omega
   obtain⟨c,hcx⟩:∃x,cs[k]? =some x:=⟨_,am hlt⟩
   obtain⟨bb,o,e2,hbb,hcell⟩:=HC4.out (by omega);subst e2;have p0:wr.cell? ⟨bb,o+k*7,none⟩=some (.int .i64 c.fr):=(HBr.out.cell (p:=⟨bb,o+k*7,none⟩) hbb).trans (hcell k c hcx 0 _ rfl);have p1:wr.cell? ⟨bb,o+k*7+1,none⟩=some (.int .i64 c.tt):=(HBr.out.cell (p:=⟨bb,o+k*7+1,none⟩) hbb).trans (hcell k c hcx 1 _ rfl);have p2:wr.cell? ⟨bb,o+k*7+2,none⟩=some (.int .i64 c.st):=(HBr.out.cell (p:=⟨bb,o+k*7+2,none⟩) hbb).trans (hcell k c hcx 2 _ rfl);have p3:wr.cell? ⟨bb,o+k*7+3,none⟩=some (.int .i64 c.en):=(HBr.out.cell (p:=⟨bb,o+k*7+3,none⟩) hbb).trans (hcell k c hcx 3 _ rfl);have p4:wr.cell? ⟨bb,o+k*7+4,none⟩=some (.int .i64 c.ra):=(HBr.out.cell (p:=⟨bb,o+k*7+4,none⟩) hbb).trans (hcell k c hcx 4 _ rfl);have p5:wr.cell? ⟨bb,o+k*7+5,none⟩=some (.int .i64 c.rg):=(HBr.out.cell (p:=⟨bb,o+k*7+5,none⟩) hbb).trans (hcell k c hcx 5 _ rfl);have p6:wr.cell? ⟨bb,o+k*7+6,none⟩=some (.int .i64 c.lo):=(HBr.out.cell (p:=⟨bb,o+k*7+6,none⟩) hbb).trans (hcell k c hcx 6 _ rfl);have HNC:=aa hcx;have hchk:chkCon c=0:=(HP.out.2.2 k c hcx).1;have HCHK:=aa hchk;obtain⟨M,hM⟩:=cR (outs c.en c.st (busyS l k))
   have HM:=aa hM;have HTG:Hid (G.take (k+1)=G.take k++[M]):=aa (by rw[aN,←HG.out,jp l hcx,hM];rfl);obtain⟨dn,hdn⟩:=cR (durS c s)
   have HDN:=aa hdn;have HTD:Hid (Ds.take (k+1)=Ds.take k++[dn]):=aa (by rw[aN,←HDs.out,bO,hcx,←hdn];rfl);have hdj:=(kH HP.out HB.out hcx).dj;have HDJ:=aa hdj;clear hcx hcell hchk hM hdn hdj;go_upto_region 7 with fail
   obtain⟨w4,hw4⟩:=cR (wr.alloc (.cells #[.int .i64 c.fr,.int .i64 c.tt,.int .i64 c.st,.int .i64 c.en,.int .i64 c.ra,.int .i64 c.rg,.int .i64 c.lo] 95))
   rw[hw4];have hb4:Below wr.heap.size wr w4:=by rw[←hw4];exact de (ap _ _)
   have XC:Hid (w4.heap[wr.heap.size]? =some (.cells #[.int .i64 c.fr,.int .i64 c.tt,.int .i64 c.st,.int .i64 c.en,.int .i64 c.ra,.int .i64 c.rg,.int .i64 c.lo] 95 (0,0))):=aa (by rw[←hw4];exact cW);have z4:wr.heap.size<w4.heap.size:=by rw[←hw4];simp
   have HL4:=aa (HLL.out.below hb4 (by omega));have HB4:Hid (Below w.heap.size w w4):=aa (HBZ.out.trans HL4.out.bel);have HK4:=aa hb4;clear hw4 hb4 p0 p1 p2 p3 p4 p5 p6 cr0 cr1;have cr0:=fun q=>cU ((HL4.out.keep w.heap.size (by omega)).trans HX0Z.out) q
   have cr1:=fun q=>cU ((HL4.out.keep (w.heap.size+1) (by omega)).trans HX1Z.out) q
   go_wp2_with fail
   refine(Free_any qs cs l k c _ _ _ _ (HQ.out.below' HB4.out) (HC.out.below' HB4.out) (HL.out.below' HB4.out) HP.out HB.out HNC.out HDJ.out).mono ?_
   unfold SpsPostF;rw[HM.out];rintro e w5 ⟨u,rfl,hru,hfu,hb5⟩;obtain⟨ua,ucap,hu_,-⟩:=id hru;subst hu_;have HRU:=aa hru;have HFU:Hid (RFrom wr.heap.size (.slice ua M.length ucap)):=aa (hfu.le (by omega));have XC5:=aa ((hb5.block _ z4).trans XC.out);have z5:wr.heap.size<w5.heap.size:=by have:=hb5.size;omega
   have HL5:=aa (HL4.out.below hb5 (by omega));have HB5:Hid (Below w.heap.size w w5):=aa (HBZ.out.trans HL5.out.bel);clear hru hfu hb5 cr0 cr1 XC;have cr1:=fun q=>cU ((HL5.out.keep (w.heap.size+1) (by omega)).trans HX1Z.out) q
   have cx:=fun q=>cU XC5.out q
   have zq5:w.heap.size+1<w5.heap.size:=by omega
   go_wp2_with fail
   refine(Dur_ok c s _ HCHK.out s1 s2).mono ?_
   rw[HDN.out];rintro e w6 ⟨rfl,hb6⟩;have HRU6:=aa (HRU.out.below' hb6);have HL6:=aa (HL5.out.below hb6 (by omega));have z6:wr.heap.size<w6.heap.size:=by have:=hb6.size;omega
   obtain⟨va,vc,hva⟩:=dg HL6.out.o1;subst hva;obtain⟨da,dc,hda⟩:=dg HL6.out.o2;subst hda;have hgl6:(G.take k).length≤64:=by have:=HGl.out;rw[aS];omega
   have hdl6:(Ds.take k).length≤64:=by have:=HDl.out;rw[aS];omega
   clear hb6 cr1 cx XC5 HRU;obtain⟨i0,hin,hz0,hz1,hz2⟩:=info_parts pi;obtain⟨j0,jin,jz0,jz1,jz2⟩:=info_parts iD;obtain⟨NG,hNG⟩:=cR ((G.take k).length)
   obtain⟨ND,hND⟩:=cR ((Ds.take k).length)
   have gb6:=HL6.out.gb;have o61:=HL6.out.o1;have o62:=HL6.out.o2;rw[hNG]at o61 gb6 hgl6;rw[hND]at o62 gb6 hdl6;have c6:=fun q=>cU gb6 q
   have HGB6:=aa gb6;have HO6:=aa (cS o61 o62);have HNG:=aa hNG;have HND:=aa hND;clear gb6 o61 o62 hNG hND;have z6g:=HL6.out.lt;go_upto_region 9 with fail
   refine ei (fun V=>∀q,V.cell? ⟨gB,q,none⟩=(#[.slice aq qs.length cq,.slice (some ⟨bb,o,none⟩) cs.length cc,.slice al l.length cl,.slice ah hs.length ch,.int .i64 src,.int .i64 dst,.int .i64 (s:Int),.int .i64 rd,.int .i64 D,.int .i64 pr,.bool cu,.slice va NG vc,.slice none 0 0,.slice da ND dc])[q]?) [0,0,0,0,0,1,0,2,2,0,0,0,1,0,2,2,0,0,3,0,0,3] (.go 0 (.go 1 (.go 2 (.go 3 (.go 4 (.go 5 (.go 6 (.go 9 (.go 10 (.go 11 (.go 12 (.go 13 (.br2 7 14 (.br2 8 14 (.go 14 (.go 15 (.go 16 (.go 17 (.go 18 (.go 19 (.go 20 (.go 21 (.fin))))))))) (.go 8 (.go 15 (.go 16 (.go 17 (.go 18 (.go 19 (.go 20 (.go 21 (.fin)))))))))) (.go 7 (.go 8 (.go 15 (.go 16 (.go 17 (.go 18 (.go 19 (.go 20 (.go 21 (.fin))))))))))))))))))))))) (by kernel_rfl) (by kernel_rfl) ?_ ?_
   case refine_1=>exact c6
   obtain⟨V0,hV0⟩:=cR w6.drew
   rw[hV0];have hd0:Below w6.heap.size w6 V0:=by rw[←hV0];exact bdrew (ap _ _)
   have HBS0:=aa ((BS.start HO6.out.1 HO6.out.2).below hd0);have HG0:=aa (cS ((hd0.block _ z6g).trans HGB6.out) (aO z6g hd0.size));have HV0:Hid (Below w.heap.size wZ V0):=aa (HL6.out.bel.trans (hd0.mono (by omega)));clear hV0 hd0 c6
   (iterate 12 (refine dG rfl (by decide) (by rfl) (fun w1 hS=>by(try(have hS:=hS rfl));go_simp;rfl) ?_;(try simp only[Act.put,ae,af,ag])))
   refine nD ?_ ?_
   ·refine ej rfl (by rfl) (fun K hK=>?_)
    go_simp
    obtain⟨Va,hV_⟩:=cR (V0.alloc (.cells #[.slice ua M.length ucap] 84))
    rw[hV_];obtain⟨n7_a,hg_,hn_,hb_⟩:=eY hV_;rw[hg_];have zl_:=HG0.out.2;have HBSa:=aa (HBS0.out.below hb_);have HGa:=aa (cS ((hb_.block _ zl_).trans HG0.out.1) (aO zl_ hb_.size));have HVa:=aa (HV0.out.trans (hb_.mono (by omega)));have N7_a:=aa (cS hn_ (ai.1 hn_).1);refine hK _ _ (fun q=>cU HGa.out.1 q) ?_
    clear hK K hV_ hg_ hn_ hb_ zl_ HBS0 HG0 HV0
    (try simp only[Act.put,ae,af,ag])
    refine nD ?_ ?_
    ·as_aux_lemma=>
      refine ej rfl (by rfl) (fun K hK=>?_)
      refine dW _ _ _ _ rfl (gB+1) 84 i0 _ 1 24 Tryz.underlying194 hin hz0 hz1 hz2 rfl (by omega) (.slice va NG vc) NG vals rfl HBSa.out.own1 ⟨n7_a,0,none⟩ 1 1 [.slice ua M.length ucap] rfl rfl (dI N7_a.out.1) (by simp[Value.oneCell']) (by simp only[maxLen];omega) (by omega) (by have:=HGa.out.2;omega) (by omega) ?_
      intro u9 Vb ho_ hg_ hf_;have zl_:=HGa.out.2;have hr_:∀q,Value.ownBlock (.slice va NG vc)=some q→gB+1≤q:=fun q e=>(HBSa.out.own1.lt q e).1
      have HBSb:=aa (HBSa.out.app1 (by decide) ho_ hg_ hf_);have HGb:=aa (cS ((dw hg_ zl_ (fun e=>by have:=hr_ _ e;omega)).trans HGa.out.1) (aO zl_ hg_.size));have HVb:=aa (HVa.out.grown hg_ (by omega) (fun q e=>by have:=hr_ _ e;omega));refine hK _ _ (fun q=>cU HGb.out.1 q) ?_
      clear hK K ho_ hg_ hf_ hr_ zl_ HBSa HGa HVa N7_a
      (try simp only[Act.put,ae,af,ag])
      refine dH rfl rfl (by rfl) (fun K hK=>?_)
      go_simp
      obtain⟨Vc,hV_⟩:=cR (Vb.alloc (.cells #[.int .i64 dn] 3))
      rw[hV_];obtain⟨n14_c,hg_,hn_,hb_⟩:=eY hV_;rw[hg_];have zl_:=HGb.out.2;have HBSc:=aa (HBSb.out.below hb_);have HGc:=aa (cS ((hb_.block _ zl_).trans HGb.out.1) (aO zl_ hb_.size));have HVc:=aa (HVb.out.trans (hb_.mono (by omega)));have N14_c:=aa (cS hn_ (ai.1 hn_).1);refine hK _ _ (fun q=>cU HGc.out.1 q) ?_
      clear hK K hV_ hg_ hn_ hb_ zl_ HBSb HGb HVb
      (try simp only[Act.put,ae,af,ag])
      refine dH rfl rfl (by rfl) (fun K hK=>?_)
      refine dW _ _ _ _ rfl (gB+1) 3 j0 _ 1 8 cP jin jz0 jz1 jz2 rfl (by omega) (.slice da ND dc) ND ((Ds.take k).map (Value.int .i64)) rfl HBSc.out.own2 ⟨n14_c,0,none⟩ 1 1 [.int .i64 dn] rfl rfl (dI N14_c.out.1) (by simp[Value.oneCell']) (by simp only[maxLen];omega) (by omega) (by have:=HGc.out.2;omega) (by omega) ?_
      intro d9 Vd ho_ hg_ hf_;have zl_:=HGc.out.2;have hr_:∀q,Value.ownBlock (.slice da ND dc)=some q→gB+1≤q:=fun q e=>(HBSc.out.own2.lt q e).1
      have HBSd:=aa (HBSc.out.app2 (by decide) ho_ hg_ hf_);have HGd:=aa (cS ((dw hg_ zl_ (fun e=>by have:=hr_ _ e;omega)).trans HGc.out.1) (aO zl_ hg_.size));have HVd:=aa (HVc.out.grown hg_ (by omega) (fun q e=>by have:=hr_ _ e;omega));refine hK _ _ (fun q=>cU HGd.out.1 q) ?_
      clear hK K ho_ hg_ hf_ hr_ zl_ HBSc HGc HVc N14_c
      (try simp only[Act.put,ae,af,ag])
      (refine dG rfl (by decide) (by rfl) (fun w1 hS=>by(try(have hS:=hS rfl));go_simp;rfl) ?_;(try simp only[Act.put,ae,af,ag]))
      (refine dG rfl (by decide) (by rfl) (fun w1 hS=>by(try(have hS:=hS rfl));go_simp;rfl) ?_;(try simp only[Act.put,ae,af,ag]))
      refine ey rfl rfl (by rfl) (fun K hK=>?_)
      obtain⟨ea,ec,he_⟩:=dg HBSd.out.own1;subst he_;obtain⟨fa,fc,hf_⟩:=dg HBSd.out.own2;subst hf_;have zl9:=HGd.out.2;have c9:=fun q=>cU HGd.out.1 q
      have f9:=fun q=>dC HGd.out.1 q
      go_simp
      clear c9 f9;obtain⟨W8,hW8⟩:=cR (Vd.setCell ⟨gB,11,none⟩ (.slice ea (NG+1) ec))
      rw[hW8];have H8:Hid (W8.heap[gB]? =some (.cells #[.slice aq qs.length cq,.slice (some ⟨bb,o,none⟩) cs.length cc,.slice al l.length cl,.slice ah hs.length ch,.int .i64 src,.int .i64 dst,.int .i64 (s:Int),.int .i64 rd,.int .i64 D,.int .i64 pr,.bool cu,.slice ea (NG+1) ec,.slice none 0 0,.slice da ND dc] 196 (0,0))∧(∀q,q≠gB→W8.heap[q]? =Vd.heap[q]?)∧W8.heap.size=Vd.heap.size∧Below w.heap.size wZ W8):=aa (by
       rw[←hW8];exact⟨eD HGd.out.1 11 _,fun q h=>heap_setCell_other Vd ⟨gB,11,none⟩ q _ h,by simp,bset HVd.out (by show w.heap.size≤gB;omega)⟩)
      clear hW8;have zl8:gB<W8.heap.size:=by rw[H8.out.2.2.1];exact zl9
      refine hK _ _ ?_
      clear hK K
      (try simp only[Act.put,ae,af,ag])
      (refine dG rfl (by decide) (by rfl) (fun w1 hS=>by(try(have hS:=hS rfl));go_simp;rfl) ?_;(try simp only[Act.put,ae,af,ag]))
      (refine dG rfl (by decide) (by rfl) (fun w1 hS=>by(try(have hS:=hS rfl));go_simp;rfl) ?_;(try simp only[Act.put,ae,af,ag]))
      refine ey rfl rfl (by rfl) (fun K hK=>?_)
      have c9:=fun q=>cU H8.out.1 q
      have f9:=fun q=>dC H8.out.1 q
      go_simp
      clear c9 f9;obtain⟨W9,hW9⟩:=cR (W8.setCell ⟨gB,13,none⟩ (.slice fa (ND+1) fc))
      rw[hW9];have H9:Hid (W9.heap[gB]? =some (.cells #[.slice aq qs.length cq,.slice (some ⟨bb,o,none⟩) cs.length cc,.slice al l.length cl,.slice ah hs.length ch,.int .i64 src,.int .i64 dst,.int .i64 (s:Int),.int .i64 rd,.int .i64 D,.int .i64 pr,.bool cu,.slice ea (NG+1) ec,.slice none 0 0,.slice fa (ND+1) fc] 196 (0,0))∧(∀q,q≠gB→W9.heap[q]? =Vd.heap[q]?)∧W9.heap.size=Vd.heap.size∧Below w.heap.size wZ W9):=aa (by
       rw[←hW9];exact⟨eD H8.out.1 13 _,fun q h=>(heap_setCell_other W8 ⟨gB,13,none⟩ q _ h).trans (H8.out.2.1 q h),by simp;exact H8.out.2.2.1,bset H8.out.2.2.2 (by show w.heap.size≤gB;omega)⟩)
      clear hW9 H8;refine hK _ _ ?_
      clear hK K
      (try simp only[Act.put,ae,af,ag])
      refine fe ?_
      go_wp2
      go_roundw
      case rel=>exact⟨k+1,_,_,vals++[.slice ua M.length ucap],by omega,by go_num,aa (by
       rw[HTG.out,HTD.out];exact HL6.out.step (by omega) HRU6.out HFU.out (by omega) (fun b e=>(HLL.out.o1.lt b e).2) (fun b e=>(HLL.out.o2.lt b e).2) (by rw[HNG.out,HND.out];exact HBSd.out) H9.out.2.1 H9.out.2.2.1 H9.out.1 H9.out.2.2.2)⟩
      case measure=>simp[intOf];omega
    ·as_aux_lemma=>
      refine ej rfl (by rfl) (fun K hK=>?_)
      go_simp
      obtain⟨Vb,hV_⟩:=cR (Va.alloc (.cells #[.int .i64 dn] 3))
      rw[hV_];obtain⟨n14_b,hg_,hn_,hb_⟩:=eY hV_;rw[hg_];have zl_:=HGa.out.2;have HBSb:=aa (HBSa.out.below hb_);have HGb:=aa (cS ((hb_.block _ zl_).trans HGa.out.1) (aO zl_ hb_.size));have HVb:=aa (HVa.out.trans (hb_.mono (by omega)));have N7_b:=aa (cS ((hb_.block _ N7_a.out.2).trans N7_a.out.1) (aO N7_a.out.2 hb_.size));have N14_b:=aa (cS hn_ (ai.1 hn_).1);refine hK _ _ (fun q=>cU HGb.out.1 q) ?_
      clear hK K hV_ hg_ hn_ hb_ zl_ HBSa HGa HVa N7_a
      (try simp only[Act.put,ae,af,ag])
      refine dH rfl rfl (by rfl) (fun K hK=>?_)
      refine dW _ _ _ _ rfl (gB+1) 84 i0 _ 1 24 Tryz.underlying194 hin hz0 hz1 hz2 rfl (by omega) (.slice va NG vc) NG vals rfl HBSb.out.own1 ⟨n7_a,0,none⟩ 1 1 [.slice ua M.length ucap] rfl rfl (dI N7_b.out.1) (by simp[Value.oneCell']) (by simp only[maxLen];omega) (by omega) (by have:=HGb.out.2;omega) (by omega) ?_
      intro u9 Vc ho_ hg_ hf_;have zl_:=HGb.out.2;have hr_:∀q,Value.ownBlock (.slice va NG vc)=some q→gB+1≤q:=fun q e=>(HBSb.out.own1.lt q e).1
      have HBSc:=aa (HBSb.out.app1 (by decide) ho_ hg_ hf_);have HGc:=aa (cS ((dw hg_ zl_ (fun e=>by have:=hr_ _ e;omega)).trans HGb.out.1) (aO zl_ hg_.size));have HVc:=aa (HVb.out.grown hg_ (by omega) (fun q e=>by have:=hr_ _ e;omega));have N14_c:=aa (cS ((dw hg_ N14_b.out.2 (fun e=>own_ne HBSb.out.own1 e N14_b.out.1 (by decide))).trans N14_b.out.1) (aO N14_b.out.2 hg_.size));refine hK _ _ (fun q=>cU HGc.out.1 q) ?_
      clear hK K ho_ hg_ hf_ hr_ zl_ HBSb HGb HVb N7_b N14_b
      (try simp only[Act.put,ae,af,ag])
      refine dH rfl rfl (by rfl) (fun K hK=>?_)
      refine dW _ _ _ _ rfl (gB+1) 3 j0 _ 1 8 cP jin jz0 jz1 jz2 rfl (by omega) (.slice da ND dc) ND ((Ds.take k).map (Value.int .i64)) rfl HBSc.out.own2 ⟨n14_b,0,none⟩ 1 1 [.int .i64 dn] rfl rfl (dI N14_c.out.1) (by simp[Value.oneCell']) (by simp only[maxLen];omega) (by omega) (by have:=HGc.out.2;omega) (by omega) ?_
      intro d9 Vd ho_ hg_ hf_;have zl_:=HGc.out.2;have hr_:∀q,Value.ownBlock (.slice da ND dc)=some q→gB+1≤q:=fun q e=>(HBSc.out.own2.lt q e).1
      have HBSd:=aa (HBSc.out.app2 (by decide) ho_ hg_ hf_);have HGd:=aa (cS ((dw hg_ zl_ (fun e=>by have:=hr_ _ e;omega)).trans HGc.out.1) (aO zl_ hg_.size));have HVd:=aa (HVc.out.grown hg_ (by omega) (fun q e=>by have:=hr_ _ e;omega));refine hK _ _ (fun q=>cU HGd.out.1 q) ?_
      clear hK K ho_ hg_ hf_ hr_ zl_ HBSc HGc HVc N14_c
      (try simp only[Act.put,ae,af,ag])
      (refine dG rfl (by decide) (by rfl) (fun w1 hS=>by(try(have hS:=hS rfl));go_simp;rfl) ?_;(try simp only[Act.put,ae,af,ag]))
      (refine dG rfl (by decide) (by rfl) (fun w1 hS=>by(try(have hS:=hS rfl));go_simp;rfl) ?_;(try simp only[Act.put,ae,af,ag]))
      refine ey rfl rfl (by rfl) (fun K hK=>?_)
      obtain⟨ea,ec,he_⟩:=dg HBSd.out.own1;subst he_;obtain⟨fa,fc,hf_⟩:=dg HBSd.out.own2;subst hf_;have zl9:=HGd.out.2;have c9:=fun q=>cU HGd.out.1 q
      have f9:=fun q=>dC HGd.out.1 q
      go_simp
      clear c9 f9;obtain⟨W8,hW8⟩:=cR (Vd.setCell ⟨gB,11,none⟩ (.slice ea (NG+1) ec))
      rw[hW8];have H8:Hid (W8.heap[gB]? =some (.cells #[.slice aq qs.length cq,.slice (some ⟨bb,o,none⟩) cs.length cc,.slice al l.length cl,.slice ah hs.length ch,.int .i64 src,.int .i64 dst,.int .i64 (s:Int),.int .i64 rd,.int .i64 D,.int .i64 pr,.bool cu,.slice ea (NG+1) ec,.slice none 0 0,.slice da ND dc] 196 (0,0))∧(∀q,q≠gB→W8.heap[q]? =Vd.heap[q]?)∧W8.heap.size=Vd.heap.size∧Below w.heap.size wZ W8):=aa (by
       rw[←hW8];exact⟨eD HGd.out.1 11 _,fun q h=>heap_setCell_other Vd ⟨gB,11,none⟩ q _ h,by simp,bset HVd.out (by show w.heap.size≤gB;omega)⟩)
      clear hW8;have zl8:gB<W8.heap.size:=by rw[H8.out.2.2.1];exact zl9
      refine hK _ _ ?_
      clear hK K
      (try simp only[Act.put,ae,af,ag])
      (refine dG rfl (by decide) (by rfl) (fun w1 hS=>by(try(have hS:=hS rfl));go_simp;rfl) ?_;(try simp only[Act.put,ae,af,ag]))
      (refine dG rfl (by decide) (by rfl) (fun w1 hS=>by(try(have hS:=hS rfl));go_simp;rfl) ?_;(try simp only[Act.put,ae,af,ag]))
      refine ey rfl rfl (by rfl) (fun K hK=>?_)
      have c9:=fun q=>cU H8.out.1 q
      have f9:=fun q=>dC H8.out.1 q
      go_simp
      clear c9 f9;obtain⟨W9,hW9⟩:=cR (W8.setCell ⟨gB,13,none⟩ (.slice fa (ND+1) fc))
      rw[hW9];have H9:Hid (W9.heap[gB]? =some (.cells #[.slice aq qs.length cq,.slice (some ⟨bb,o,none⟩) cs.length cc,.slice al l.length cl,.slice ah hs.length ch,.int .i64 src,.int .i64 dst,.int .i64 (s:Int),.int .i64 rd,.int .i64 D,.int .i64 pr,.bool cu,.slice ea (NG+1) ec,.slice none 0 0,.slice fa (ND+1) fc] 196 (0,0))∧(∀q,q≠gB→W9.heap[q]? =Vd.heap[q]?)∧W9.heap.size=Vd.heap.size∧Below w.heap.size wZ W9):=aa (by
       rw[←hW9];exact⟨eD H8.out.1 13 _,fun q h=>(heap_setCell_other W8 ⟨gB,13,none⟩ q _ h).trans (H8.out.2.1 q h),by simp;exact H8.out.2.2.1,bset H8.out.2.2.2 (by show w.heap.size≤gB;omega)⟩)
      clear hW9 H8;refine hK _ _ ?_
      clear hK K
      (try simp only[Act.put,ae,af,ag])
      refine fe ?_
      go_wp2
      go_roundw
      case rel=>exact⟨k+1,_,_,vals++[.slice ua M.length ucap],by omega,by go_num,aa (by
       rw[HTG.out,HTD.out];exact HL6.out.step (by omega) HRU6.out HFU.out (by omega) (fun b e=>(HLL.out.o1.lt b e).2) (fun b e=>(HLL.out.o2.lt b e).2) (by rw[HNG.out,HND.out];exact HBSd.out) H9.out.2.1 H9.out.2.2.1 H9.out.1 H9.out.2.2.2)⟩
      case measure=>simp[intOf];omega
   ·as_aux_lemma=>
     refine ej rfl (by rfl) (fun K hK=>?_)
     go_simp
     obtain⟨Va,hV_⟩:=cR (V0.alloc (.cells #[.int .i64 dn] 3))
     rw[hV_];obtain⟨n14_a,hg_,hn_,hb_⟩:=eY hV_;rw[hg_];have zl_:=HG0.out.2;have HBSa:=aa (HBS0.out.below hb_);have HGa:=aa (cS ((hb_.block _ zl_).trans HG0.out.1) (aO zl_ hb_.size));have HVa:=aa (HV0.out.trans (hb_.mono (by omega)));have N14_a:=aa (cS hn_ (ai.1 hn_).1);refine hK _ _ (fun q=>cU HGa.out.1 q) ?_
     clear hK K hV_ hg_ hn_ hb_ zl_ HBS0 HG0 HV0
     (try simp only[Act.put,ae,af,ag])
     refine dH rfl rfl (by rfl) (fun K hK=>?_)
     go_simp
     obtain⟨Vb,hV_⟩:=cR (Va.alloc (.cells #[.slice ua M.length ucap] 84))
     rw[hV_];obtain⟨n7_b,hg_,hn_,hb_⟩:=eY hV_;rw[hg_];have zl_:=HGa.out.2;have HBSb:=aa (HBSa.out.below hb_);have HGb:=aa (cS ((hb_.block _ zl_).trans HGa.out.1) (aO zl_ hb_.size));have HVb:=aa (HVa.out.trans (hb_.mono (by omega)));have N14_b:=aa (cS ((hb_.block _ N14_a.out.2).trans N14_a.out.1) (aO N14_a.out.2 hb_.size));have N7_b:=aa (cS hn_ (ai.1 hn_).1);refine hK _ _ (fun q=>cU HGb.out.1 q) ?_
     clear hK K hV_ hg_ hn_ hb_ zl_ HBSa HGa HVa N14_a
     (try simp only[Act.put,ae,af,ag])
     refine dH rfl rfl (by rfl) (fun K hK=>?_)
     refine dW _ _ _ _ rfl (gB+1) 84 i0 _ 1 24 Tryz.underlying194 hin hz0 hz1 hz2 rfl (by omega) (.slice va NG vc) NG vals rfl HBSb.out.own1 ⟨n7_b,0,none⟩ 1 1 [.slice ua M.length ucap] rfl rfl (dI N7_b.out.1) (by simp[Value.oneCell']) (by simp only[maxLen];omega) (by omega) (by have:=HGb.out.2;omega) (by omega) ?_
     intro u9 Vc ho_ hg_ hf_;have zl_:=HGb.out.2;have hr_:∀q,Value.ownBlock (.slice va NG vc)=some q→gB+1≤q:=fun q e=>(HBSb.out.own1.lt q e).1
     have HBSc:=aa (HBSb.out.app1 (by decide) ho_ hg_ hf_);have HGc:=aa (cS ((dw hg_ zl_ (fun e=>by have:=hr_ _ e;omega)).trans HGb.out.1) (aO zl_ hg_.size));have HVc:=aa (HVb.out.grown hg_ (by omega) (fun q e=>by have:=hr_ _ e;omega));have N14_c:=aa (cS ((dw hg_ N14_b.out.2 (fun e=>own_ne HBSb.out.own1 e N14_b.out.1 (by decide))).trans N14_b.out.1) (aO N14_b.out.2 hg_.size));refine hK _ _ (fun q=>cU HGc.out.1 q) ?_
     clear hK K ho_ hg_ hf_ hr_ zl_ HBSb HGb HVb N7_b N14_b
     (try simp only[Act.put,ae,af,ag])
     refine dH rfl rfl (by rfl) (fun K hK=>?_)
     refine dW _ _ _ _ rfl (gB+1) 3 j0 _ 1 8 cP jin jz0 jz1 jz2 rfl (by omega) (.slice da ND dc) ND ((Ds.take k).map (Value.int .i64)) rfl HBSc.out.own2 ⟨n14_a,0,none⟩ 1 1 [.int .i64 dn] rfl rfl (dI N14_c.out.1) (by simp[Value.oneCell']) (by simp only[maxLen];omega) (by omega) (by have:=HGc.out.2;omega) (by omega) ?_
     intro d9 Vd ho_ hg_ hf_;have zl_:=HGc.out.2;have hr_:∀q,Value.ownBlock (.slice da ND dc)=some q→gB+1≤q:=fun q e=>(HBSc.out.own2.lt q e).1
     have HBSd:=aa (HBSc.out.app2 (by decide) ho_ hg_ hf_);have HGd:=aa (cS ((dw hg_ zl_ (fun e=>by have:=hr_ _ e;omega)).trans HGc.out.1) (aO zl_ hg_.size));have HVd:=aa (HVc.out.grown hg_ (by omega) (fun q e=>by have:=hr_ _ e;omega));refine hK _ _ (fun q=>cU HGd.out.1 q) ?_
     clear hK K ho_ hg_ hf_ hr_ zl_ HBSc HGc HVc N14_c
     (try simp only[Act.put,ae,af,ag])
     (refine dG rfl (by decide) (by rfl) (fun w1 hS=>by(try(have hS:=hS rfl));go_simp;rfl) ?_;(try simp only[Act.put,ae,af,ag]))
     (refine dG rfl (by decide) (by rfl) (fun w1 hS=>by(try(have hS:=hS rfl));go_simp;rfl) ?_;(try simp only[Act.put,ae,af,ag]))
     refine ey rfl rfl (by rfl) (fun K hK=>?_)
     obtain⟨ea,ec,he_⟩:=dg HBSd.out.own1;subst he_;obtain⟨fa,fc,hf_⟩:=dg HBSd.out.own2;subst hf_;have zl9:=HGd.out.2;have c9:=fun q=>cU HGd.out.1 q
     have f9:=fun q=>dC HGd.out.1 q
     go_simp
     clear c9 f9;obtain⟨W8,hW8⟩:=cR (Vd.setCell ⟨gB,11,none⟩ (.slice ea (NG+1) ec))
     rw[hW8];have H8:Hid (W8.heap[gB]? =some (.cells #[.slice aq qs.length cq,.slice (some ⟨bb,o,none⟩) cs.length cc,.slice al l.length cl,.slice ah hs.length ch,.int .i64 src,.int .i64 dst,.int .i64 (s:Int),.int .i64 rd,.int .i64 D,.int .i64 pr,.bool cu,.slice ea (NG+1) ec,.slice none 0 0,.slice da ND dc] 196 (0,0))∧(∀q,q≠gB→W8.heap[q]? =Vd.heap[q]?)∧W8.heap.size=Vd.heap.size∧Below w.heap.size wZ W8):=aa (by
      rw[←hW8];exact⟨eD HGd.out.1 11 _,fun q h=>heap_setCell_other Vd ⟨gB,11,none⟩ q _ h,by simp,bset HVd.out (by show w.heap.size≤gB;omega)⟩)
     clear hW8;have zl8:gB<W8.heap.size:=by rw[H8.out.2.2.1];exact zl9
     refine hK _ _ ?_
     clear hK K
     (try simp only[Act.put,ae,af,ag])
     (refine dG rfl (by decide) (by rfl) (fun w1 hS=>by(try(have hS:=hS rfl));go_simp;rfl) ?_;(try simp only[Act.put,ae,af,ag]))
     (refine dG rfl (by decide) (by rfl) (fun w1 hS=>by(try(have hS:=hS rfl));go_simp;rfl) ?_;(try simp only[Act.put,ae,af,ag]))
     refine ey rfl rfl (by rfl) (fun K hK=>?_)
     have c9:=fun q=>cU H8.out.1 q
     have f9:=fun q=>dC H8.out.1 q
     go_simp
     clear c9 f9;obtain⟨W9,hW9⟩:=cR (W8.setCell ⟨gB,13,none⟩ (.slice fa (ND+1) fc))
     rw[hW9];have H9:Hid (W9.heap[gB]? =some (.cells #[.slice aq qs.length cq,.slice (some ⟨bb,o,none⟩) cs.length cc,.slice al l.length cl,.slice ah hs.length ch,.int .i64 src,.int .i64 dst,.int .i64 (s:Int),.int .i64 rd,.int .i64 D,.int .i64 pr,.bool cu,.slice ea (NG+1) ec,.slice none 0 0,.slice fa (ND+1) fc] 196 (0,0))∧(∀q,q≠gB→W9.heap[q]? =Vd.heap[q]?)∧W9.heap.size=Vd.heap.size∧Below w.heap.size wZ W9):=aa (by
      rw[←hW9];exact⟨eD H8.out.1 13 _,fun q h=>(heap_setCell_other W8 ⟨gB,13,none⟩ q _ h).trans (H8.out.2.1 q h),by simp;exact H8.out.2.2.1,bset H8.out.2.2.2 (by show w.heap.size≤gB;omega)⟩)
     clear hW9 H8;refine hK _ _ ?_
     clear hK K
     (try simp only[Act.put,ae,af,ag])
     refine fe ?_
     go_wp2
     go_roundw
     case rel=>exact⟨k+1,_,_,vals++[.slice ua M.length ucap],by omega,by go_num,aa (by
      rw[HTG.out,HTD.out];exact HL6.out.step (by omega) HRU6.out HFU.out (by omega) (fun b e=>(HLL.out.o1.lt b e).2) (fun b e=>(HLL.out.o2.lt b e).2) (by rw[HNG.out,HND.out];exact HBSd.out) H9.out.2.1 H9.out.2.2.1 H9.out.1 H9.out.2.2.2)⟩
     case measure=>simp[intOf];omega
  ·obtain rfl:k=cs.length:=by omega
   have HLY:Hid (L1 wZ w.heap.size gB G Ds (fun a b=>#[.slice aq qs.length cq,.slice ac cs.length cc,.slice al l.length cl,.slice ah hs.length ch,.int .i64 src,.int .i64 dst,.int .i64 (s:Int),.int .i64 rd,.int .i64 D,.int .i64 pr,.bool cu,a,.slice none 0 0,b]) ug ud vals wr):=aa (by
    have h:=HLL.out;rw[show G.take cs.length=G by rw[←HGl.out];exact aL,show Ds.take cs.length=Ds by rw[←HDl.out];exact aL]at h;exact h)
   have HL20:Hid (L2 wr w.heap.size gB [] (fun a=>#[.slice aq qs.length cq,.slice ac cs.length cc,.slice al l.length cl,.slice ah hs.length ch,.int .i64 src,.int .i64 dst,.int .i64 (s:Int),.int .i64 rd,.int .i64 D,.int .i64 pr,.bool cu,ug,a,ud]) (.slice none 0 0) [] wr):=aa ⟨HLY.out.gb,iu,fun i v l h=>by simp at h,fun _ _ _=>rfl,aj _,ap _ _⟩;obtain⟨wY,hwY⟩:=cR wr
   rw[hwY]at HLY HL20 HBr cr0 cr1 zr ⊢;have HX0Y:Hid (wY.heap[w.heap.size]? =some (.cells #[.slice aq qs.length cq,.slice ac cs.length cc,.slice al l.length cl,.slice ah hs.length ch] 44 (0,0))):=aa ((HLY.out.keep w.heap.size (by omega)).trans HX0Z.out);have HX1Y:Hid (wY.heap[w.heap.size+1]? =some (.cells #[.int .i64 src,.int .i64 dst,.int .i64 (s:Int),.int .i64 rd,.int .i64 D,.int .i64 pr,.bool cu] 38 (0,0))):=aa ((HLY.out.keep (w.heap.size+1) (by omega)).trans HX1Z.out);have HBY:=HBr;clear HLL HBr hwY;have zYw:w.heap.size≤wY.heap.size:=by omega
   go_wp2_with fail
   clear cr0 cr1;go_loopw [80] (fun kv wr=>∃(k:Nat) (R:List (List Sp)) (ur:Value) (vr:List Value),k≤qs.length∧kv= .int .i64 (k:Int)∧Hid (R.length=k∧(∀l∈R,l.length≤1100∧∀x∈l,spOK x)∧(HkOK qs hs→∀(n:Nat) q l,(qs.take k)[n]? =some q→R[n]? =some l→RmS hs (n:Int) q (s:Int) l))∧Hid (L2 wY w.heap.size gB R (fun a=>#[.slice aq qs.length cq,.slice ac cs.length cc,.slice al l.length cl,.slice ah hs.length ch,.int .i64 src,.int .i64 dst,.int .i64 (s:Int),.int .i64 rd,.int .i64 D,.int .i64 pr,.bool cu,ug,a,ud]) ur vr wr)) (fun kv _=>qs.length-(intOf kv).toNat)
   case atStart=>exact⟨0,[],_,[],aE _,rfl,aa ⟨rfl,(fun l h=>by cases h),fun _ n q l h _=>by simp at h⟩,HL20⟩
   case round=>
    obtain⟨k,R,ur,vr,hk,rfl,HRR,HLL⟩:=hrel;have zr:gB<wr.heap.size:=HLL.out.lt;have zy:wY.heap.size≤wr.heap.size:=HLL.out.sz;have HBr:Hid (Below w.heap.size w wr):=aa (HBY.out.trans HLL.out.bel);have cr0:=fun q=>cU ((HLL.out.keep w.heap.size (by omega) (by omega)).trans HX0Y.out) q
    have cr1:=fun q=>cU ((HLL.out.keep (w.heap.size+1) (by omega) (by omega)).trans HX1Y.out) q
    by_cases hlt:k<qs.length
    ·have k0:(0:Int)≤(k:Int):=by omega
     have k1:(k:Int)<(qs.length:Int):=by omega
     obtain⟨q,hqx⟩:∃x,qs[k]? =some x:=⟨_,am hlt⟩
     have HQX:=aa hqx;have s3:(1:Int)≤(s:Int):=by omega
     have s4:(s:Int)≤65536:=by omega
     have zq0:w.heap.size<wr.heap.size:=by omega
     have zq1:w.heap.size+1<wr.heap.size:=by omega
     clear hqx;go_wp2_with fail
     refine(qe qs cs hs _ _ _ k q (s:Int) _ (HQ.out.below' HBr.out) (HC.out.below' HBr.out) (HH.out.below' HBr.out) HP.out HQX.out s3 s4).mono ?_
     unfold SfRet;rintro e w6 ⟨⟨u,L,r,rfl,hru,hrl,hro,hfu,hr0⟩,hb6⟩;obtain⟨ua,ucap,hu_,-⟩:=id hru;subst hu_;have HRU6:=aa hru;have HFU:=aa hfu;have HL6:=aa (HLL.out.below hb6 (by omega));have HRO:=aa (cS hrl (cS hro hr0));obtain⟨va,vc,hva⟩:=dg HL6.out.o1;subst hva;obtain⟨NR,hNR⟩:=cR R.length
     have hnr:NR≤16:=by have:=HRR.out.1;omega
     have gb6:=HL6.out.gb;have o61:=HL6.out.o1;rw[hNR]at gb6 o61;have HGB6:=aa gb6;have HO6:=aa o61;have HNR:=aa hNR;have z6:gB<w6.heap.size:=HL6.out.lt;have z6y:wY.heap.size≤w6.heap.size:=HL6.out.sz;have HBY6:=aa HL6.out.bel;obtain⟨i0,hin,hz0,hz1,hz2⟩:=info_parts pi;have c6:=fun q=>cU gb6 q
     clear hb6 cr0 cr1 hru hfu hrl hro hr0 gb6 o61 hNR;go_wp2_with (at_builtin;refine dK _ rfl _ _ _ rfl wY.heap.size 84 i0 _ 1 24 Tryz.underlying194 hin hz0 hz1 hz2 rfl (by omega) (.slice va NR vc) NR vr rfl (cV HO6.out (fun q hq=>ak _ _ _ (HO6.out.lt q hq).2)) ⟨w6.heap.size,0,none⟩ 1 1 [.slice ua L.length ucap] rfl rfl (dI cW) (by simp[Value.oneCell']) (by simp only[maxLen];omega) (by omega) (by simp;omega) (by omega) ?_;intro vo V9 ho9 hg9 hf9;obtain⟨ea,ec,he_⟩:=dg ho9;subst he_;have hal:Below w6.heap.size w6 (w6.alloc (.cells #[.slice ua L.length ucap] 84)):=de (ap _ _);have hrw:∀q,Value.ownBlock (.slice va NR vc)=some q→wY.heap.size≤q:=fun q e=>(HO6.out.lt q e).1;have HBS9:Hid (BS w6 V9 wY.heap.size 84 3 (.slice va NR vc) (.slice none 0 0) (.slice ea (NR+1) ec) (.slice none 0 0) (NR+1) 0 (vr++[.slice ua L.length ucap]) []):=aa (((BS.start HO6.out iu).below hal).app1 (by decide) ho9 hg9 hf9);have HG9:Hid (V9.heap[gB]? =some (.cells (#[.slice aq qs.length cq,.slice ac cs.length cc,.slice al l.length cl,.slice ah hs.length ch,.int .i64 src,.int .i64 dst,.int .i64 (s:Int),.int .i64 rd,.int .i64 D,.int .i64 pr,.bool cu,ug,.slice va NR vc,ud]) 196 (0,0))∧Below w.heap.size wY V9):=aa ⟨(dw hg9 (by simp;omega) (fun e=>by have:=hrw _ e;omega)).trans ((hal.block _ z6).trans HGB6.out),(HBY6.out.trans (hal.mono (by omega))).grown hg9 (by simp;omega) (fun q e=>by have:=hrw _ e;omega)⟩;have z9:gB<V9.heap.size:=(ai.1 HG9.out.1).1;have c9:=fun q=>cU HG9.out.1 q;have f9:=fun q=>dC HG9.out.1 q;clear ho9 hg9 hf9 hal hrw c6)
     obtain⟨W9,hW9⟩:=cR (V9.setCell ⟨gB,12,none⟩ (.slice ea (NR+1) ec))
     rw[hW9];have H9:Hid (W9.heap[gB]? =some (.cells (#[.slice aq qs.length cq,.slice ac cs.length cc,.slice al l.length cl,.slice ah hs.length ch,.int .i64 src,.int .i64 dst,.int .i64 (s:Int),.int .i64 rd,.int .i64 D,.int .i64 pr,.bool cu,ug,.slice ea (NR+1) ec,ud]) 196 (0,0))∧(∀q,q≠gB→W9.heap[q]? =V9.heap[q]?)∧W9.heap.size=V9.heap.size∧Below w.heap.size wY W9):=aa (by
      rw[←hW9];exact⟨eD HG9.out.1 12 _,fun q h=>heap_setCell_other V9 ⟨gB,12,none⟩ q _ h,by simp,bset HG9.out.2 (by show w.heap.size≤gB;omega)⟩)
     clear hW9 c9 f9;go_roundw
     case rel=>exact⟨k+1,R++[L],_,vr++[.slice ua L.length ucap],by omega,by go_num,aa ⟨by simp;exact HRR.out.1,(fun l hl=>by
       rcases aA.1 hl with h | h
       ·exact HRR.out.2.1 l h
       ·rw[aH.1 h];exact⟨HRO.out.1,HRO.out.2.1⟩),fun h n q' l' hq' hl'=>by
       rw[bA]at hq';split at hq'
       ·rename_i hn
        by_cases e:n=k
        ·subst e
         have e1:=hq'.symm.trans HQX.out;injection e1 with e1
         rw[bz (by have:=HRR.out.1;omega)]at hl';have hl2:l'=L:=by
          have e2:n-R.length=0:=by have:=HRR.out.1;omega
          rw[e2]at hl';simpa using hl'.symm
         rw[e1,hl2];exact HRO.out.2.2 h
        ·refine HRR.out.2.2 h n q' l' (by rw[bA,if_pos (by omega)];exact hq') ?_
         rwa [bH (by have:=HRR.out.1;omega)]at hl'
       ·cases hq'⟩,aa (by
      exact HL6.out.step (by omega) HRU6.out HFU.out (by omega) (fun b e=>(HLL.out.o1.lt b e).2) (by rw[HNR.out];exact HBS9.out) H9.out.2.1 H9.out.2.2.1 H9.out.1 H9.out.2.2.2)⟩
     case measure=>simp[intOf];omega
    ·obtain rfl:k=qs.length:=by omega
     go_wp2
     refine bodyPost_ret (results_tmp2 rfl _ _ _) rfl ?_
     obtain⟨g1,g2,g3⟩:=HLL.out.gr HLY.out;refine⟨.inl ⟨R,gB,rfl,⟨HRR.out.1,HRR.out.2.1,fun h=>by have:=HRR.out.2.2 h;rwa [aL]at this⟩,⟨⟨_,_,_,_,_,_,_,HLL.out.gb,HC.out.below' HBr.out,?_,g2,?_⟩⟩⟩,HBr.out⟩
     ·show RRows wr wr.heap.size ug (gapsL cs l)
      rw[HG.out];exact g1
     ·show RRow intC 1 wr wr.heap.size ud (cs.map (fun c=>durS c s))
      rw[HDs.out];exact g3
end
end Go.Proofs.YtfnciigbbolckaaGreat
