/- Part 44 of the proof about mailboattop.TopOthers. No condition. -/
import Derived.Test.YtfnciigbbolckaaGreatQ00
import Derived.Test.YtfnciigbbolckaaGreatQ19
import Derived.Test.YtfnciigbbolckaaGreatQ24
import Derived.Test.YtfnciigbbolckaaGreatQ35
import Derived.Test.YtfnciigbbolckaaGreatQ41
import Derived.Test.YtfnciigbbolckaaGreatQ42
import Derived.Test.YtfnciigbbolckaaGreatQ43
set_option linter.unusedVariables false
set_option linter.unusedSimpArgs false
set_option maxRecDepth 100000
set_option maxHeartbeats 64000000
namespace Go.Proofs.YtfnciigbbolckaaGreat
open Go Go.RowKit Iv
attribute [local go_sem] Oper.semAt_some
attribute [local go_sem] pw gu B_app pv B_get B_toList
section
open Go.ChangeShapes Go.WideShapes Go.Deep Go.Joins
section
variable {H:Type} {enc:TypeId×Value→H} {w:World} {base:Nat} {spare:Nat→Bool} {held:Bool}
theorem oF {r:Reach} {b0:Nat} {v:Value} {d:DataW H} {p:List MemPlace} (hv:Value.okWide Tryz.prog w r b0 25 v) (h:DataW.Trod enc Tryz.prog w base spare held 25 v d p):
  ∃(uq uc:Value) (qs:List Int) (cs:List Con),v= .agg #[uq,uc]∧RRow intC 1 w w.heap.size uq qs∧RRow conC 7 w w.heap.size uc cs:=by
 obtain⟨cs,rfl,hsz⟩:=okWide_struct Tryz.underlying25 hv;obtain⟨fuel,hf⟩:=h;obtain⟨cl⟩:=cs;obtain⟨uq,uc,qs,cs,e,h1,h2⟩:=qu hf;simp only[Value.cells]at e;subst e;exact⟨uq,uc,qs,cs,rfl,h1,h2⟩
theorem open_rq {n:Nat} {cs:List Value} {x:DataW H×List MemPlace} (h:DataW.trod enc Tryz.prog w base spare held n 38 cs=some x):∃y:Rq,cs=rqC y:=by
 obtain⟨xs,m,rfl,_,hl,hxl,hf⟩:=DataW.trod_struct Tryz.underlying38 h;obtain⟨c0,c1,c2,c3,c4,c5,c6,rfl⟩:=pp (hl.trans (by kernel_rfl));obtain⟨x0,x1,x2,x3,x4,x5,x6,rfl⟩:=pp hxl;obtain⟨a0,e0,_⟩:=cE (k:=.i64) (by kernel_rfl) (fld (k:=1) (i:=0) hf rfl (by kernel_rfl));obtain⟨a1,e1,_⟩:=cE (k:=.i64) (by kernel_rfl) (fld (k:=1) (i:=1) hf rfl (by kernel_rfl));obtain⟨a2,e2,_⟩:=cE (k:=.i64) (by kernel_rfl) (fld (k:=1) (i:=2) hf rfl (by kernel_rfl));obtain⟨a3,e3,_⟩:=cE (k:=.i64) (by kernel_rfl) (fld (k:=1) (i:=3) hf rfl (by kernel_rfl));obtain⟨a4,e4,_⟩:=cE (k:=.i64) (by kernel_rfl) (fld (k:=1) (i:=4) hf rfl (by kernel_rfl));obtain⟨a5,e5,_⟩:=cE (k:=.i64) (by kernel_rfl) (fld (k:=1) (i:=5) hf rfl (by kernel_rfl));obtain⟨a6,e6,_⟩:=DataW.trod_bool (by kernel_rfl) (fld (k:=1) (i:=6) hf rfl (by kernel_rfl));simp at e0 e1 e2 e3 e4 e5 e6
 subst e0 e1 e2 e3 e4 e5 e6;exact⟨⟨a0,a1,a2,a3,a4,a5,a6⟩,rfl⟩
theorem open_rqs {r:Reach} {b0:Nat} {v:Value} {d:DataW H} {p:List MemPlace} (hv:Value.okWide Tryz.prog w r b0 26 v) (h:DataW.Trod enc Tryz.prog w base spare held 26 v d p):
  ∃(l:List Rq),RRow rqC 7 w w.heap.size v l:=by
 obtain⟨a,n,c,rfl⟩:=okWide_slice Tryz.underlying26 hv;obtain⟨fuel,hf⟩:=h;obtain⟨u,l,e0,hq⟩:=ju rqC_len (by decide) Tryz.underlying26 (by kernel_rfl) open_rq hf;have e1:[Value.slice a n c]=[u]:=e0;injection e1 with e1
 subst e1;exact⟨l,hq⟩
end
end
section
theorem oG (qs:List Int) (cs:List Con) (q:Rq) (hs:List Hp) (no:Int) (uq uc u:Value) (w:World) (hq:RRow intC 1 w w.heap.size uq qs) (hc:RRow conC 7 w w.heap.size uc cs) (hr:RRow hpC 4 w w.heap.size u hs) (hp:PlanOK qs cs) (ho:ReqO qs.length q) (hw:WayOK cs q q.src q.rd hs) (hl:hs.length≤1000) (hV:rchkV cs q hs=0):
  Calls Tryz.prog 9 #[.agg #[uq,uc],.agg #[.int .i64 q.src,.int .i64 q.dst,.int .i64 q.sz,.int .i64 q.rd,.int .i64 q.D,.int .i64 q.pr,.bool q.cu],u,.int .i64 no] w fun e w'=>(∃r M,e= .returned (.tuple #[r,.int .i64 0])∧M.Perm (hopsR cs q no q.src q.rd hs)∧RRow hldC 5 w' w'.heap.size r M)∧Below w.heap.size w w':=by
 have HQ:=aa hq;have HC:=aa hc;have HR:=aa hr;have HH:=aa (cS hp (cS ho (cS hw hV)));clear hq hc hr hp ho hw hV;go_enter Tryz.func9,Tryz.ntmps9
 go_upto_region 1 with fail
 obtain⟨Z,hZ⟩:=cR w.heap.size
 obtain⟨w1,hw1⟩:=cR ((w.alloc (.cells #[uq,uc] 25)).alloc (.cells #[.int .i64 q.src,.int .i64 q.dst,.int .i64 q.sz,.int .i64 q.rd,.int .i64 q.D,.int .i64 q.pr,.bool q.cu] 38))
 rw[hw1];have B1:Below Z w w1:=by rw[←hw1,←hZ];exact cZ
 have X0:w1.heap[Z]? =some (.cells #[uq,uc] 25 (0,0)):=by rw[←hw1,←hZ];exact(by repeat (first | exact cY (by first | rfl | (simp;done)) | refine(ak _ _ _ (by first | (simp;done) | (simp;omega))).trans ?_))
 have X1:w1.heap[Z+1]? =some (.cells #[.int .i64 q.src,.int .i64 q.dst,.int .i64 q.sz,.int .i64 q.rd,.int .i64 q.D,.int .i64 q.pr,.bool q.cu] 38 (0,0)):=by rw[←hw1,←hZ];exact(by repeat (first | exact cY (by first | rfl | (simp;done)) | refine(ak _ _ _ (by first | (simp;done) | (simp;omega))).trans ?_))
 have z1:Z+1<w1.heap.size:=(ai.1 X1).1;have z0:Z<w1.heap.size:=by omega
 have k0:=fun q_=>cU X0 q_
 have k1:=fun q_=>cU X1 q_
 have HZ:=aa hZ;have HX:=aa (cS B1 (cS X0 X1));rw[hZ]at HQ HC HR ⊢;clear hw1 B1 X0 X1 hZ;go_wp2_with fail
 refine(gI qs cs q hs uq uc u w1 (HQ.out.below HX.out.1 (aj _) (by omega)) (HC.out.below HX.out.1 (aj _) (by omega)) (HR.out.below HX.out.1 (aj _) (by omega)) HH.out.1 HH.out.2.1 HH.out.2.2.1 hl).mono ?_
 rw[HH.out.2.2.2];rintro e w2 ⟨rfl,hb2⟩;have z2:=hb2.size;have HX2:=aa (cS (HX.out.1.trans (hb2.mono (by omega))) (cS ((hb2.block _ z0).trans HX.out.2.1) ((hb2.block _ z1).trans HX.out.2.2)));have k0:=fun q_=>cU HX2.out.2.1 q_
 have k1:=fun q_=>cU HX2.out.2.2 q_
 have y0:Z<w2.heap.size:=by omega
 have y1:Z+1<w2.heap.size:=by omega
 clear hb2;go_wp2_with fail
 refine(kO qs cs q hs no uq uc u w2 (HQ.out.below HX2.out.1 (aj _) (by omega)) (HC.out.below HX2.out.1 (aj _) (by omega)) (HR.out.below HX2.out.1 (aj _) (by omega)) HH.out.1 HH.out.2.1 HH.out.2.2.1 hl).mono ?_
 unfold RhPost;rintro e w3 ⟨⟨r,M,rfl,hM,hrr⟩,hb3⟩;have HF:=aa (cS hM (cS hrr (HX2.out.1.trans (hb3.mono (by omega)))));clear hM hrr hb3 k0 k1;go_wp2
 refine bodyPost_ret (v:=.tuple #[r,.int .i64 0]) (by simp[results,Tryz.results9,go_sem]) rfl ?_
 rw[HZ.out];exact⟨⟨r,M,rfl,HF.out.1,HF.out.2.1⟩,HF.out.2.2⟩
end
section
theorem qw (qs:List Int) (cs:List Con) (q:Rq) (hs:List Hp) (B0:List Bkg) (H0:List Hld) (uq uc ub uh u:Value) (w:World) (hq:RRow intC 1 w w.heap.size uq qs) (hc:RRow conC 7 w w.heap.size uc cs) (hbr:RRow bkgC 4 w w.heap.size ub B0) (hhr:RRow hldC 5 w w.heap.size uh H0) (hr:RRow hpC 4 w w.heap.size u hs)
  (hp:PlanOK qs cs) (ho:ReqO qs.length q) (hw:WayOK cs q q.src q.rd hs) (hl:hs.length≤512) (hV:rchkV cs q hs=0) (hB:BkOK cs B0) (hH:HkOK qs H0) (hBS:BkSet cs (bksL 0 hs++B0)) (hHS:HdSet qs (hopsR cs q 0 q.src q.rd hs++H0)):
  Calls Tryz.prog 8 #[.agg #[uq,uc,ub,uh],.agg #[.int .i64 q.src,.int .i64 q.dst,.int .i64 q.sz,.int .i64 q.rd,.int .i64 q.D,.int .i64 q.pr,.bool q.cu],u] w fun e w'=>e= .returned (.int .i64 0)∧Below w.heap.size w w':=by
 have HQ:=aa hq;have HC:=aa hc;have HBR:=aa hbr;have HHR:=aa hhr;have HR:=aa hr;have HH:=aa (cS hp (cS ho (cS hw hV)));have HS:=aa (cS hB (cS hH (cS hBS hHS)));obtain⟨ba,bc,rfl,b1,b2,-,-⟩:=id hbr;obtain⟨ha,hac,rfl,h1,h2,-,-⟩:=id hhr;obtain⟨ua,ucp,rfl,u1,u2,-,-⟩:=id hr;have hBl:hs.length+B0.length≤512:=by have:=hBS.1;unfold bksL at this;rw[ay,aZ]at this;exact this
 have hHl:hs.length+H0.length≤512:=by have:=hHS.1;rw[ay,fu]at this;exact this
 unfold maxLen at b2 h2 u2;have l1:B0.length≤9223372036854775807:=by omega
 have l2:H0.length≤9223372036854775807:=by omega
 have l3:hs.length≤9223372036854775807:=by omega
 clear hq hc hbr hhr hr hp ho hw hV hB hH hBS hHS;go_enter Tryz.func8,Tryz.ntmps8
 go_upto_region 1 with fail
 obtain⟨Z,hZ⟩:=cR w.heap.size
 obtain⟨w1,hw1⟩:=cR ((w.alloc (.cells #[uq,uc,.slice ba B0.length bc,.slice ha H0.length hac] 44)).alloc (.cells #[.int .i64 q.src,.int .i64 q.dst,.int .i64 q.sz,.int .i64 q.rd,.int .i64 q.D,.int .i64 q.pr,.bool q.cu] 38))
 rw[hw1];have B1:Below Z w w1:=by rw[←hw1,←hZ];exact cZ
 have X0:w1.heap[Z]? =some (.cells #[uq,uc,.slice ba B0.length bc,.slice ha H0.length hac] 44 (0,0)):=by rw[←hw1,←hZ];exact(by repeat (first | exact cY (by first | rfl | (simp;done)) | refine(ak _ _ _ (by first | (simp;done) | (simp;omega))).trans ?_))
 have X1:w1.heap[Z+1]? =some (.cells #[.int .i64 q.src,.int .i64 q.dst,.int .i64 q.sz,.int .i64 q.rd,.int .i64 q.D,.int .i64 q.pr,.bool q.cu] 38 (0,0)):=by rw[←hw1,←hZ];exact(by repeat (first | exact cY (by first | rfl | (simp;done)) | refine(ak _ _ _ (by first | (simp;done) | (simp;omega))).trans ?_))
 have z1:Z+1<w1.heap.size:=(ai.1 X1).1;have z0:Z<w1.heap.size:=by omega
 have k0:=fun q_=>cU X0 q_
 have k1:=fun q_=>cU X1 q_
 have HZ:=aa hZ;have HX:=aa (cS B1 (cS X0 X1));rw[hZ]at HQ HC HBR HHR HR ⊢;clear hw1 B1 X0 X1 hZ;go_wp2_with fail
 refine(gJ qs cs B0 H0 uq uc _ _ w1 (HQ.out.below HX.out.1 (aj _) (by omega)) (HC.out.below HX.out.1 (aj _) (by omega)) (HBR.out.below HX.out.1 (aj _) (by omega)) (HHR.out.below HX.out.1 (aj _) (by omega))).mono ?_
 unfold CtPost;rintro e w2 ⟨⟨r,rfl,hr0⟩,hb2⟩;obtain rfl:r=0:=hr0.2 ⟨HH.out.1,HS.out.1,HS.out.2.1⟩;have z2:=hb2.size;have HX2:=aa (cS (HX.out.1.trans (hb2.mono (by omega))) (cS ((hb2.block _ z0).trans HX.out.2.1) ((hb2.block _ z1).trans HX.out.2.2)));have k0:=fun q_=>cU HX2.out.2.1 q_
 have k1:=fun q_=>cU HX2.out.2.2 q_
 have y0:Z<w2.heap.size:=by omega
 have y1:Z+1<w2.heap.size:=by omega
 clear hr0 hb2;go_wp2_with fail
 refine(gI qs cs q hs uq uc _ w2 (HQ.out.below HX2.out.1 (aj _) (by omega)) (HC.out.below HX2.out.1 (aj _) (by omega)) (HR.out.below HX2.out.1 (aj _) (by omega)) HH.out.1 HH.out.2.1 HH.out.2.2.1 (by omega)).mono ?_
 rw[HH.out.2.2.2];rintro e w3 ⟨rfl,hb3⟩;have z3:=hb3.size;have HX3:=aa (cS (HX2.out.1.trans (hb3.mono (by omega))) (cS ((hb3.block _ y0).trans HX2.out.2.1) ((hb3.block _ y1).trans HX2.out.2.2)));have k0:=fun q_=>cU HX3.out.2.1 q_
 have k1:=fun q_=>cU HX3.out.2.2 q_
 have y0:Z<w3.heap.size:=by omega
 have y1:Z+1<w3.heap.size:=by omega
 clear hb3;go_wp2_with fail
 refine(kO qs cs q hs 0 uq uc _ w3 (HQ.out.below HX3.out.1 (aj _) (by omega)) (HC.out.below HX3.out.1 (aj _) (by omega)) (HR.out.below HX3.out.1 (aj _) (by omega)) HH.out.1 HH.out.2.1 HH.out.2.2.1 (by omega)).mono ?_
 unfold RhPost;rintro e w4 ⟨⟨rM,MH,rfl,hMH,hrr⟩,hb4⟩;have z4:=hb4.size;have HX4:=aa (cS (HX3.out.1.trans (hb4.mono (by omega))) (cS ((hb4.block _ y0).trans HX3.out.2.1) ((hb4.block _ y1).trans HX3.out.2.2)));have HMR:=aa hrr;have hMl:MH.length=hs.length:=by rw[hMH.length_eq,fu]
 have HMS:Hid (HdSet qs (MH++H0)):=aa (by
  obtain⟨s1,s2,s3⟩:=HS.out.2.2.2;have hpp:=List.Perm.append_right H0 hMH;exact⟨by rw[hpp.length_eq];exact s1,fun x hx=>s2 x (hpp.mem_iff.1 hx),s3.perm hpp.symm⟩)
 obtain⟨ma,mc,rfl,m1,m2,-,-⟩:=id hrr;unfold maxLen at m2;have k0:=fun q_=>cU HX4.out.2.1 q_
 have y0:Z<w4.heap.size:=by omega
 have d1:decide ((B0.length:Int)+(hs.length:Int)>512)=false:=decide_eq_false (by omega);have d2:decide ((H0.length:Int)+(MH.length:Int)>512)=false:=decide_eq_false (by omega);have l4:MH.length≤9223372036854775807:=by omega
 clear hMH hrr hb4 k1;go_wp2_with fail
 refine(jk hs _ 0 w4 (HR.out.below HX4.out.1 (aj _) (by omega)) (by omega)).mono ?_
 unfold SortB;rintro e w5 ⟨⟨vM,MB,rfl,hMB,-,how⟩,hb5⟩;have z5:=hb5.size;have HX5:=aa (cS (HX4.out.1.trans (hb5.mono (by omega))) ((hb5.block _ y0).trans HX4.out.2.1));have HMB:=aa (dF (by decide) dL how);have hBMl:MB.length=hs.length:=by rw[hMB.length_eq];unfold bksL;rw[aZ]
 have HBS:Hid (BkSet cs (MB++B0)):=aa (HS.out.2.2.1.perm (List.Perm.append_right B0 hMB).symm);obtain⟨va,vc,rfl⟩:=dg how;have k0:=fun q_=>cU HX5.out.2 q_
 have y0:Z<w5.heap.size:=by omega
 have l5:MB.length≤9223372036854775807:=by omega
 have HMR5:=aa (HMR.out.below hb5 (aj _) hb5.size);clear hMB how hb5;go_wp2_with fail
 rw[hMl]at HMR5;rw[hBMl]at HMB;have HMBC:Hid (∀V:World,Below w5.heap.size w5 V→∀(k:Nat) (b:Bkg),MB[k]? =some b→∃bb o,va=some ⟨bb,o,none⟩∧bb<V.heap.size∧V.cell? ⟨bb,o+k*4,none⟩=some (.int .i64 b.ct)∧V.cell? ⟨bb,o+k*4+1,none⟩=some (.int .i64 b.bg)∧V.cell? ⟨bb,o+k*4+2,none⟩=some (.int .i64 b.en)∧V.cell? ⟨bb,o+k*4+3,none⟩=some (.int .i64 b.tk)):=aa (fun V hV k b hk=>by
  obtain⟨ca,cc,er,-,-,-,h4⟩:=HMB.out;injection er with e1 _ _
  obtain⟨bb,o,e2,hbb,hc⟩:=h4 (by have:=(aw.1 hk).1;omega);refine⟨bb,o,by rw[e1,e2],by have:=hV.size;omega,?_,?_,?_,?_⟩
  ·exact(hV.cell (p:=⟨bb,o+k*4,none⟩) hbb).trans (hc k b hk 0 _ rfl)
  ·exact(hV.cell (p:=⟨bb,o+k*4+1,none⟩) hbb).trans (hc k b hk 1 _ rfl)
  ·exact(hV.cell (p:=⟨bb,o+k*4+2,none⟩) hbb).trans (hc k b hk 2 _ rfl)
  ·exact(hV.cell (p:=⟨bb,o+k*4+3,none⟩) hbb).trans (hc k b hk 3 _ rfl))
 have hbr5:RRow bkgC 4 w5 w5.heap.size (.slice ba B0.length bc) B0:=HBR.out.below HX5.out.1 (aj _) (by omega);have hhr5:RRow hldC 5 w5 w5.heap.size (.slice ha H0.length hac) H0:=HHR.out.below HX5.out.1 (aj _) (by omega);have HBR5:=aa hbr5;have HHR5:=aa hhr5;clear hbr5 hhr5;go_loopw [9,56] (fun bv kv wr=>∃(k:Nat) (B:List Bkg),k≤hs.length∧kv= .int .i64 (k:Int)∧Hid (RRow bkgC 4 wr wr.heap.size bv B)∧Hid (BkOK cs B∧B.Perm (MB.take k++B0))∧Hid (Below w5.heap.size w5 wr)) (fun _ kv _=>hs.length-(intOf kv).toNat)
 case atStart=>exact⟨0,B0,aE _,rfl,HBR5,aa ⟨HS.out.1,by simp⟩,aa (ap _ _)⟩
 case round=>
  obtain⟨k,B,hk,rfl,HBv,HBk,HBL⟩:=hrel;have zr:w5.heap.size≤wr.heap.size:=HBL.out.size;have HXr:=aa (cS (HX5.out.1.trans (HBL.out.mono (by omega))) ((HBL.out.block _ y0).trans HX5.out.2));have zr0:Z<wr.heap.size:=by omega
  have i0:(0:Int)≤(k:Int):=by omega
  clear k0;by_cases hlt:k<hs.length
  ·obtain⟨b,hb⟩:∃b,MB[k]? =some b:=⟨_,am (by omega)⟩
   obtain⟨bb,o,rfl,hbb,g0,g1,g2,g3⟩:=HMBC.out wr HBL.out k b hb;have i1:(k:Int)<(hs.length:Int):=by omega
   have HB_:=aa hb;obtain⟨n1,n2,n3,n4⟩:=lJ HBS.out HBk.out.1 HBk.out.2 hb;have HNX:=aa (cS n2 (cS n3 n4));clear hb n2 n3 n4;go_upto_region 13 with fail
   obtain⟨w7,hw7⟩:=cR (wr.alloc (.cells #[.int .i64 b.ct,.int .i64 b.bg,.int .i64 b.en,.int .i64 b.tk] 53))
   rw[hw7];have b7:Below wr.heap.size wr w7:=by rw[←hw7];exact de (ap _ _)
   have X7:w7.heap[wr.heap.size]? =some (.cells #[.int .i64 b.ct,.int .i64 b.bg,.int .i64 b.en,.int .i64 b.tk] 53 (0,0)):=by rw[←hw7];exact cW
   have z7:wr.heap.size<w7.heap.size:=(ai.1 X7).1;have c7:=fun q=>cU X7 q
   have k0:=fun q_=>cU ((b7.block _ zr0).trans HXr.out.2) q_
   have zr7:Z<w7.heap.size:=by omega
   have HB7:Hid (Below Z w w7):=aa (HXr.out.1.trans (b7.mono (by omega)));have HBB7:Hid (Below w5.heap.size w5 w7):=aa (HBL.out.trans (b7.mono (by omega)));have HBv7:=aa (HBv.out.below b7 (aj _) b7.size);clear hw7 b7 X7 g0 g1 g2 g3;go_wp2_with fail
   refine(nF qs cs B b uq uc _ w7 (HQ.out.below HB7.out (aj _) (by omega)) (HC.out.below HB7.out (aj _) (by omega)) HBv7.out HH.out.1 HBk.out.1 n1 HNX.out.1 HNX.out.2.1).mono ?_
   unfold BAddPost;rintro e w8 ⟨⟨r8,j,rfl,hik,how⟩,hb8⟩;have z8:=hb8.size;have HN8:Hid (RRow bkgC 4 w8 w8.heap.size r8 (B.take j++b::B.drop j)):=aa (dF (by decide) dL how);have HO8:Hid (BkOK cs (B.take j++b::B.drop j)∧(B.take j++b::B.drop j).Perm (MB.take (k+1)++B0)):=aa ⟨HNX.out.2.2 j hik,jt HB_.out HBk.out.2⟩;have HB8:Hid (Below w5.heap.size w5 w8):=aa (HBB7.out.trans (hb8.mono (by omega)));clear hik how hb8 k0 c7;go_wp2
   go_roundw
   case rel=>exact⟨k+1,_,by omega,by go_num,HN8,HO8,HB8⟩
   case measure=>simp[intOf];omega
  ·obtain rfl:k=hs.length:=by omega
   clear hlt;obtain⟨W9,hW9⟩:∃V,V=wr:=⟨_,rfl⟩
   subst hW9;have HMC9:Hid (∀V:World,Below W9.heap.size W9 V→∀(k:Nat) (b:Hld),MH[k]? =some b→∃bb o,ma=some ⟨bb,o,none⟩∧bb<V.heap.size∧V.cell? ⟨bb,o+k*5,none⟩=some (.int .i64 b.nd)∧V.cell? ⟨bb,o+k*5+1,none⟩=some (.int .i64 b.fr)∧V.cell? ⟨bb,o+k*5+2,none⟩=some (.int .i64 b.tt)∧V.cell? ⟨bb,o+k*5+3,none⟩=some (.int .i64 b.sz)∧V.cell? ⟨bb,o+k*5+4,none⟩=some (.int .i64 b.tk)):=aa (fun V hV k b hk=>by
    obtain⟨ca,cc,er,-,-,-,h4⟩:=HMR5.out;injection er with e1 _ _
    obtain⟨bb,o,e2,hbb,hc⟩:=h4 (by have:=(aw.1 hk).1;omega);have hV5:Below w5.heap.size w5 V:=HBL.out.trans (hV.mono (by omega));refine⟨bb,o,by rw[e1,e2],by have:=hV5.size;omega,?_,?_,?_,?_,?_⟩
    ·exact(hV5.cell (p:=⟨bb,o+k*5,none⟩) hbb).trans (hc k b hk 0 _ rfl)
    ·exact(hV5.cell (p:=⟨bb,o+k*5+1,none⟩) hbb).trans (hc k b hk 1 _ rfl)
    ·exact(hV5.cell (p:=⟨bb,o+k*5+2,none⟩) hbb).trans (hc k b hk 2 _ rfl)
    ·exact(hV5.cell (p:=⟨bb,o+k*5+3,none⟩) hbb).trans (hc k b hk 3 _ rfl)
    ·exact(hV5.cell (p:=⟨bb,o+k*5+4,none⟩) hbb).trans (hc k b hk 4 _ rfl))
   have HHR9:Hid (RRow hldC 5 W9 W9.heap.size (.slice ha H0.length hac) H0):=aa (HHR5.out.below HBL.out (aj _) zr);have k0:=fun q_=>cU HXr.out.2 q_
   go_wp2_with fail
   go_loopw [14,76] (fun bv kv w'=>∃(k:Nat) (B:List Hld),k≤hs.length∧kv= .int .i64 (k:Int)∧Hid (RRow hldC 5 w' w'.heap.size bv B)∧Hid (HkOK qs B∧B.Perm (MH.take k++H0))∧Hid (Below W9.heap.size W9 w')) (fun _ kv _=>hs.length-(intOf kv).toNat)
   case atStart=>exact⟨0,H0,aE _,rfl,HHR9,aa ⟨HS.out.2.1,by simp⟩,aa (ap _ _)⟩
   case round=>
    obtain⟨k,H,hk,rfl,HHv,HHk,HHL⟩:=hrel;have zr2:W9.heap.size≤wr.heap.size:=HHL.out.size;have HXs:=aa (cS (HXr.out.1.trans (HHL.out.mono (by omega))) ((HHL.out.block _ zr0).trans HXr.out.2));have zs0:Z<wr.heap.size:=by omega
    have j0:(0:Int)≤(k:Int):=by omega
    clear k0;by_cases hlt:k<hs.length
    ·obtain⟨x,hx⟩:∃x,MH[k]? =some x:=⟨_,am (by omega)⟩
     obtain⟨bb,o,rfl,hbb,g0,g1,g2,g3,g4⟩:=HMC9.out wr HHL.out k x hx;have j1:(k:Int)<(hs.length:Int):=by omega
     have HX_:=aa hx;obtain⟨n1,n2,n3,n4⟩:=qj HMS.out HHk.out.1 HHk.out.2 hx;have HNX:=aa (cS n2 (cS n3 n4));clear hx n2 n3 n4;go_upto_region 22 with fail
     obtain⟨w7,hw7⟩:=cR (wr.alloc (.cells #[.int .i64 x.nd,.int .i64 x.fr,.int .i64 x.tt,.int .i64 x.sz,.int .i64 x.tk] 75))
     rw[hw7];have b7:Below wr.heap.size wr w7:=by rw[←hw7];exact de (ap _ _)
     have X7:w7.heap[wr.heap.size]? =some (.cells #[.int .i64 x.nd,.int .i64 x.fr,.int .i64 x.tt,.int .i64 x.sz,.int .i64 x.tk] 75 (0,0)):=by rw[←hw7];exact cW
     have z7:wr.heap.size<w7.heap.size:=(ai.1 X7).1;have c7:=fun q=>cU X7 q
     have k0:=fun q_=>cU ((b7.block _ zs0).trans HXs.out.2) q_
     have zr7:Z<w7.heap.size:=by omega
     have HB7:Hid (Below Z w w7):=aa (HXs.out.1.trans (b7.mono (by omega)));have HBB7:Hid (Below W9.heap.size W9 w7):=aa (HHL.out.trans (b7.mono (by omega)));have HHv7:=aa (HHv.out.below b7 (aj _) b7.size);clear hw7 b7 X7 g0 g1 g2 g3 g4;go_wp2_with fail
     refine(sadd_any qs cs H x uq uc _ w7 (HQ.out.below HB7.out (aj _) (by omega)) (HC.out.below HB7.out (aj _) (by omega)) HHv7.out HH.out.1 HHk.out.1 n1 HNX.out.1 HNX.out.2.1).mono ?_
     unfold SAddPost;rintro e w8 ⟨⟨r8,j,rfl,hik,how⟩,hb8⟩;have z8:=hb8.size;have HN8:Hid (RRow hldC 5 w8 w8.heap.size r8 (H.take j++x::H.drop j)):=aa (dF (by decide) dO how);have HO8:Hid (HkOK qs (H.take j++x::H.drop j)∧(H.take j++x::H.drop j).Perm (MH.take (k+1)++H0)):=aa ⟨HNX.out.2.2 j hik,jt HX_.out HHk.out.2⟩;have HB8:Hid (Below W9.heap.size W9 w8):=aa (HBB7.out.trans (hb8.mono (by omega)));clear hik how hb8 k0 c7;go_wp2
     go_roundw
     case rel=>exact⟨k+1,_,by omega,by go_num,HN8,HO8,HB8⟩
     case measure=>simp[intOf];omega
    ·obtain rfl:k=hs.length:=by omega
     go_wp2
     go_ret
     rw[HZ.out];exact⟨rfl,HXs.out.1⟩
end
section
structure KF (qs:List Int) (cs:List Con) (k:Tk) (R:List Tk):Prop where
 rq:ReqO qs.length k.q
 way:WayOK cs k.q k.q.src k.q.rd k.hs
 chk:rchkV cs k.q k.hs=0
 hl:k.hs.length≤512
 eqH:hldsT cs k=hopsR cs k.q k.no k.q.src k.q.rd k.hs
 bs:∀no,0≤no→no≤1152921504606846976→∀B,B.Perm (allB R)→BkSet cs (bksL no k.hs++B)
 hs:∀H,H.Perm (allH cs R)→HdSet qs (hopsR cs k.q 0 k.q.src k.q.rd k.hs++H)
 n0:0≤k.no
 n1:k.no≤1152921504606846976
theorem LedOK.perms {qs:List Int} {cs:List Con} {A C:List Tk} {k:Tk} (h:LedOK qs cs (A++k::C)):(allB (A++k::C)).Perm (bksL k.no k.hs++allB (A++C))∧(allH cs (A++k::C)).Perm (hldsT cs k++allH cs (A++C)):=by
 refine⟨?_,?_⟩
 ·have:=midB A C k (fun _=>true)
  rwa [eE (fun _ _=>rfl),eE (fun _ _=>rfl),eE (fun _ _=>rfl)]at this
 ·rw[fD,fp,fD,←aY,←aY]
  exact List.Perm.append_right _ List.perm_append_comm
theorem bksL_dis {B:List Bkg} {no:Int} {hs:List Hp} (no':Int) (h:(bksL no hs++B).Pairwise disB):(bksL no' hs++B).Pairwise disB:=by
 obtain⟨h1,h2,h3⟩:=aT.1 h;refine aT.2 ⟨?_,h2,fun a ha b hb=>?_⟩
 ·unfold bksL at h1 ⊢
  rw[List.pairwise_map]at h1 ⊢;exact h1.imp (fun h=>h)
 ·obtain⟨x,hx,rfl⟩:=bu.1 ha
  exact h3 ⟨x.ct,x.bg,x.en,no⟩ (bu.2 ⟨x,hx,rfl⟩) b hb
theorem kf_of {qs:List Int} {cs:List Con} {A C:List Tk} {k:Tk} (h:LedOK qs cs (A++k::C)) (hk:k.st=1):KF qs cs k (A++C):=by
 have ht:=h.tk k (by simp);obtain⟨pB,pH⟩:=h.perms;rcases ht.st with⟨_,e1,e2,e3,e4⟩ | ⟨e,_⟩
 case inr=>omega
 have eR:∀no,hopsR cs k.q no k.q.src k.q.rd k.hs=hopsH cs k.q no k.q.src k.q.rd k.hs:=fun no=>mJ h.pl ht.rq no ht.way (aR _)
 have eT:hldsT cs k=hopsH cs k.q k.no k.q.src k.q.rd k.hs:=by
  unfold hldsT endH;rw[if_neg (fun hh=>hh.1 e2),cK]
 have hR:∀n x,lev (hopsH cs k.q 0 k.q.src k.q.rd k.hs) n x=lev (hopsH cs k.q k.no k.q.src k.q.rd k.hs) n x:=fun n x=>lV 0 k.no n x k.hs _ _
 refine⟨ht.rq,ht.way,?_,h.hops (by simp),by rw[eT,eR],fun no n0 n1 B hB=>?_,fun H hH=>?_,by have:=ht.n0;omega,ht.n1⟩
 ·unfold rchkV
  rw[if_neg e1,if_neg (by rw[e2];simp),if_pos e3]
 ·have hpm:(bksL no k.hs++B).Perm (bksL no k.hs++allB (A++C)):=List.Perm.append_left _ hB
  refine BkSet.perm ?_ hpm.symm
  refine⟨?_,fun b hb=>?_,bksL_dis no ((fO pB).1 h.dis)⟩
  ·have:=pB.length_eq
   have h5:=h.nb;rw[ay]at this ⊢;unfold bksL at this ⊢;rw[aZ]at this ⊢;omega
  ·rcases aA.1 hb with hb | hb
   ·exact oO h.pl ht.rq ht.way n0 n1 b hb
   ·exact ka h.pl h.tk b (pB.mem_iff.2 (List.mem_append_right _ hb))
 ·have hpm:(hopsR cs k.q 0 k.q.src k.q.rd k.hs++H).Perm (hopsR cs k.q 0 k.q.src k.q.rd k.hs++allH cs (A++C)):=List.Perm.append_left _ hH
  refine⟨?_,fun x hx=>?_,LevOK.perm (fun n q hn t=>?_) hpm.symm⟩
  ·have h5:=pH.length_eq
   have h6:=h.nh;rw[hpm.length_eq,ay,fu];rw[eT,←eR,ay,fu]at h5;omega
  ·rcases aA.1 hx with hx | hx
   ·rw[eR]at hx
    obtain⟨⟨s0,s1,_,_⟩,_,⟨_,_,r0,_⟩,_⟩:=id ht.rq;exact jd h.pl ht.rq (aR 0) (by omega) ht.way s0 s1 r0 (aR _) x hx
   ·exact ke h.pl h.tk x (pH.mem_iff.2 (List.mem_append_right _ (hH.mem_iff.1 hx)))
  ·have h5:=h.lev n q hn t
   rw[iw pH,dJ,eT]at h5;rw[dJ,eR,hR];exact h5
theorem qx {qs:List Int} {cs:List Con} {A C:List Tk} {k:Tk} (h:LedOK qs cs (A++k::C)) (hk:k.st=1) {Bt Bu M:List Bkg} {Ht Hu N:List Hld} (b1:Bt.Perm (allB (A++k::C))) (b2:BkOK cs Bt) (b3:Bu.Perm (M++allB (A++C))) (b4:M.Perm (bksL k.no k.hs)) (b5:BkOK cs Bu) (h1:Ht.Perm (allH cs (A++k::C))) (h2:Hu.Perm (allH cs (A++C))) (h3:N.Perm (hopsR cs k.q k.no k.q.src k.q.rd k.hs)):
  Bu=Bt∧Ht.length=Hu.length+N.length:=by
 obtain⟨pB,pH⟩:=h.perms;have hf:=kf_of h hk;refine⟨b5.uniq b2 (b3.trans ((List.Perm.append_right _ b4).trans (pB.symm.trans b1.symm))),?_⟩
 rw[h1.length_eq,pH.length_eq,ay,h2.length_eq,h3.length_eq,hf.eqH];omega
theorem rrow_at {α:Type} {en:α→List Value} {s base:Nat} {w:World} {bb o n c:Nat} {l:List α} (h:RRow en s w base (.slice (some ⟨bb,o,none⟩) n c) l) (hp:0<l.length):bb<base∧∀(i:Nat) (x:α),l[i]? =some x→∀(j:Nat) (u:Value),(en x)[j]? =some u→w.cell? ⟨bb,o+i*s+j,none⟩=some u:=by
 obtain⟨a,c',e,-,-,-,h4⟩:=h;obtain⟨b2,o2,e2,h5,h6⟩:=h4 hp;injection e with e1 _ _
 rw[←e1]at e2;injection e2 with e2
 injection e2 with e3 e4 _
 subst e3 e4;exact⟨h5,h6⟩
def offK (no:Int) (ps:List (Tk×Value)):List (Tk×Value):=ps.filter (fun p=>p.1.no != no)
theorem lM {no:Int} {ps:List (Tk×Value)} {k:Nat} {x:Tk×Value} (hx:ps[k]? =some x):offK no (ps.take (k+1))=if x.1.no=no then offK no (ps.take k)else offK no (ps.take k)++[x]:=by
 have hl:=(aw.1 hx).1;have e:=(aw.1 hx).2;rw[List.take_succ_eq_append_getElem hl,e];unfold offK;rw[aW];by_cases h:x.1.no=no
 ·simp[h]
 ·simp[h]
theorem off_tks {W:World} {base:Nat} {no:Int} {yv:Value} {ps:List (Tk×Value)} {ts:List Tk} (hps:ts=ps.map (·.1)) (ho:W.ownsRow base 41 11 yv (offK no ps).length ((offK no ps).flatMap tkP)) (hh:∀p∈ps,RHops W p.2 p.1.hs):RTks W yv (ts.filter (fun t=>t.no != no)):=
 ⟨offK no ps,by rw[hps,List.filter_map];rfl,dF (by decide) fI ho,fun p hp=>hh p (bG.1 hp).1⟩
theorem qy {ts:List Tk} {t:Tk} {j:Nat} (num:ts.Pairwise (fun a b=>a.no<b.no)) (hx:ts[j]? =some t):∃A C,ts=A++t::C∧ts.filter (fun x=>x.no != t.no)=A++C:=by
 have hl:=(aw.1 hx).1;have e0:=(aw.1 hx).2;have e:ts=ts.take j++t::ts.drop (j+1):=by
  rw[←e0,←bX hl,bP]
 obtain⟨A,hA⟩:=cR (ts.take j)
 obtain⟨C,hC⟩:=cR (ts.drop (j+1))
 rw[hA,hC]at e;subst e;obtain⟨_,n2,n3⟩:=aT.1 num;obtain⟨n4,_⟩:=aM.1 n2;refine⟨A,C,rfl,?_⟩
 rw[aW,List.filter_cons];have hA':A.filter (fun x=>x.no != t.no)=A:=List.filter_eq_self.2 fun a ha=>by have:=n3 a ha t (by simp);rw[bne_iff_ne];omega
 have hC':C.filter (fun x=>x.no != t.no)=C:=List.filter_eq_self.2 fun a ha=>by have:=n4 a ha;rw[bne_iff_ne];omega
 rw[hA',hC'];simp
structure LwS (Z T:Nat) (w:World) (pc kc:Array Value) (u:Value) (hs:List Hp) (W:World):Prop where
 hb:Below Z w W
 hp:W.heap[Z]? =some (.cells pc 25 (0,0))
 hk:W.heap[T]? =some (.cells kc 41 (0,0))
 hu:RHops W u hs
theorem hat {W W':World} {g:Nat} {o:Obj} (h:W.heap[g]? =some o) (k:Below W.heap.size W W'):W'.heap[g]? =some o:=(k.block _ (ai.1 h).1).trans h
theorem hatl {W:World} {g:Nat} {o:Obj} (h:W.heap[g]? =some o):g<W.heap.size:=(ai.1 h).1
theorem LwS.below {Z T:Nat} {w:World} {pc kc:Array Value} {u:Value} {hs:List Hp} {W W':World} (h:LwS Z T w pc kc u hs W) (k:Below W.heap.size W W'):LwS Z T w pc kc u hs W':=
 ⟨h.hb.trans (k.mono (Nat.le_of_lt (hatl h.hp))),hat h.hp k,hat h.hk k,h.hu.below' k⟩
theorem LwS.zl {Z T:Nat} {w:World} {pc kc:Array Value} {u:Value} {hs:List Hp} {W:World} (h:LwS Z T w pc kc u hs W):Z≤W.heap.size:=Nat.le_of_lt (hatl h.hp)
end
section
attribute [local go_sem ↓] neBkg
theorem oH (B:List Bkg) (u v:Value) (w:World) (hu:RRow bkgC 4 w w.heap.size u B) (hv:RRow bkgC 4 w w.heap.size v B):
  Calls Tryz.prog 34 #[u,v] w fun e w'=>e= .returned (.bool true)∧Below w.heap.size w w':=by
 obtain⟨au,cu,rfl,q1,q2,-,q4⟩:=hu;obtain⟨av,cv,rfl,c1,c2,-,c4⟩:=hv;have HQ4:=aa q4;have HC4:=aa c4;unfold maxLen at q2 c2;have hlq:B.length≤9223372036854775807:=by omega
 clear q4 c4;go_enter Tryz.func34,Tryz.ntmps34
 go_wp2_with fail
 go_loopw [5] (fun kv wr=>∃k:Nat,k≤B.length∧kv= .int .i64 (k:Int)∧Hid (Below w.heap.size w wr)) (fun kv _=>B.length-(intOf kv).toNat)
 case atStart=>exact⟨0,aE _,rfl,aa (ap _ _)⟩
 case round=>
  obtain⟨k,hk,rfl,HBr⟩:=hrel;have zr:w.heap.size≤wr.heap.size:=HBr.out.size;have j0:(0:Int)≤(k:Int):=by omega
  by_cases hlt:k<B.length
  ·have j1:(k:Int)<(B.length:Int):=by omega
   obtain⟨bb,o,rfl,hbb,hcc⟩:=HQ4.out (by omega);obtain⟨bv,ov,rfl,hbv,hcv⟩:=HC4.out (by omega);obtain⟨x,hx⟩:∃x,B[k]? =some x:=⟨_,am hlt⟩
   have hm:∀q,wr.cell? ⟨bb,q,none⟩=w.cell? ⟨bb,q,none⟩:=fun q=>HBr.out.cell (p:=⟨bb,q,none⟩) hbb
   have hn:∀q,wr.cell? ⟨bv,q,none⟩=w.cell? ⟨bv,q,none⟩:=fun q=>HBr.out.cell (p:=⟨bv,q,none⟩) hbv
   have g0:=(hm (o+k*4)).trans (hcc k x hx 0 _ rfl);have g1:=(hm (o+k*4+1)).trans (hcc k x hx 1 _ rfl);have g2:=(hm (o+k*4+2)).trans (hcc k x hx 2 _ rfl);have g3:=(hm (o+k*4+3)).trans (hcc k x hx 3 _ rfl);have f0:=(hn (ov+k*4)).trans (hcv k x hx 0 _ rfl);have f1:=(hn (ov+k*4+1)).trans (hcv k x hx 1 _ rfl);have f2:=(hn (ov+k*4+2)).trans (hcv k x hx 2 _ rfl);have f3:=(hn (ov+k*4+3)).trans (hcv k x hx 3 _ rfl);have gb:bb<wr.heap.size:=by omega
   have gv:bv<wr.heap.size:=by omega
   clear hcc hcv hx hm hn;go_upto_region 6 with fail
   go_quiet (fail)
   go_wp2
   go_roundw
   case rel=>exact⟨k+1,by omega,by go_num,aa (eu HBr.out _)⟩
   case measure=>simp[intOf];omega
  ·obtain rfl:k=B.length:=by omega
   go_wp2
   go_ret
   exact⟨rfl,HBr.out⟩
theorem oI (w:World):
  Calls Tryz.prog 35 #[.slice none 0 0,.slice none 0 0] w fun e w'=>e= .returned (.bool true)∧Below w.heap.size w w':=by
 go_enter Tryz.func35,Tryz.ntmps35
 go_wp2_with fail
 go_loopw [5] (fun kv wr=>kv= .int .i64 0∧Hid (Below w.heap.size w wr)) (fun _ _=>0)
 case atStart=>exact⟨rfl,aa (ap _ _)⟩
 case round=>
  obtain⟨rfl,HBr⟩:=hrel;go_wp2
  go_ret
  exact⟨rfl,HBr.out⟩
theorem qz (qs:List Int) (cs:List Con) (B:List Bkg) (uq uc ub vb:Value) (w:World) (hq:RRow intC 1 w w.heap.size uq qs) (hc:RRow conC 7 w w.heap.size uc cs) (hu:RRow bkgC 4 w w.heap.size ub B) (hv:RRow bkgC 4 w w.heap.size vb B):
  Calls Tryz.prog 12 #[.agg #[uq,uc,ub,.slice none 0 0],.agg #[uq,uc,vb,.slice none 0 0]] w fun e w'=>e= .returned (.bool true)∧Below w.heap.size w w':=by
 have HQ:=aa hq;have HC:=aa hc;have HU:=aa hu;have HV:=aa hv;obtain⟨aq,cq,rfl,-⟩:=hq;obtain⟨ca,cc,rfl,-⟩:=hc;obtain⟨au,cu,rfl,-⟩:=hu;obtain⟨av,cv,rfl,-⟩:=hv;go_enter Tryz.func12,Tryz.ntmps12
 go_upto_region 1 with fail
 obtain⟨Z,hZ⟩:=cR w.heap.size
 obtain⟨w1,hw1⟩:=cR ((w.alloc (.cells #[.slice aq qs.length cq,.slice ca cs.length cc,.slice au B.length cu,.slice none 0 0] 44)).alloc (.cells #[.slice aq qs.length cq,.slice ca cs.length cc,.slice av B.length cv,.slice none 0 0] 44))
 rw[hw1];have B1:Below Z w w1:=by rw[←hw1,←hZ];exact cZ
 have X0:w1.heap[Z]? =some (.cells #[.slice aq qs.length cq,.slice ca cs.length cc,.slice au B.length cu,.slice none 0 0] 44 (0,0)):=by rw[←hw1,←hZ];exact(ak _ _ _ (by simp)).trans cW
 have X1:w1.heap[Z+1]? =some (.cells #[.slice aq qs.length cq,.slice ca cs.length cc,.slice av B.length cv,.slice none 0 0] 44 (0,0)):=by rw[←hw1,←hZ];exact cY (by simp)
 have z1:Z+1<w1.heap.size:=(ai.1 X1).1;have z0:Z<w1.heap.size:=by omega
 have k0:=fun q_=>cU X0 q_
 have k1:=fun q_=>cU X1 q_
 have HX:=aa (cS B1 (cS X0 X1));have HZ:=aa hZ;rw[hZ]at HQ HC HU HV ⊢;clear hw1 B1 X0 X1 hZ;go_wp2_with fail
 refine(oE qs cs (.slice aq qs.length cq) (.slice ca cs.length cc) w1 (HQ.out.below HX.out.1 (aj _) (by omega)) (HC.out.below HX.out.1 (aj _) (by omega))).mono ?_
 rintro e w2 ⟨rfl,hb2⟩;have HX2:=aa (cS (HX.out.1.trans (hb2.mono (by omega))) (cS ((hb2.block _ z0).trans HX.out.2.1) ((hb2.block _ z1).trans HX.out.2.2)));have k0:=fun q_=>cU HX2.out.2.1 q_
 have k1:=fun q_=>cU HX2.out.2.2 q_
 have y1:Z+1<w2.heap.size:=(ai.1 HX2.out.2.2).1;have y0:Z<w2.heap.size:=by omega
 clear hb2;go_wp2_with fail
 refine(oH B (.slice au B.length cu) (.slice av B.length cv) w2 (HU.out.below HX2.out.1 (aj _) (by omega)) (HV.out.below HX2.out.1 (aj _) (by omega))).mono ?_
 rintro e w3 ⟨rfl,hb3⟩;have HX3:=aa (cS (HX2.out.1.trans (hb3.mono (by omega))) (cS ((hb3.block _ y0).trans HX2.out.2.1) ((hb3.block _ y1).trans HX2.out.2.2)));have k0:=fun q_=>cU HX3.out.2.1 q_
 have k1:=fun q_=>cU HX3.out.2.2 q_
 have x1:Z+1<w3.heap.size:=(ai.1 HX3.out.2.2).1;have x0:Z<w3.heap.size:=by omega
 clear hb3;go_wp2_with fail
 refine(oI w3).mono ?_
 rintro e w4 ⟨rfl,hb4⟩;have HB4:Hid (Below Z w w4):=aa (HX3.out.1.trans (hb4.mono (by omega)));clear hb4 k0 k1;go_wp2
 go_ret
 rw[HZ.out];exact⟨rfl,HB4.out⟩
end
section
def exQ:List Int:=[100,100,100]
def exC:List Con:=[⟨0,1,10,60,4,5,0⟩,⟨1,2,50,100,4,5,0⟩]
def exR:Rq:=⟨0,2,20,0,90,0,false⟩
def exG:Gp:=gQ exC [] [[(0,1099511627776)],[(0,1099511627776)],[(0,1099511627776)]] exR
theorem mj:PlanOK exQ exC:=by
 refine⟨by decide,fun q hq=>?_,fun k c hk=>?_⟩
 ·have:q=100:=by simpa [exQ]using hq
  subst this;unfold qOK;decide
 ·match k,hk with
  | 0,hk=>
   obtain rfl:(⟨0,1,10,60,4,5,0⟩:Con)=c:=Option.some.inj hk;unfold cOK;decide
  | 1,hk=>
   obtain rfl:(⟨1,2,50,100,4,5,0⟩:Con)=c:=Option.some.inj hk;unfold cOK;decide
  | k+2,hk=>simp[exC]at hk
theorem ex_req:ReqO exQ.length exR:=by
 unfold ReqO ReqOK;decide
theorem ex_rooms {R:List (List Sp)} (hk:HkOK exQ []) (hR:RoomsOK exQ exQ [] 20 R):R=[[(0,1099511627776)],[(0,1099511627776)],[(0,1099511627776)]]:=by
 match R,hR with
 | [a,b,c],hR=>
  have h0:=(hR.2.2 hk 0 100 a rfl rfl).2.2 rfl;have h1:=(hR.2.2 hk 1 100 b rfl rfl).2.2 rfl;have h2:=(hR.2.2 hk 2 100 c rfl rfl).2.2 rfl;simp at h0 h1 h2
  subst h0 h1 h2;rfl
 | [],hR=>exact absurd hR.1 (by decide)
 | [_],hR=>exact absurd hR.1 (by simp[exQ])
 | [_,_],hR=>exact absurd hR.1 (by simp[exQ])
 | _::_::_::_::_,hR=>exact absurd hR.1 (by simp[exQ])
theorem kZ (g:Gp):∀(l:List Mv) (p:Int×Bool),p.2=true→(l.foldl (stepA g) p).2=true∧(l.foldl (stepA g) p).1≤p.1
 | [],p,h=>⟨h,aR _⟩
 | m::r,p,h=>by
  rw[List.foldl_cons];have hs:(stepA g p m).2=true∧(stepA g p m).1≤p.1:=by
   unfold stepA;split
   ·rename_i hc
    rcases hc.2 with h2 | h2
    ·rw[h]at h2;cases h2
    ·exact⟨rfl,Int.le_of_lt h2⟩
   ·exact⟨h,aR _⟩
  have:=kZ g r (stepA g p m) hs.1;exact⟨this.1,Int.le_trans this.2 hs.2⟩
theorem nP (g:Gp):∀(l:List Mv) (p:Int×Bool) (m:Mv),m∈l→m.1.nd=g.dst→(l.foldl (stepA g) p).2=true∧(l.foldl (stepA g) p).1≤m.1.tm
 | x::r,p,m,hm,hd=>by
  rw[List.foldl_cons];rcases aG.1 hm with rfl | hm
  ·have hs:(stepA g p m).2=true∧(stepA g p m).1≤m.1.tm:=by
    unfold stepA;split
    ·exact⟨rfl,aR _⟩
    ·rename_i hc
     cases hp:p.2 with
     | false=>exact absurd ⟨hd,.inl hp⟩ hc
     | true=>exact⟨rfl,Int.le_of_not_gt fun h=>hc ⟨hd,.inr h⟩⟩
   have:=kZ g r (stepA g p m) hs.1;exact⟨this.1,Int.le_trans this.2 hs.2⟩
  ·exact nP g r _ m hm hd
theorem ex_move1:movesL exG ⟨0,0,1099511627776,0⟩=[(⟨1,0,1099511627776,24⟩,(0,10,19,24))]:=by kernel_rfl
theorem ex_move2 {t:Int} (h0:0≤t) (h1:t≤24):∃m∈movesL exG ⟨1,0,1099511627776,t⟩,m.1.nd=2∧m.1.tm=64:=by
 refine⟨(⟨2,0,1099511627776,64⟩,(1,50,59,64)),?_,rfl,rfl⟩
 have hh:hopG [(50,100)] 9 (max t 0)=some 50:=by
  unfold hopG;rw[if_pos (by omega)];congr 1
  omega
 have hm:moveOf exG ⟨1,0,1099511627776,t⟩ 1 (0,1099511627776)=some (⟨2,0,1099511627776,64⟩,(1,50,59,64)):=by
  unfold moveOf;rw[show gapA exG 1=[(50,100)]by decide+kernel,show durA exG 1=9 by decide+kernel];simp only[hh];rw[if_pos (by unfold mvOK;exact⟨by show leaveS exG.cu (50+9) (conA exG 1).rg≤1099511627776;decide+kernel,by show(50+9+(conA exG 1).rg:Int)≤exG.D;decide+kernel,.inl (by show(conA exG 1).tt=exG.dst;decide+kernel)⟩)];rfl
 unfold movesL movesP;rw[cw];refine⟨1,by decide+kernel,?_⟩
 unfold movesI;rw[if_pos (by show(conA exG 1).fr=1;decide+kernel),show roomsA exG 1=[(0,1099511627776)]by decide+kernel];rw[List.mem_filterMap];exact⟨_,by simp,hm⟩
theorem ex_arr {D:List Lbl} (h:LabOK exG D):(arrL exG D).2=true∧(arrL exG D).1≤64:=by
 have hvl:∀y∈D,y.fr=0∧y.tt=1099511627776∧0≤y.tm:=fun y hy=>by
  obtain⟨n,h1,h2,h3,h4,_⟩:=h.vd y hy;have h5:n=0∨n=1∨n=2:=by have:n<3:=h2;omega
  have h6:(y.fr,y.tt)=(0,1099511627776):=by
   rcases h5 with rfl | rfl | rfl<;>exact aH.1 h3
  simp only[Prod.mk.injEq]at h6;exact⟨h6.1,h6.2,h4⟩
 obtain⟨y,hy,hk,ht⟩:=h.beg (0,1099511627776) (by decide+kernel) (by decide+kernel) (by decide+kernel);have hy':y=⟨0,0,1099511627776,0⟩:=by
  obtain⟨h1,h2,h3⟩:=hvl y hy;obtain⟨a,b,c,d⟩:=y;simp only[keyL,Prod.mk.injEq]at hk;have ht':d≤0:=ht;simp only at h1 h2 h3;have e1:a=0:=hk.1;subst e1 h1 h2;obtain rfl:d=0:=by omega
  rfl
 subst hy';obtain⟨z,hz,hkz,htz⟩:=h.cls _ hy (⟨1,0,1099511627776,24⟩,(0,10,19,24)) (by rw[ex_move1];simp) (by decide+kernel);obtain⟨h1,h2,h3⟩:=hvl z hz;obtain⟨a,b,c,d⟩:=z;simp only[keyL,Prod.mk.injEq]at hkz;simp only at h1 h2 h3 htz;have e1:a=1:=hkz.1;subst e1 h1 h2;obtain⟨m,hm,hd,he⟩:=ex_move2 h3 htz;have:=nP exG (movesAll exG D) (0,false) m (cw.2 ⟨_,hz,hm⟩) hd;rw[he]at this;exact this
theorem ex_way {hs:List Hp} {x:Int} (h:EOK exQ exC exR [] [] hs) (ha:∀h,hs.getLast? =some h→h.ar=x) (hx:x≤64):∃a b,hs=[a,b]∧b.ar=64:=by
 have hct:∀{n t:Int} {a:Hp},HopOK exC exR n t a→a.ct=0∨a.ct=1:=fun k=>by
  have h0:=k.c0;have h1:_<(2:Int):=k.c1;omega
 have hw:=h.way;match hs,h,ha,hw with
 | [],h,_,_=>exact absurd rfl h.ne
 | [a],h,_,hw=>
  have h1:=hw.1;have hf:=h.fin;rcases hct h1 with e | e
  ·simp only[nodeE,e]at hf
   exact absurd hf (by decide+kernel)
  ·have:=h1.fr
   rw[e]at this;exact absurd this (by decide+kernel)
 | [a,b],h,ha,hw=>
  obtain⟨h1,h2,_⟩:=hw;rcases hct h1 with e | e
  ·rcases hct h2 with e2 | e2
   ·have:=h2.fr
    rw[e,e2]at this;exact absurd this (by decide+kernel)
   ·refine⟨a,b,rfl,?_⟩
    have h3:=ha b rfl;have h4:=h2.ar;have h5:=h2.en;have h6:=h2.st;rw[e2]at h4 h5 h6;rw[show(conOf exC 1).rg=5 by decide+kernel]at h4;rw[show durS (conOf exC 1) exR.sz.toNat=9 by decide+kernel]at h5;rw[show(conOf exC 1).st=50 by decide+kernel]at h6;omega
  ·have:=h1.fr
   rw[e]at this;exact absurd this (by decide+kernel)
 | a::b::c::r,h,_,hw=>
  obtain⟨h1,h2,h3,_⟩:=hw;rcases hct h1 with e | e
  ·rcases hct h2 with e2 | e2
   ·have:=h2.fr
    rw[e,e2]at this;exact absurd this (by decide+kernel)
   ·have:=h3.nd
    rw[e2]at this;exact absurd (show(conOf exC 1).tt=exR.dst by decide+kernel) this
  ·have:=h1.fr
   rw[e]at this;exact absurd this (by decide+kernel)
end
end Go.Proofs.YtfnciigbbolckaaGreat
