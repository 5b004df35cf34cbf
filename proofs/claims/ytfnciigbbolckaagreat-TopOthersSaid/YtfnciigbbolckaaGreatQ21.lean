/- Part 21 of the proof about mailboattop.TopOthers. No condition. -/
import Derived.Test.YtfnciigbbolckaaGreatQ00
import Derived.Test.YtfnciigbbolckaaGreatQ01
import Derived.Test.YtfnciigbbolckaaGreatQ04
import Derived.Test.YtfnciigbbolckaaGreatQ08
import Derived.Test.YtfnciigbbolckaaGreatQ20
set_option linter.unusedVariables false
set_option linter.unusedSimpArgs false
set_option maxRecDepth 100000
set_option maxHeartbeats 64000000
namespace Go.Proofs.YtfnciigbbolckaaGreat
section
open Go Go.RowKit Iv
attribute [local go_sem] Oper.semAt_some
attribute [local go_sem] pw gu B_app pv B_get B_toList
open Go.Shelf
def MovW (gB:Nat) (x:Lbl) (w w':World):Prop:=Below w.heap.size w w'∧w'.heap.size=w.heap.size+2∧w'.heap[w.heap.size]? =some (.cells #[.pointer (some ⟨gB,0,none⟩)] 147 (0,0))∧w'.heap[w.heap.size+1]? =some (.cells #[.int .i64 x.nd,.int .i64 x.fr,.int .i64 x.tt,.int .i64 x.tm] 153 (0,0))
theorem jl (gB:Nat) (x:Lbl) (w:World):Calls Tryz.prog 80 #[.pointer (some ⟨gB,0,none⟩),.agg #[.int .i64 x.nd,.int .i64 x.fr,.int .i64 x.tt,.int .i64 x.tm]] w fun e w'=>e= .returned (.func (.func 126) #[] #[.pointer (some ⟨w.heap.size,0,none⟩),.pointer (some ⟨w.heap.size+1,0,none⟩)])∧MovW gB x w w':=by
 go_enter Tryz.func80,Tryz.ntmps80
 go_wp2
 go_ret
 refine⟨rfl,cZ,by simp,?_,?_⟩
 all_goals exact(by repeat (first | exact cY (by first | rfl | (simp;done)) | refine(ak _ _ _ (by first | (simp;done) | (simp;omega))).trans ?_))
def lOK (x:Lbl):Prop:=0≤x.tm∧x.tm≤1099511627776
theorem gG (g:Gp) (hg:GOK g) (gB z1 z2:Nat) (x:Lbl) (w0 W0:World) (hgr:Gr w0 gB g) (hck:CK w0 W0) (b1:W0.heap[z1]? =some (.cells #[.pointer (some ⟨gB,0,none⟩)] 147 (0,0))) (b2:W0.heap[z2]? =some (.cells #[.int .i64 x.nd,.int .i64 x.fr,.int .i64 x.tt,.int .i64 x.tm] 153 (0,0))) (hx:lOK x):
  SeqStopsK Fence.wide 11 Tryz.prog 126 #[.pointer (some ⟨z1,0,none⟩),.pointer (some ⟨z2,0,none⟩)] (fun m:{m:Mv // m∈movesL g x}=>#[Value.agg (mvC m.1)]) (KpP w0.heap.size z1 z2) (fun ys=>ys.map (·.1)=movesL g x) (fun _=>True) (movesL g x).length W0:=by
 intro l J Jx W hWb hJ hJx hY hJ0;have hCK:=hck.trans (CK.of hWb);have c1:W.heap[z1]? =some (.cells #[.pointer (some ⟨gB,0,none⟩)] 147 (0,0)):=(hWb.block _ (ai.1 b1).1).trans b1;have c2:W.heap[z2]? =some (.cells #[.int .i64 x.nd,.int .i64 x.fr,.int .i64 x.tt,.int .i64 x.tm] 153 (0,0)):=(hWb.block _ (ai.1 b2).1).trans b2;have HCK:=aa hCK;have HC1:=aa c1;have HC2:=aa c2;have HG:=aa hg;have HGR:=aa hgr;have HX:=aa hx;have HAL:Hid (∀pre V o,J pre V→J pre (V.alloc o)):=aa (fun pre V o h=>hJ pre V _ none h (World.grownBy_alloc _ _ _) (fun r e=>by cases e));have HBE:Hid (∀pre (V V':World),Below V.heap.size V V'→J pre V→J pre V'):=aa (fun pre V V' hb h=>hJ pre V _ none h ⟨hb.os,hb.tape,hb.output,hb.size,fun k hk _=>hb.block k hk⟩ (fun r e=>by cases e));have HY:=aa hY;clear hck b1 b2 hWb hCK c1 c2 hJ hJx hY hg hgr hx;refine callsIn_of_wp Tryz.func126 rfl trivial ?_ rfl
 simp only[Tryz.ntmps126,bJ,aI,bE,Nat.reduceAdd,Nat.reduceSub,bS,bT,cH,bW,br,a8];refine wpIn_wide.2 ?_
 obtain⟨uq,uc,ub,uh,ug,ur,ud,g1,g2,-⟩:=(HGR.out.ck HCK.out).box;obtain⟨ac,cc,rfl,e1,e2,e3,e4⟩:=g2;have HE4:=aa e4;have HG1:=aa g1;have k1:=cU HC1.out 0;have k2:=fun q=>cU g1 q
 unfold maxLen at e2;have hlen:g.cs.length≤9223372036854775807:=by omega
 have hgl:=HGR.out.lt;have hgW:gB<W.heap.size:=(HGR.out.ck HCK.out).lt;have hz1:z1<W.heap.size:=(ai.1 HC1.out).1;have hz2:z2<W.heap.size:=(ai.1 HC2.out).1;clear e3 e4 g1;go_wp2_with fail
 go_loopw [17] (fun kv wr=>∃(i:Nat) (pre:List {m:Mv // m∈movesL g x}),i≤g.cs.length∧kv= .int .i64 (i:Int)∧Hid (pre.map (·.1)=movesP g x i)∧Hid (J pre wr)∧Hid (KpP w0.heap.size z1 z2 W wr)) (fun kv _=>g.cs.length-(intOf kv).toNat)
 case atStart=>exact⟨0,[],aE _,rfl,aa rfl,aa hJ0,aa (KpP.refl _ _ _ _)⟩
 case round=>
  clear k1 k2;obtain⟨i,pre,hi,rfl,HP,HJr,HK⟩:=hrel;have HCKr:Hid (CK w0 wr):=aa (HCK.out.kpp HK.out (aj _));have zr:W.heap.size≤wr.heap.size:=HK.out.1;by_cases hlt:i<g.cs.length
  ·obtain⟨c,hc⟩:∃c,g.cs[i]? =some c:=⟨_,am hlt⟩
   obtain⟨d,hd⟩:∃d,g.Ds[i]? =some d:=⟨_,am (by rw[HG.out.dl];exact hlt)⟩
   obtain⟨L,hL⟩:∃L,g.G[i]? =some L:=⟨_,am (by rw[HG.out.gl];exact hlt)⟩
   have hcA:conA g i=c:=by unfold conA;rw[aJ,hc];rfl
   have hdA:durA g i=d:=by unfold durA;rw[aJ,hd];rfl
   have hLA:gapA g i=L:=by unfold gapA;rw[aJ,hL];rfl
   have hcc:=HG.out.con c (az hc);have hcf:=ee hcc.1;have hdd:=HG.out.ds d (az hd);obtain⟨tn,htn⟩:=bh hcf.tt0;have htl:tn<g.R.length:=by have:=hcc.2.2;omega
   obtain⟨uq',uc',ub',uh',ug',ur',ud',g1',g2',-⟩:=(HGR.out.ck HCKr.out).box;have huc:uc'= .slice ac g.cs.length cc:=by
    have hh:=HK.out.2 _ _ _ _ HG1.out (.inl hgl);rw[g1']at hh;injection hh with hh
    injection hh with hh
    simp at hh
    exact hh.2.1
   rw[huc]at g2';obtain⟨a',c',e',hx1,hx2,hx3,hx4⟩:=g2';obtain⟨bb,o,e2',hbn,hcell⟩:=hx4 (by omega);have e3':ac=some ⟨bb,o,none⟩:=by injection e' with q1 q2 q3;rw[q1,e2']
   subst e3';clear e' e2' hx1 hx2 hx3 hx4 g1' huc;have p0:wr.cell? ⟨bb,o+i*7,none⟩=some (.int .i64 c.fr):=hcell i c hc 0 _ rfl;have p1:wr.cell? ⟨bb,o+i*7+1,none⟩=some (.int .i64 c.tt):=hcell i c hc 1 _ rfl;have p2:wr.cell? ⟨bb,o+i*7+2,none⟩=some (.int .i64 c.st):=hcell i c hc 2 _ rfl;have p3:wr.cell? ⟨bb,o+i*7+3,none⟩=some (.int .i64 c.en):=hcell i c hc 3 _ rfl;have p4:wr.cell? ⟨bb,o+i*7+4,none⟩=some (.int .i64 c.ra):=hcell i c hc 4 _ rfl;have p5:wr.cell? ⟨bb,o+i*7+5,none⟩=some (.int .i64 c.rg):=hcell i c hc 5 _ rfl;have p6:wr.cell? ⟨bb,o+i*7+6,none⟩=some (.int .i64 c.lo):=hcell i c hc 6 _ rfl;have k1:=cU (HK.out.2 _ _ _ _ HC1.out (.inr (.inl rfl))) 0;have k3:=fun q=>cU (HK.out.2 _ _ _ _ HC2.out (.inr (.inr (.inl rfl)))) q
   have y1:z1<wr.heap.size:=by omega
   have y2:z2<wr.heap.size:=by omega
   have y3:gB<wr.heap.size:=by omega
   have i0:(0:Int)≤(i:Int):=by omega
   have i1:(i:Int)<(g.cs.length:Int):=by omega
   have hrg0:=hcf.rg0;have hrg1:=hcf.rg1;have HCO:=aa (cS hc (cS hd (cS hL (cS hcA (cS hdA (cS hLA htn))))));clear hc hd hL hcA hdA hLA hcc hcf hcell htn;by_cases cf:c.fr=x.nd
   case neg=>
    have d1:(c.fr != x.nd)=true:=by simpa using cf
    have HP2:Hid (pre.map (·.1)=movesP g x (i+1)):=aa (by rw[fV,HP.out];unfold movesI;rw[HCO.out.2.2.2.1,if_neg cf,cK]);clear cf;go_wp2
    go_roundw
    case rel=>exact⟨i+1,pre,by omega,by go_num,HP2,aa (HAL.out _ _ _ HJr.out),aa (HK.out.trans (KpP.of (CK.of (de (ap _ _)))))⟩
    case measure=>simp[intOf];omega
   have d1:(c.fr != x.nd)=false:=by simpa using cf
   have HCF:=aa cf;clear cf;go_upto_region 4 with fail
   obtain⟨w2,hw2⟩:=cR (wr.alloc (.cells #[.int .i64 c.fr,.int .i64 c.tt,.int .i64 c.st,.int .i64 c.en,.int .i64 c.ra,.int .i64 c.rg,.int .i64 c.lo] 95))
   rw[hw2];have K2:Below wr.heap.size wr w2:=by rw[←hw2];exact de (ap _ _)
   have XC2:Hid (w2.heap[wr.heap.size]? =some (.cells #[.int .i64 c.fr,.int .i64 c.tt,.int .i64 c.st,.int .i64 c.en,.int .i64 c.ra,.int .i64 c.rg,.int .i64 c.lo] 95 (0,0))):=aa (by rw[←hw2];exact cW);have HCK2:Hid (CK w0 w2):=aa (HCKr.out.trans (CK.of K2));have HK2:Hid (KpP w0.heap.size z1 z2 W w2):=aa (HK.out.trans (KpP.of (CK.of K2)));have HJ2:Hid (J pre w2):=aa (HBE.out _ _ _ K2 HJr.out);have z2c:wr.heap.size<w2.heap.size:=by rw[←hw2];simp
   obtain⟨cB,hcB⟩:=cR wr.heap.size
   rw[hcB]at XC2 z2c zr y1 y2 y3 ⊢;have k1':=cU (HK2.out.2 _ _ _ _ HC1.out (.inr (.inl rfl))) 0;have k5:=fun q=>cU XC2.out q
   have htt:c.tt=(tn:Int):=HCO.out.2.2.2.2.2.2;have y1':z1<w2.heap.size:=by omega
   clear hw2 K2 HJr k1 k3 p0 p1 p2 p3 p4 p5 p6 hcB;go_wp2_with fail
   rw[htt];refine(pF g HG.out gB tn w0 _ HGR.out HCK2.out htl).mono ?_
   rintro e w3 ⟨u,rfl,hru,hb3,hst⟩;have hrm:roomsP g tn=roomsA g i:=by unfold roomsA;rw[HCO.out.2.2.2.1,htt];rfl
   rw[hrm]at hru hst;have hroom:(roomsA g i).length≤1100∧∀r∈roomsA g i,spOK r:=by
    rw[←hrm];unfold roomsP;split
    ·refine⟨by simp,fun r hr=>?_⟩
     rw[aH.1 hr];exact⟨aR _,by decide,aR _⟩
    ·rw[aJ,am htl]
     exact HG.out.rs _ (bY htl)
   have HRM:=aa hroom.2;have hrl:=hroom.1;obtain⟨ra,rc,rfl,r1,r2,-,-⟩:=id hru;unfold maxLen at r2;have HCK3:Hid (CK w0 w3):=aa (HCK2.out.trans (CK.of hb3));have HK3:Hid (KpP w0.heap.size z1 z2 W w3):=aa (HK2.out.trans (KpP.of (CK.of hb3)));have HJ3:Hid (J pre w3):=aa (HBE.out _ _ _ hb3 HJ2.out);have XC3:Hid (w3.heap[cB]? =some (.cells #[.int .i64 c.fr,.int .i64 c.tt,.int .i64 c.st,.int .i64 c.en,.int .i64 c.ra,.int .i64 c.rg,.int .i64 c.lo] 95 (0,0))):=aa ((hb3.block _ z2c).trans XC2.out);have z3:w2.heap.size≤w3.heap.size:=hb3.size;have HST:Hid (∀V,KpP w0.heap.size z1 z2 w3 V→RSps V V.heap.size (.slice ra (roomsA g i).length rc) (roomsA g i)):=aa (fun V hV=>by
    exact hst V (HCK3.out.kpp hV (aj _)) (fun q cs f hq=>hV.2 q cs _ f hq (.inr (.inr (.inr (.inl rfl))))))
   clear hru hst hb3 k1' k5 hroom hrm htt;go_wp2_with fail
   go_loopw [32] (fun kv wi=>∃(k:Nat) (pre2:List {m:Mv // m∈movesL g x}),k≤(roomsA g i).length∧kv= .int .i64 (k:Int)∧Hid (pre2.map (·.1)=movesP g x i++((roomsA g i).take k).filterMap (moveOf g x i))∧Hid (J pre2 wi)∧Hid (KpP w0.heap.size z1 z2 w3 wi)) (fun kv _=>(roomsA g i).length - (intOf kv).toNat)
   case atStart=>exact⟨0,pre,aE _,rfl,aa (by rw[HP.out];simp),HJ3,aa (KpP.refl _ _ _ _)⟩
   case round=>
    obtain⟨k,pre2,hk,rfl,HP2,J_wr,K_wr⟩:=hrel;have Y_wr:Hid (CK w0 wr):=aa (HCK3.out.kpp K_wr.out (aj _));by_cases hkl:k<(roomsA g i).length
    ·obtain⟨r,hr⟩:∃r,(roomsA g i)[k]? =some r:=⟨_,am hkl⟩
     obtain⟨a',c',e',-,-,-,h4⟩:=HST.out wr K_wr.out;obtain⟨rb,ro,e2',hrb,hrc⟩:=h4 (by omega);have e3':ra=some ⟨rb,ro,none⟩:=by injection e' with q1 q2 q3;rw[q1,e2']
     subst e3';have q0:=sp0 hrc hr;have q1:=sp1 hrc hr;have hro:=HRM.out r (az hr);unfold spOK at hro;have hxo:=HX.out;unfold lOK at hxo;have HR:=aa hr;have HIS:=aa (kt g x i k hr);have k0:(0:Int)≤(k:Int):=by omega
     have kk1:(k:Int)<((roomsA g i).length:Int):=by omega
     clear hr e' e2' h4 hrc;go_upto_region 7 with fail
     obtain⟨w4,hw4⟩:=cR (wr.alloc (.cells #[.int .i64 r.1,.int .i64 r.2] 86))
     rw[hw4];have hb4:Below wr.heap.size wr w4:=by rw[←hw4];exact de (ap _ _)
     have XR:Hid (w4.heap[wr.heap.size]? =some (.cells #[.int .i64 r.1,.int .i64 r.2] 86 (0,0))):=aa (by rw[←hw4];exact cW);have zr4:wr.heap.size<w4.heap.size:=by rw[←hw4];simp
     obtain⟨rB,hrB⟩:=cR wr.heap.size
     have K_w4:Hid (KpP w0.heap.size z1 z2 w3 w4):=aa (K_wr.out.trans (KpP.of (CK.of hb4)));have Y_w4:Hid (CK w0 w4):=aa (Y_wr.out.trans (CK.of hb4));have J_w4:Hid (J pre2 w4):=aa (HBE.out _ _ _ hb4 J_wr.out);rw[hrB]at XR zr4 ⊢;clear hw4 hrB hb4 q0 q1;obtain⟨vq,vc,vb,vh,vg,vr,vd,G1_w4,-⟩:=(HGR.out.ck Y_w4.out).box;have k1:=cU (K_w4.out.2 _ _ _ _ (HK3.out.2 _ _ _ _ HC1.out (.inr (.inl rfl))) (.inr (.inl rfl))) 0;have k3:=fun q=>cU (K_w4.out.2 _ _ _ _ (HK3.out.2 _ _ _ _ HC2.out (.inr (.inr (.inl rfl)))) (.inr (.inr (.inl rfl)))) q
     have k5:=fun q=>cU (K_w4.out.2 _ _ _ _ XC3.out (.inr (.inr (.inr (.inr (.inl rfl)))))) q
     have k6:=fun q=>cU G1_w4 q
     have s0:=K_w4.out.1;have s1:z1<w4.heap.size:=by omega
     have s2:z2<w4.heap.size:=by omega
     have s3:gB<w4.heap.size:=by omega
     have s4:cB<w4.heap.size:=by omega
     have k7:=fun q=>cU XR.out q
     obtain⟨f,hf⟩:=cR (max x.tm r.1)
     have hf0:0≤f∧f≤1099511627776:=by omega
     have HF:=aa hf;have hmx:max x.tm r.1=f:=hf;clear hf G1_w4;go_wp2_with fail
     (try rw[HF.out])
     refine(ghop_any g HG.out gB i c d f L _ (HGR.out.ck Y_w4.out) HCO.out.1 HCO.out.2.1 HCO.out.2.2.1 hf0.1 hf0.2).mono ?_
     rintro e w5 ⟨hb5,hres⟩;have XR5:Hid (w5.heap[rB]? =some (.cells #[.int .i64 r.1,.int .i64 r.2] 86 (0,0))):=aa ((hb5.block _ zr4).trans XR.out);have K_w5:Hid (KpP w0.heap.size z1 z2 w3 w5):=aa (K_w4.out.trans (KpP.of (CK.of hb5)));have Y_w5:Hid (CK w0 w5):=aa (Y_w4.out.trans (CK.of hb5));have J_w5:Hid (J pre2 w5):=aa (HBE.out _ _ _ hb5 J_w4.out);have zr5:rB<w5.heap.size:=by have:=hb5.size;omega
     clear hb5 k1 k3 k5 k6 k7 s0 s1 s2 s3 s4 hmx;have HMO:Hid (moveOf g x i r=match hopG L d f with | none=>none | some b=>if mvOK g x c r (b+d) (b+d+c.rg)then some (⟨c.tt,r.1,r.2,b+d+c.rg⟩,((i:Int),b,b+d,b+d+c.rg))else none):=aa (by unfold moveOf;rw[HCO.out.2.2.2.1,HCO.out.2.2.2.2.1,HCO.out.2.2.2.2.2.1,HF.out];rfl);rcases hres with⟨b,hb,rfl⟩ | ⟨hb,rfl⟩
     case inr=>
      have HN:Hid (pre2.map (·.1)=movesP g x i++((roomsA g i).take (k+1)).filterMap (moveOf g x i)):=aa (by rw[HIS.out,HMO.out,hb,HP2.out];simp);obtain⟨vq,vc,vb,vh,vg,vr,vd,G1_w5,-⟩:=(HGR.out.ck Y_w5.out).box;have k1:=cU (K_w5.out.2 _ _ _ _ (HK3.out.2 _ _ _ _ HC1.out (.inr (.inl rfl))) (.inr (.inl rfl))) 0;have k3:=fun q=>cU (K_w5.out.2 _ _ _ _ (HK3.out.2 _ _ _ _ HC2.out (.inr (.inr (.inl rfl)))) (.inr (.inr (.inl rfl)))) q
      have k5:=fun q=>cU (K_w5.out.2 _ _ _ _ XC3.out (.inr (.inr (.inr (.inr (.inl rfl)))))) q
      have k6:=fun q=>cU G1_w5 q
      have s0:=K_w5.out.1;have s1:z1<w5.heap.size:=by omega
      have s2:z2<w5.heap.size:=by omega
      have s3:gB<w5.heap.size:=by omega
      have s4:cB<w5.heap.size:=by omega
      have k7:=fun q=>cU XR5.out q
      clear hb G1_w5;go_upto_region 8 with fail
      obtain⟨w6,hw6⟩:=cR (w5.alloc (.cells #[.int .i64 0,.int .i64 0,.int .i64 0,.int .i64 0] 68))
      rw[hw6];have hb6:Below w5.heap.size w5 w6:=by rw[←hw6];exact de (ap _ _)
      have K_w6:Hid (KpP w0.heap.size z1 z2 w3 w6):=aa (K_w5.out.trans (KpP.of (CK.of hb6)));have Y_w6:Hid (CK w0 w6):=aa (Y_w5.out.trans (CK.of hb6));have J_w6:Hid (J pre2 w6):=aa (HBE.out _ _ _ hb6 J_w5.out);clear hw6 hb6;refine dd (fun V=>Below (w6).heap.size (w6) V) [0,0,0,1,1,2,0,1,0,0,0,0,1,1,0,0,0,1,0,0,0,0,1,1,0,0,0,1,0,0,0,1,0,1,0,0,0] [0,1,2,3,4,6,7,5,8,9,10,11,12,13,14,15,16,17,18,19,20,21,22,23,24,25,26,27,28,29,30,31,32,33,34,35,36] (by kernel_rfl) (by kernel_rfl) ?_ ?_
      case refine_1=>exact cZ
      (iterate 7 (first | (refine cX rfl (by decide) (by rfl) (fun w1 hS=>by(try(obtain⟨_,_⟩:=bcell (hS rfl)));go_simp;rfl) ?_;simp only[Act.put,ae,af,ag]) | (refine dm rfl (by decide) (by rfl) ?_;simp only[Act.put,ae,af,ag])))
      (refine nS rfl (by decide) (by rfl) cZ ?_;simp only[Act.put,ae,af,ag])
      (iterate 29 (first | (refine cX rfl (by decide) (by rfl) (fun w1 hS=>by(try(obtain⟨_,_⟩:=bcell (hS rfl)));go_simp;rfl) ?_;simp only[Act.put,ae,af,ag]) | (refine dm rfl (by decide) (by rfl) ?_;simp only[Act.put,ae,af,ag])))
      refine du ?_
      go_wp2
      go_roundw
      case rel=>exact⟨k+1,pre2,by omega,by go_num,HN,aa (HBE.out _ _ _ (bdrew (ap _ _)) J_w6.out),aa (K_w6.out.trans (KpP.of (CK.of (bdrew (ap _ _)))))⟩
      case measure=>simp[intOf];omega
     have XHs:=i7 hb;obtain⟨y,hyL,hy1,hy2⟩:=XHs;have hyo:=(HG.out.gs L (az HCO.out.2.2.1)).2 y hyL;unfold spOK at hyo;have hd12:=HG.out.ds d (az HCO.out.2.1);have he0:0≤b+d:=by omega
     have he1:b+d≤2000000000000:=by omega
     have HMO2:Hid (moveOf g x i r=if mvOK g x c r (b+d) (b+d+c.rg)then some (⟨c.tt,r.1,r.2,b+d+c.rg⟩,((i:Int),b,b+d,b+d+c.rg))else none):=aa (by rw[HMO.out,hb]);clear hb hyL hy1 hy2 hyo HMO;have HMO:=HMO2;clear HMO2;obtain⟨vq,vc,vb,vh,vg,vr,vd,G1_w5,-⟩:=(HGR.out.ck Y_w5.out).box;have k1:=cU (K_w5.out.2 _ _ _ _ (HK3.out.2 _ _ _ _ HC1.out (.inr (.inl rfl))) (.inr (.inl rfl))) 0;have k3:=fun q=>cU (K_w5.out.2 _ _ _ _ (HK3.out.2 _ _ _ _ HC2.out (.inr (.inr (.inl rfl)))) (.inr (.inr (.inl rfl)))) q
     have k5:=fun q=>cU (K_w5.out.2 _ _ _ _ XC3.out (.inr (.inr (.inr (.inr (.inl rfl)))))) q
     have k6:=fun q=>cU G1_w5 q
     have s0:=K_w5.out.1;have s1:z1<w5.heap.size:=by omega
     have s2:z2<w5.heap.size:=by omega
     have s3:gB<w5.heap.size:=by omega
     have s4:cB<w5.heap.size:=by omega
     have k7:=fun q=>cU XR5.out q
     clear G1_w5;go_upto_region 8 with fail
     obtain⟨w6,hw6⟩:=cR (w5.alloc (.cells #[.int .i64 (i:Int),.int .i64 b,.int .i64 (b+d),.int .i64 (b+d+c.rg)] 68))
     rw[hw6];have hb6:Below w5.heap.size w5 w6:=by rw[←hw6];exact de (ap _ _)
     have XH:Hid (w6.heap[w5.heap.size]? =some (.cells #[.int .i64 (i:Int),.int .i64 b,.int .i64 (b+d),.int .i64 (b+d+c.rg)] 68 (0,0))):=aa (by rw[←hw6];exact cW);have XR6:Hid (w6.heap[rB]? =some (.cells #[.int .i64 r.1,.int .i64 r.2] 86 (0,0))):=aa ((hb6.block _ zr5).trans XR5.out);have zh6:w5.heap.size<w6.heap.size:=by rw[←hw6];simp
     have zr6:rB<w6.heap.size:=by omega
     have K_w6:Hid (KpP w0.heap.size z1 z2 w3 w6):=aa (K_w5.out.trans (KpP.of (CK.of hb6)));have Y_w6:Hid (CK w0 w6):=aa (Y_w5.out.trans (CK.of hb6));have J_w6:Hid (J pre2 w6):=aa (HBE.out _ _ _ hb6 J_w5.out);obtain⟨hB,hhB⟩:=cR w5.heap.size
     rw[hhB]at XH zh6 ⊢;clear hw6 hb6 hhB k1 k3 k5 k6 k7 s0 s1 s2 s3 s4;obtain⟨vq,vc,vb,vh,vg,vr,vd,G1_w6,-⟩:=(HGR.out.ck Y_w6.out).box;have k1:=cU (K_w6.out.2 _ _ _ _ (HK3.out.2 _ _ _ _ HC1.out (.inr (.inl rfl))) (.inr (.inl rfl))) 0;have k3:=fun q=>cU (K_w6.out.2 _ _ _ _ (HK3.out.2 _ _ _ _ HC2.out (.inr (.inr (.inl rfl)))) (.inr (.inr (.inl rfl)))) q
     have k5:=fun q=>cU (K_w6.out.2 _ _ _ _ XC3.out (.inr (.inr (.inr (.inr (.inl rfl)))))) q
     have k6:=fun q=>cU G1_w6 q
     have s0:=K_w6.out.1;have s1:z1<w6.heap.size:=by omega
     have s2:z2<w6.heap.size:=by omega
     have s3:gB<w6.heap.size:=by omega
     have s4:cB<w6.heap.size:=by omega
     have k7:=fun q=>cU XR6.out q
     have k8:=fun q=>cU XH.out q
     clear G1_w6;obtain⟨V,hV⟩:=cR (leaveS g.cu (b+d) c.rg)
     have HLV:=aa hV;clear hV;by_cases l1:V≤x.tt
     case neg=>
      have dl1:decide (V>x.tt)=true:=decide_eq_true (by omega);have HN:Hid (pre2.map (·.1)=movesP g x i++((roomsA g i).take (k+1)).filterMap (moveOf g x i)):=aa (by
       rw[HIS.out,HMO.out,HP2.out];show _=_++(_++(if mvOK g x c r (b+d) (b+d+c.rg)then _ else none).toList)
       rw[if_neg (by unfold mvOK;rw[HLV.out];omega)];simp)
      refine dd (fun V=>Below (w6).heap.size (w6) V) [0,0,0,1,1,2,0,1,0,0,0,0,1,1,0,0,0,1,0,0,0,0,1,1,0,0,0,1,0,0,0,1,0,1,0,0,0] [0,1,2,3,4,6,7,5,8,9,10,11,12,13,14,15,16,17,18,19,20,21,22,23,24,25,26,27,28,29,30,31,32,33,34,35,36] (by kernel_rfl) (by kernel_rfl) ?_ ?_
      case refine_1=>exact cZ
      (iterate 7 (first | (refine cX rfl (by decide) (by rfl) (fun w1 hS=>by(try(obtain⟨_,_⟩:=bcell (hS rfl)));go_simp;rfl) ?_;simp only[Act.put,ae,af,ag]) | (refine dm rfl (by decide) (by rfl) ?_;simp only[Act.put,ae,af,ag])))
      (refine dA rfl rfl (by rfl) (fun K hK=>?_);go_simp)
      refine(fZ g HG.out gB i c b (b+d) (b+d+c.rg) _ (HGR.out.ck (Y_w6.out.trans (CK.of (bdrew (ap _ _))))) HCO.out.1 he0 he1).mono ?_
      rw[HLV.out];rintro e wc52 ⟨rfl,hbc52⟩
      (refine hK _ _ (by exact cZ) ?_;clear hK K;(try simp only[Act.put,ae,af,ag]))
      (iterate 29 (first | (refine cX rfl (by decide) (by rfl) (fun w1 hS=>by(try(obtain⟨_,_⟩:=bcell (hS rfl)));go_simp;rfl) ?_;simp only[Act.put,ae,af,ag]) | (refine dm rfl (by decide) (by rfl) ?_;simp only[Act.put,ae,af,ag])))
      refine du ?_
      have hb7:Below w6.heap.size w6 wc52:=dq (bdrew (ap _ _)) hbc52;have K_wc52:Hid (KpP w0.heap.size z1 z2 w3 wc52):=aa (K_w6.out.trans (KpP.of (CK.of hb7)));have Y_wc52:Hid (CK w0 wc52):=aa (Y_w6.out.trans (CK.of hb7));have J_wc52:Hid (J pre2 wc52):=aa (HBE.out _ _ _ hb7 J_w6.out);clear hb7 hbc52 k1 k3 k5 k6 k7 k8;go_wp2
      go_roundw
      case rel=>exact⟨k+1,pre2,by omega,by go_num,HN,J_wc52,K_wc52⟩
      case measure=>simp[intOf];omega
     have dl1:decide (V>x.tt)=false:=decide_eq_false (by omega);by_cases l2:b+d+c.rg≤g.D
     case neg=>
      have dl2:decide (b+d+c.rg>g.D)=true:=decide_eq_true (by omega);have HN:Hid (pre2.map (·.1)=movesP g x i++((roomsA g i).take (k+1)).filterMap (moveOf g x i)):=aa (by
       rw[HIS.out,HMO.out,HP2.out];show _=_++(_++(if mvOK g x c r (b+d) (b+d+c.rg)then _ else none).toList)
       rw[if_neg (by unfold mvOK;rw[HLV.out];omega)];simp)
      refine dd (fun V=>Below (w6).heap.size (w6) V) [0,0,0,1,1,2,0,1,0,0,0,0,1,1,0,0,0,1,0,0,0,0,1,1,0,0,0,1,0,0,0,1,0,1,0,0,0] [0,1,2,3,4,6,7,5,8,9,10,11,12,13,14,15,16,17,18,19,20,21,22,23,24,25,26,27,28,29,30,31,32,33,34,35,36] (by kernel_rfl) (by kernel_rfl) ?_ ?_
      case refine_1=>exact cZ
      (iterate 7 (first | (refine cX rfl (by decide) (by rfl) (fun w1 hS=>by(try(obtain⟨_,_⟩:=bcell (hS rfl)));go_simp;rfl) ?_;simp only[Act.put,ae,af,ag]) | (refine dm rfl (by decide) (by rfl) ?_;simp only[Act.put,ae,af,ag])))
      (refine dA rfl rfl (by rfl) (fun K hK=>?_);go_simp)
      refine(fZ g HG.out gB i c b (b+d) (b+d+c.rg) _ (HGR.out.ck (Y_w6.out.trans (CK.of (bdrew (ap _ _))))) HCO.out.1 he0 he1).mono ?_
      rw[HLV.out];rintro e wc52 ⟨rfl,hbc52⟩
      (refine hK _ _ (by exact cZ) ?_;clear hK K;(try simp only[Act.put,ae,af,ag]))
      (iterate 29 (first | (refine cX rfl (by decide) (by rfl) (fun w1 hS=>by(try(obtain⟨_,_⟩:=bcell (hS rfl)));go_simp;rfl) ?_;simp only[Act.put,ae,af,ag]) | (refine dm rfl (by decide) (by rfl) ?_;simp only[Act.put,ae,af,ag])))
      refine du ?_
      have hb7:Below w6.heap.size w6 wc52:=dq (bdrew (ap _ _)) hbc52;have K_wc52:Hid (KpP w0.heap.size z1 z2 w3 wc52):=aa (K_w6.out.trans (KpP.of (CK.of hb7)));have Y_wc52:Hid (CK w0 wc52):=aa (Y_w6.out.trans (CK.of hb7));have J_wc52:Hid (J pre2 wc52):=aa (HBE.out _ _ _ hb7 J_w6.out);clear hb7 hbc52 k1 k3 k5 k6 k7 k8;go_wp2
      go_roundw
      case rel=>exact⟨k+1,pre2,by omega,by go_num,HN,J_wc52,K_wc52⟩
      case measure=>simp[intOf];omega
     have dl2:decide (b+d+c.rg>g.D)=false:=decide_eq_false (by omega);by_cases l3:c.tt=g.dst
     case pos=>
      have dl3:(c.tt != g.dst)=false:=by simpa using l3
      have HMS:Hid (moveOf g x i r=some (⟨c.tt,r.1,r.2,b+d+c.rg⟩,((i:Int),b,b+d,b+d+c.rg))):=aa (by
       rw[HMO.out];show(if mvOK g x c r (b+d) (b+d+c.rg)then some _ else none)=_
       rw[if_pos (by unfold mvOK;rw[HLV.out];omega)])
      obtain⟨rr,hrr⟩:=lF g x i k (by rw[HCO.out.2.2.2.1];exact HCF.out) HR.out HMS.out;obtain⟨rs,hrs⟩:=ks g x (show i+1≤g.cs.length by omega);rw[hrr]at hrs;have hmem:((⟨c.tt,r.1,r.2,b+d+c.rg⟩,((i:Int),b,b+d,b+d+c.rg)):Mv)∈movesL g x:=by rw[hrs];simp
      have hpl:pre2.length<(movesL g x).length:=by
       have h1:=congrArg List.length HP2.out;have h2:=congrArg List.length hrs;simp only[aZ,ay,aI,bE]at h1 h2;omega
      have HN:Hid ((pre2++[(⟨_,hmem⟩:{m:Mv // m∈movesL g x})]).map (·.1)=movesP g x i++((roomsA g i).take (k+1)).filterMap (moveOf g x i)):=aa (by
       rw[HIS.out,HMS.out,bL,HP2.out,aY];rfl)
      (try clear l3)
      refine dd (fun V=>Below (w6).heap.size (w6) V) [0,0,0,1,1,2,0,1,0,0,0,0,1,1,0,0,0,1,0,0,0,0,1,1,0,0,0,1,0,0,0,1,0,1,0,0,0] [0,1,2,3,4,6,7,5,8,9,10,11,12,13,14,15,16,17,18,19,20,21,22,23,24,25,26,27,28,29,30,31,32,33,34,35,36] (by kernel_rfl) (by kernel_rfl) ?_ ?_
      case refine_1=>exact cZ
      (iterate 7 (first | (refine cX rfl (by decide) (by rfl) (fun w1 hS=>by(try(obtain⟨_,_⟩:=bcell (hS rfl)));go_simp;rfl) ?_;simp only[Act.put,ae,af,ag]) | (refine dm rfl (by decide) (by rfl) ?_;simp only[Act.put,ae,af,ag])))
      (refine dA rfl rfl (by rfl) (fun K hK=>?_);go_simp)
      refine(fZ g HG.out gB i c b (b+d) (b+d+c.rg) _ (HGR.out.ck (Y_w6.out.trans (CK.of (bdrew (ap _ _))))) HCO.out.1 he0 he1).mono ?_
      rw[HLV.out];rintro e wc52 ⟨rfl,hbc52⟩
      (refine hK _ _ (by exact cZ) ?_;clear hK K;(try simp only[Act.put,ae,af,ag]))
      (iterate 29 (first | (refine cX rfl (by decide) (by rfl) (fun w1 hS=>by(try(obtain⟨_,_⟩:=bcell (hS rfl)));go_simp;rfl) ?_;simp only[Act.put,ae,af,ag]) | (refine dm rfl (by decide) (by rfl) ?_;simp only[Act.put,ae,af,ag])))
      refine du ?_
      have hb7:Below w6.heap.size w6 wc52:=dq (bdrew (ap _ _)) hbc52;have K_wc52:Hid (KpP w0.heap.size z1 z2 w3 wc52):=aa (K_w6.out.trans (KpP.of (CK.of hb7)));have Y_wc52:Hid (CK w0 wc52):=aa (Y_w6.out.trans (CK.of hb7));have J_wc52:Hid (J pre2 wc52):=aa (HBE.out _ _ _ hb7 J_w6.out);have XR7:Hid (wc52.heap[rB]? =some (.cells #[.int .i64 r.1,.int .i64 r.2] 86 (0,0))):=aa ((hb7.block _ zr6).trans XR6.out);have XH7:Hid (wc52.heap[hB]? =some (.cells #[.int .i64 (i:Int),.int .i64 b,.int .i64 (b+d),.int .i64 (b+d+c.rg)] 68 (0,0))):=aa ((hb7.block _ zh6).trans XH.out);have hY2:=HY.out pre2 ⟨_,hmem⟩ _ J_wc52.out hpl;simp only[mvC]at hY2;obtain⟨fn,tmps,assign,body,hy,hR⟩:=hY2;have HRR:=aa hR;clear hb7 hbc52 k1 k3 k5 k6 k7 k8 hR hrr hrs hpl s0 s1 s2 s3 s4;have k5:=fun q=>cU (K_wc52.out.2 _ _ _ _ XC3.out (.inr (.inr (.inr (.inr (.inl rfl)))))) q
      have k7:=fun q=>cU XR7.out q
      have k8:=fun q=>cU XH7.out q
      go_upto_region 9 with fail
      refine(wpIn_wide (n:=11)).1 ?_
      gi_wp2
      refine HRR.out.mono ?_
      rintro e W3 (⟨rfl,hJ3,hk3⟩ | ⟨rfl,hJx3⟩)
      ·have HJ3':=aa hJ3
       have HK3':=aa (K_wc52.out.trans hk3);clear hJ3 hk3 k5 k7 k8 hy;gi_wp2
       go_wp2
       go_roundw
       case rel=>exact⟨k+1,_,by omega,by go_num,HN,HJ3',HK3'⟩
       case measure=>simp[intOf];omega
      ·have HX3:=aa hJx3
       clear hJx3 k5 k7 k8 hy;gi_wp2
       go_wp2
       refine bodyPost_ret (results_none rfl _ _ _) rfl ?_
       exact⟨⟨_,rfl⟩,.inr ⟨_,trivial,HX3.out⟩⟩
     have dl3:(c.tt != g.dst)=true:=by simpa using l3
     by_cases l4:b+d+c.rg<r.2
     case pos=>
      have dl4:decide (b+d+c.rg≥r.2)=false:=decide_eq_false (by omega);have HMS:Hid (moveOf g x i r=some (⟨c.tt,r.1,r.2,b+d+c.rg⟩,((i:Int),b,b+d,b+d+c.rg))):=aa (by
       rw[HMO.out];show(if mvOK g x c r (b+d) (b+d+c.rg)then some _ else none)=_
       rw[if_pos (by unfold mvOK;rw[HLV.out];omega)])
      obtain⟨rr,hrr⟩:=lF g x i k (by rw[HCO.out.2.2.2.1];exact HCF.out) HR.out HMS.out;obtain⟨rs,hrs⟩:=ks g x (show i+1≤g.cs.length by omega);rw[hrr]at hrs;have hmem:((⟨c.tt,r.1,r.2,b+d+c.rg⟩,((i:Int),b,b+d,b+d+c.rg)):Mv)∈movesL g x:=by rw[hrs];simp
      have hpl:pre2.length<(movesL g x).length:=by
       have h1:=congrArg List.length HP2.out;have h2:=congrArg List.length hrs;simp only[aZ,ay,aI,bE]at h1 h2;omega
      have HN:Hid ((pre2++[(⟨_,hmem⟩:{m:Mv // m∈movesL g x})]).map (·.1)=movesP g x i++((roomsA g i).take (k+1)).filterMap (moveOf g x i)):=aa (by
       rw[HIS.out,HMS.out,bL,HP2.out,aY];rfl)
      (try clear l3)
      refine dd (fun V=>Below (w6).heap.size (w6) V) [0,0,0,1,1,2,0,1,0,0,0,0,1,1,0,0,0,1,0,0,0,0,1,1,0,0,0,1,0,0,0,1,0,1,0,0,0] [0,1,2,3,4,6,7,5,8,9,10,11,12,13,14,15,16,17,18,19,20,21,22,23,24,25,26,27,28,29,30,31,32,33,34,35,36] (by kernel_rfl) (by kernel_rfl) ?_ ?_
      case refine_1=>exact cZ
      (iterate 7 (first | (refine cX rfl (by decide) (by rfl) (fun w1 hS=>by(try(obtain⟨_,_⟩:=bcell (hS rfl)));go_simp;rfl) ?_;simp only[Act.put,ae,af,ag]) | (refine dm rfl (by decide) (by rfl) ?_;simp only[Act.put,ae,af,ag])))
      (refine dA rfl rfl (by rfl) (fun K hK=>?_);go_simp)
      refine(fZ g HG.out gB i c b (b+d) (b+d+c.rg) _ (HGR.out.ck (Y_w6.out.trans (CK.of (bdrew (ap _ _))))) HCO.out.1 he0 he1).mono ?_
      rw[HLV.out];rintro e wc52 ⟨rfl,hbc52⟩
      (refine hK _ _ (by exact cZ) ?_;clear hK K;(try simp only[Act.put,ae,af,ag]))
      (iterate 29 (first | (refine cX rfl (by decide) (by rfl) (fun w1 hS=>by(try(obtain⟨_,_⟩:=bcell (hS rfl)));go_simp;rfl) ?_;simp only[Act.put,ae,af,ag]) | (refine dm rfl (by decide) (by rfl) ?_;simp only[Act.put,ae,af,ag])))
      refine du ?_
      have hb7:Below w6.heap.size w6 wc52:=dq (bdrew (ap _ _)) hbc52;have K_wc52:Hid (KpP w0.heap.size z1 z2 w3 wc52):=aa (K_w6.out.trans (KpP.of (CK.of hb7)));have Y_wc52:Hid (CK w0 wc52):=aa (Y_w6.out.trans (CK.of hb7));have J_wc52:Hid (J pre2 wc52):=aa (HBE.out _ _ _ hb7 J_w6.out);have XR7:Hid (wc52.heap[rB]? =some (.cells #[.int .i64 r.1,.int .i64 r.2] 86 (0,0))):=aa ((hb7.block _ zr6).trans XR6.out);have XH7:Hid (wc52.heap[hB]? =some (.cells #[.int .i64 (i:Int),.int .i64 b,.int .i64 (b+d),.int .i64 (b+d+c.rg)] 68 (0,0))):=aa ((hb7.block _ zh6).trans XH.out);have hY2:=HY.out pre2 ⟨_,hmem⟩ _ J_wc52.out hpl;simp only[mvC]at hY2;obtain⟨fn,tmps,assign,body,hy,hR⟩:=hY2;have HRR:=aa hR;clear hb7 hbc52 k1 k3 k5 k6 k7 k8 hR hrr hrs hpl s0 s1 s2 s3 s4;have k5:=fun q=>cU (K_wc52.out.2 _ _ _ _ XC3.out (.inr (.inr (.inr (.inr (.inl rfl)))))) q
      have k7:=fun q=>cU XR7.out q
      have k8:=fun q=>cU XH7.out q
      go_upto_region 9 with fail
      refine(wpIn_wide (n:=11)).1 ?_
      gi_wp2
      refine HRR.out.mono ?_
      rintro e W3 (⟨rfl,hJ3,hk3⟩ | ⟨rfl,hJx3⟩)
      ·have HJ3':=aa hJ3
       have HK3':=aa (K_wc52.out.trans hk3);clear hJ3 hk3 k5 k7 k8 hy;gi_wp2
       go_wp2
       go_roundw
       case rel=>exact⟨k+1,_,by omega,by go_num,HN,HJ3',HK3'⟩
       case measure=>simp[intOf];omega
      ·have HX3:=aa hJx3
       clear hJx3 k5 k7 k8 hy;gi_wp2
       go_wp2
       refine bodyPost_ret (results_none rfl _ _ _) rfl ?_
       exact⟨⟨_,rfl⟩,.inr ⟨_,trivial,HX3.out⟩⟩
     have dl4:decide (b+d+c.rg≥r.2)=true:=decide_eq_true (by omega);have HN:Hid (pre2.map (·.1)=movesP g x i++((roomsA g i).take (k+1)).filterMap (moveOf g x i)):=aa (by
      rw[HIS.out,HMO.out,HP2.out];show _=_++(_++(if mvOK g x c r (b+d) (b+d+c.rg)then _ else none).toList)
      rw[if_neg (by unfold mvOK;rw[HLV.out];omega)];simp)
     refine dd (fun V=>Below (w6).heap.size (w6) V) [0,0,0,1,1,2,0,1,0,0,0,0,1,1,0,0,0,1,0,0,0,0,1,1,0,0,0,1,0,0,0,1,0,1,0,0,0] [0,1,2,3,4,6,7,5,8,9,10,11,12,13,14,15,16,17,18,19,20,21,22,23,24,25,26,27,28,29,30,31,32,33,34,35,36] (by kernel_rfl) (by kernel_rfl) ?_ ?_
     case refine_1=>exact cZ
     (iterate 7 (first | (refine cX rfl (by decide) (by rfl) (fun w1 hS=>by(try(obtain⟨_,_⟩:=bcell (hS rfl)));go_simp;rfl) ?_;simp only[Act.put,ae,af,ag]) | (refine dm rfl (by decide) (by rfl) ?_;simp only[Act.put,ae,af,ag])))
     (refine dA rfl rfl (by rfl) (fun K hK=>?_);go_simp)
     refine(fZ g HG.out gB i c b (b+d) (b+d+c.rg) _ (HGR.out.ck (Y_w6.out.trans (CK.of (bdrew (ap _ _))))) HCO.out.1 he0 he1).mono ?_
     rw[HLV.out];rintro e wc52 ⟨rfl,hbc52⟩
     (refine hK _ _ (by exact cZ) ?_;clear hK K;(try simp only[Act.put,ae,af,ag]))
     (iterate 29 (first | (refine cX rfl (by decide) (by rfl) (fun w1 hS=>by(try(obtain⟨_,_⟩:=bcell (hS rfl)));go_simp;rfl) ?_;simp only[Act.put,ae,af,ag]) | (refine dm rfl (by decide) (by rfl) ?_;simp only[Act.put,ae,af,ag])))
     refine du ?_
     have hb7:Below w6.heap.size w6 wc52:=dq (bdrew (ap _ _)) hbc52;have K_wc52:Hid (KpP w0.heap.size z1 z2 w3 wc52):=aa (K_w6.out.trans (KpP.of (CK.of hb7)));have Y_wc52:Hid (CK w0 wc52):=aa (Y_w6.out.trans (CK.of hb7));have J_wc52:Hid (J pre2 wc52):=aa (HBE.out _ _ _ hb7 J_w6.out);clear hb7 hbc52 k1 k3 k5 k6 k7 k8;go_wp2
     go_roundw
     case rel=>exact⟨k+1,pre2,by omega,by go_num,HN,J_wc52,K_wc52⟩
     case measure=>simp[intOf];omega
    ·obtain rfl:k=(roomsA g i).length:=by omega
     have HPN:Hid (pre2.map (·.1)=movesP g x (i+1)):=aa (by rw[fV,HP2.out,aL];unfold movesI;rw[HCO.out.2.2.2.1,if_pos HCF.out]);go_wp2
     go_roundw
     case rel=>exact⟨i+1,pre2,by omega,by go_num,HPN,J_wr,aa (HK3.out.trans K_wr.out)⟩
     case measure=>simp[intOf];omega
  ·obtain rfl:i=g.cs.length:=by omega
   go_wp2
   go_end0
   exact⟨⟨_,rfl⟩,.inl ⟨pre,HP.out,HJr.out⟩⟩
end
section
open Go Go.RowKit
section
variable {F:Fence} {n:Nat} {P:Program}
def Turned (B:Nat) (A A':World):Prop:=∃(l:Nat) (o o':Obj),B≤l∧A.heap[l]? =some o∧o.isCells=false∧o.isWalk=false∧A'=A.putObj l o'
def IterS {α:Type} (F:Fence) (n:Nat) (P:Program) (gf:Nat) (lb:Array Value) (encs:α→Array Value) (Ok:List α→α→World→World→Prop) (good:α→Bool) (St Kp:World→World→Prop) (S:List α→Prop) (Sx:Prop) (w:World):Prop:=
 ∀(l:Nat) (J:List α→World→Prop) (Jx:World→Prop) (W:World),Below w.heap.size w W→(∀s A B,J s A→St A B→J s B)→(∀A B,Jx A→St A B→Jx B)→
  (∀pre x W0 W1,J pre W0→Below W0.heap.size W0 W1→J pre W1→Ok pre x W0 W1→good x=true→YieldAt F (n-1) P l (encs x) W1 fun e W'=>e= .returned (.bool true)∧J (pre++[x]) W'∧Kp W1 W')→
  (∀pre x W0 W1,J pre W0→Below W0.heap.size W0 W1→J pre W1→Ok pre x W0 W1→good x=false→YieldAt F (n-1) P l (encs x) W1 fun e W'=>e= .returned (.bool false)∧Jx W')→
  J [] W→CallsIn F n P gf (#[.func (.yield l) #[] #[]]++lb) W fun e W'=>(∃v,e= .returned v)∧((∃xs,S xs∧J xs W')∨(Sx∧Jx W'))
def roundOf {α:Type} (B:Nat) (Kp:World→World→Prop) (g:Bool) (I:List α→World→Prop) (Ix:World→Prop) (xs:List α) (W:World):Exit→Act→World→Prop
 | .normal,_,W'=>KeepsFrom B W W'∧g=true∧Kp W W'∧I xs W'
 | .ret,_,W'=>KeepsFrom B W W'∧g=false∧Ix W'
 | _,_,_=>False
theorem hU {α:Type} {g:Operand} {ps:Array Tmp} {assign body:Code} {Q:Exit→Act→World→Prop} {a:Act} {w:World}
  (hro:F.round=none) (h1:1≤n) {gf:Nat} {lb:Array Value} (hg:a.eval g= .func (.func gf) #[] lb) (hFg:F.fn gf) (eg:∀args w,(callFunc gf args).run P w= .ok (.enter gf args) w)
  {encs:α→Array Value} {Ok:List α→α→World→World→Prop} {good:α→Bool} {St Kp:World→World→Prop} {S:List α→Prop} {Sx:Prop} {w0:World} (hit:IterS F (n-1) P gf lb encs Ok good St Kp S Sx w0)
  (hb0:Below w0.heap.size w0 w) (hps:∀x,(encs x).size=ps.size) (hKt:∀{A B C:World},Kp A B→Kp B C→Kp A C) (hKp:∀{A B:World},Turned w.heap.size A B→Kp A B) (hSt:∀{A B:World},St A B→KeepsFrom w.heap.size A B)
  (I:List α→World→Prop) (Ix:World→Prop) (hIs:∀s A B,I s A→St A B→I s B) (hIt:∀s A B,I s A→Turned w.heap.size A B→I s B) (hXs:∀A B,Ix A→St A B→Ix B) (hXt:∀A B,Ix A→Turned w.heap.size A B→Ix B)
  (h0:∀o1 o2,I [] ((w.alloc o1).alloc o2))
  (hround:∀(l:Nat) (pre:List α) (x:α) (W0 W:World),w.heap.size≤l→(∃r,W.heap[l]? =some (.loop r))→I pre W0→Below W0.heap.size W0 W→I pre W→Ok pre x W0 W→
   assign.wpIn (F.inRound l) (n-1-1) P (Exit.then (fun a' Wa=>KeepsFrom w.heap.size W Wa∧Kp W Wa∧∀Wb,Turned w.heap.size Wa Wb→body.wpIn (F.inRound l) (n-1-1) P (roundOf w.heap.size Kp (good x) I Ix (pre++[x]) Wb) a' Wb) (fun _ _ _=>False))
    {tmps:=(ps.zip (encs x)).foldl (fun t (p,v)=>t.setIfInBounds p v) a.tmps,defers:=[]} W)
  (hdone:∀(D:Nat) (xs:List α) (W:World),w.heap.size≤D→S xs→I xs W→W.heap[D]? =some (.deferred (some []))→Q .normal {a with defers:={target:=.collected D,args:=#[]}::a.defers} W)
  (hstop:∀(D:Nat) (W:World),w.heap.size≤D→Sx→Ix W→W.heap[D]? =some (.deferred (some []))→Code.wpIn F n P .ret Q {a with defers:={target:=.collected D,args:=#[]}::a.defers} W):
  (Code.rangeFunc g ps assign body).wpIn F n P Q a w:=by
 refine wpIn_rangeFunc fun fn hfn=>?_
 rw[hro];let rec_:LoopState→Option Code→Loop:=fun st pe=>{state:=st,pending:=pe,fn,tmps:=a.tmps,params:=ps,assign,body,defers:=w.heap.size}
 let Two:LoopState→Option Code→World→Prop:=fun st pe W=>W.heap[w.heap.size+1]? =some (.loop (rec_ st pe))∧W.heap[w.heap.size]? =some (.deferred (some []))
 have two_keep:∀{st pe A B},Two st pe A→KeepsFrom w.heap.size A B→Two st pe B:=fun h k=>⟨k.same _ _ (by omega) h.1 rfl,k.same _ _ (aj _) h.2 rfl⟩
 have two_lt:∀{st pe A},Two st pe A→w.heap.size+1<A.heap.size:=fun h=>(ai.1 h.1).1
 have two_put:∀{st pe st' pe' A},Two st pe A→Two st' pe' (A.putObj (w.heap.size+1) (.loop (rec_ st' pe')))∧Turned w.heap.size A (A.putObj (w.heap.size+1) (.loop (rec_ st' pe'))):=fun h=>
  ⟨⟨World.putObj_heap_same (two_lt h),(World.putObj_heap_other (by omega)).trans h.2⟩,⟨_,_,_,by omega,h.1,rfl,rfl,rfl⟩⟩
 have hW:Two .ready none ((w.alloc (.deferred (some []))).alloc (.loop (rec_ .ready none))):=
  ⟨by have:=World.alloc_heap_new (w.alloc (.deferred (some []))) (.loop (rec_ .ready none));rwa [World.size_alloc]at this,(ak _ _ _ (by simp)).trans (World.alloc_heap_new w _)⟩
 refine⟨w.heap.size+1,[{target:=.collected w.heap.size,args:=#[]}],_,{target:=.fn (.func gf) lb,args:=#[.func (.yield (w.heap.size+1)) #[] #[]]},_,gf,
  #[.func (.yield (w.heap.size+1)) #[] #[]]++lb,_,run_enterLoop_outer fn a.tmps ps assign body,by simp only[resolve,hg];simp[go_sem];rfl,(by intro f' hf';simp[Target.leads]at hf';subst hf';exact hFg),by simp[invoke,go_sem,eg];rfl,fun _=>h1,?_⟩
 refine(hit (w.heap.size+1) (fun pre W=>I pre W∧Two .ready none W) (fun W=>Ix W∧Two .done (some .ret) W) _ (de (de hb0))
  (fun s A B h k=>⟨hIs s A B h.1 k,two_keep h.2 (hSt k)⟩) (fun A B h k=>⟨hXs A B h.1 k,two_keep h.2 (hSt k)⟩) ?_ ?_ ⟨h0 _ _,hW⟩).mono ?_
 any_goals
  rintro pre x W0 W ⟨hi0,_⟩ hb01 ⟨hi,ht⟩ hok hgood;refine⟨fn,_,assign,body,run_yield (P:=P) (args:=encs x) ht.1 (hps x),roundIn_of_wpIn hfn (wpIn_mono (hround _ pre x W0 W (by omega) ⟨_,ht.1⟩ hi0 hb01 hi hok) ?_)⟩
  rintro e a' Wa hp
  cases e with
  | normal=>
   obtain⟨hk,hkp,hb⟩:=hp;have hta:=two_keep ht hk;obtain⟨htb,hturn⟩:=two_put (st':=.busy) (pe':=none) hta;refine⟨_,run_beginRound hta.1 rfl,wpIn_mono (hb _ hturn) ?_⟩
   rintro e a3 W3 hp
   cases e with
   | normal=>
    obtain⟨hk3,hg3,hkp3,hi3⟩:=hp;have ht3:=two_keep htb hk3;obtain⟨ht4,hturn4⟩:=two_put (st':=.ready) (pe':=none) ht3
    first
     | exact⟨_,_,run_endRound (P:=P) none ht3.1,rfl,⟨hIt _ _ _ hi3 hturn4,ht4⟩,hKt hkp (hKt (hKp hturn) (hKt hkp3 (hKp hturn4)))⟩
     | (rw[hgood]at hg3;cases hg3)
   | ret=>
    obtain⟨hk3,hg3,hi3⟩:=hp;have ht3:=two_keep htb hk3;obtain⟨ht4,hturn4⟩:=two_put (st':=.done) (pe':=some .ret) ht3
    first
     | exact⟨_,_,run_endRound (P:=P) (some .ret) ht3.1,rfl,hXt _ _ hi3 hturn4,ht4⟩
     | (rw[hgood]at hg3;cases hg3)
   | _=>exact hp.elim
  | _=>exact hp.elim
 rintro e W2 ⟨⟨v,rfl⟩,(⟨xs,hS,hi,ht⟩ | ⟨hSx,hi,ht⟩)⟩
 ·obtain⟨ht3,hturn3⟩:=two_put (st':=.exhausted) (pe':=none) ht
  exact⟨none,_,run_endLoop (P:=P) ht.1 (by simp[rec_]),hdone _ xs _ (aj _) hS (hIt _ _ _ hi hturn3) ht3.2⟩
 ·obtain⟨ht3,hturn3⟩:=two_put (st':=.exhausted) (pe':=some .ret) ht
  exact⟨some .ret,_,run_endLoop (P:=P) ht.1 (by simp[rec_]),hstop _ _ (aj _) hSx (hXt _ _ hi hturn3) ht3.2⟩
end
end
section
open Go Go.RowKit Iv
attribute [local go_sem] Oper.semAt_some
attribute [local go_sem] pw gu B_app pv B_get B_toList
open Go.Shelf
def wA (n k:Nat) (i:Bool):Nat:=2*(n-k)-(if i=true then 1 else 0)
end
section
open Go Go.RowKit Iv
attribute [local go_sem] Oper.semAt_some
attribute [local go_sem] pw gu B_app pv B_get B_toList
def limS (l:List Sp):List Sp×Int:=if 1000<l.length then([],4)else(l,0)
def SpsPostF (r:List Sp×Int) (w:World) (e:Ending) (w':World):Prop:=∃u,e= .returned (.tuple #[u,.int .i64 r.2])∧RSps w' w'.heap.size u r.1∧RFrom w.heap.size u∧Below w.heap.size w w'
end
section
open Go Go.RowKit Iv
attribute [local go_sem] Oper.semAt_some
attribute [local go_sem] pw gu B_app pv B_get B_toList
open Go.Shelf
theorem gH {F:Fence} {n:Nat} {P:Program} {ops:Array Oper} {rest:List Oper} {o:Oper} {a:Act} {Q:Exit→Act→World→Prop} (w:World) (hgd:o.guard=none) (s x:Operand) (t:TypeId)
  (ho:o.op= .call {callee:=.builtin .append,args:=#[s,x],argTypes:=#[t,t]}) (hb:o.about P w a.eval=none)
  (base:Nat) (e:TypeId) (i:TypeInfo) (z:Value) (size bytes:Nat) (ht:P.underlying t=some (.slice e)) (hi:P.info? e=some i) (hz:i.zero=some z)
  (hsize:i.size=size) (hby:i.bytes=bytes) (hzs:z.cells.size=size) (hsz:0<size)
  (v:Value) (m:Nat) (xs:List Value) (hs:a.eval s=v) (hown:w.ownsRow base e size v m xs)
  (ad:Addr) (k c:Nat) (news:List Value) (hx:a.eval x= .slice (some ad) k c) (hl:news.length=k*size) (hnews:∀j u,news[j]? =some u→w.cell? (ad.add j)=some u) (h1:∀u∈news,u.oneCell'=true)
  (hm:0<k) (h63:m+k≤maxLen) (hbytes:(m+k)*bytes≤140737488355328) (hbase:base≤w.heap.size) (H:Nat) (hH:w.heap.size=H)
  (h:∀g cap w',w'.ownsRow base e size (.slice (some ⟨g,0,none⟩) (m+k) cap) (m+k) (xs++news)→w.grownBy w' v.ownBlock→(v.ownBlock=some g∨g=H)→g<w'.heap.size→wpListIn F n P ops Q rest (a.put o.dst (.slice (some ⟨g,0,none⟩) (m+k) cap)) w'):wpListIn F n P ops Q (o::rest) a w:=
 wpListIn_plain hgd fun K' hK'=>iZ s x t ho hb base e i z size bytes ht hi hz hsize hby hzs hsz v m xs hs hown ad k c news hx hl hnews h1 hm h63 hbytes hbase H hH fun g cap w' h2 h3 h4 h5=>hK' _ _ (h g cap w' h2 h3 h4 h5)
theorem dZ {A B':World} {C:Nat} (h:Below A.heap.size A B'):KeepsFrom C A B':=⟨h.size,fun k o _ hk _=>by
 have hlt:k<A.heap.size:=(ai.1 hk).1;rw[h.block k hlt];exact hk⟩
theorem eL {w A C:World} {n:Nat} (h:Turned n A C) (h1:w.heap.size≤n):(∀(q:Nat) (cs:Array Value) (e:TypeId) (f:Nat×Nat),A.heap[q]? =some (Obj.cells cs e f)→C.heap[q]? =A.heap[q]?)∧Below w.heap.size A C:=by
 obtain⟨l,o,o',hl,ho,hc,_,rfl⟩:=h;refine⟨fun q cs e f hq=>World.putObj_heap_other (fun e'=>?_),(ap _ _).grown (grownBy_putObj' A l o') (by have:=(ai.1 ho).1;omega) (fun q hq=>by cases hq;omega)⟩
 subst e';rw[hq]at ho;cases ho;cases hc
def combS (f:Bool→Bool→Bool) (a b:List Sp):List Sp×Int:=if chkSp a≠0∨chkSp b≠0 then([],1)else limS (cmb f a b)
end
end Go.Proofs.YtfnciigbbolckaaGreat
