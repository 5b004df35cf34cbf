/- Part 29 of the proof about mailboattop.TopOthers. No condition. -/
import Derived.Test.YtfnciigbbolckaaGreatQ00
import Derived.Test.YtfnciigbbolckaaGreatQ03
import Derived.Test.YtfnciigbbolckaaGreatQ05
import Derived.Test.YtfnciigbbolckaaGreatQ06
import Derived.Test.YtfnciigbbolckaaGreatQ21
import Derived.Test.YtfnciigbbolckaaGreatQ24
import Derived.Test.YtfnciigbbolckaaGreatQ26
import Derived.Test.YtfnciigbbolckaaGreatQ28
set_option linter.unusedVariables false
set_option linter.unusedSimpArgs false
set_option maxRecDepth 100000
set_option maxHeartbeats 64000000
namespace Go.Proofs.YtfnciigbbolckaaGreat
open Go Go.RowKit Iv
attribute [local go_sem] Oper.semAt_some
attribute [local go_sem] pw gu B_app pv B_get B_toList
section
def FrS (B Z:Nat) (L:List Sp) (a:Int) (W:World):Prop:=∃vo,Boxed W Z 84 vo∧W.ownsRow B 86 2 vo L.length (sps L)∧Boxed W (Z+1) 3 (.int .i64 a)
def KpF (Z:Nat) (W W':World):Prop:=W.heap.size≤W'.heap.size∧∀q,q<W.heap.size→q≠Z→(∀vo,Boxed W Z 84 vo→vo.ownBlock≠some q)→W'.heap[q]? =W.heap[q]?
theorem KpF.refl (Z:Nat) (W:World):KpF Z W W:=⟨aj _,fun _ _ _ _=>rfl⟩
theorem FrS.keep {B Z:Nat} {L:List Sp} {a:Int} {W W':World} (h:FrS B Z L a W) (hZ:Z+1<B) (hB:B≤W.heap.size) (k:∀q,q<W.heap.size→W'.heap[q]? =W.heap[q]?):FrS B Z L a W':=by
 obtain⟨vo,b,o,ba⟩:=h;exact⟨vo,(k _ (by omega)).trans b,cV o (fun q hq=>k q (o.lt q hq).2),(k _ (by omega)).trans ba⟩
theorem nu (B Z:Nat) (L:List Sp) (a t:Int) (W:World) (hZ:Z+1<B) (hB:B≤W.heap.size) (h:FrS B Z L a W) (hl:L.length≤1000):
  Calls Tryz.prog 188 #[.int .i64 t,.pointer (some ⟨Z+1,0,none⟩),.pointer (some ⟨Z,0,none⟩)] W fun e W'=>e= .returned (.tuple #[])∧FrS B Z (if a<t then L++[(a,t)]else L) a W'∧KpF Z W W'∧Below Z W W':=by
 obtain⟨vo,bo,ow,ba⟩:=h;obtain⟨va,vc,rfl⟩:=dg ow;obtain⟨i0,hin,hz0,hz1,hz2⟩:=info_parts kj;have HBO:=aa bo;have HOW:=aa ow;have HBA:=aa ba;have ca:=ba.cell;have co:=bo.cell;have fo:=bo.frozen;have zo:=bo.lt;have za:=ba.lt;clear bo ow ba;by_cases z:a<t
 ·have d1:decide (a<t)=true:=decide_eq_true z
  rw[if_pos z];clear z;go_enter Tryz.func188,Tryz.ntmps188
  go_wp2_with (at_builtin;refine dK _ rfl _ _ _ rfl B 86 i0 _ 2 16 Tryz.underlying84 hin hz0 hz1 hz2 rfl (by omega) (.slice va L.length vc) L.length (sps L) rfl (cV HOW.out (fun q hq=>ak _ _ _ (HOW.out.lt q hq).2)) ⟨W.heap.size,0,none⟩ 1 1 (spC (a,t)) rfl rfl (dI cW) (by simp[spC,Value.oneCell']) (by simp only[maxLen];omega) (by omega) (by simp;omega) (by omega) ?_;intro vo w9 ho9 hg9 hf9;obtain⟨av,cv,rfl⟩:=dg ho9;have hz9:Z<w9.heap.size:=(by have:=hg9.size;simp at this;omega);have HB9:Hid (Boxed w9 Z 84 (.slice va L.length vc)):=aa ((dw hg9 (by simp;omega) (fun e=>by have:=(HOW.out.lt _ e).1;omega)).trans ((ak _ _ _ (by omega)).trans HBO.out));have c9:=HB9.out.cell;have f9:=HB9.out.frozen)
  go_end0
  have hal:Below W.heap.size W (W.alloc (.cells (spC (a,t)).toArray 86)):=de (ap _ _);have hne:∀q,q≠Z→(w9.setCell ⟨Z,0,none⟩ (.slice av (L.length+1) cv)).heap[q]? =w9.heap[q]?:=fun q h=>heap_setCell_other w9 ⟨Z,0,none⟩ q _ h
  have hkeep:∀q,q<W.heap.size→(Value.slice va L.length vc).ownBlock≠some q→w9.heap[q]? =W.heap[q]?:=fun q hq hn=>(dw hg9 (by simp;omega) hn).trans (hal.block q hq)
  refine⟨rfl,⟨_,HB9.out.set _,?_,(hne _ (by omega)).trans ((hkeep _ (by omega) (fun e=>by have:=(HOW.out.lt _ e).1;omega)).trans HBA.out)⟩,⟨?_,fun q hq hqz hqv=>(hne q hqz).trans (hkeep q hq (hqv _ HBO.out))⟩,?_⟩
  ·rw[ay,gn]
   refine cV (w:=w9) (by simpa [sps]using ho9) fun q hq=>hne q (fun e=>?_)
   subst e;have:=(ho9.lt _ hq).1;omega
  ·have:=hg9.size
   simp at this ⊢
   omega
  ·exact bset (Below.grown (hal.mono (by omega)) hg9 (by simp;omega) (fun q hq=>by have:=(HOW.out.lt q hq).1;omega)) (aj _)
 ·have d1:decide (a<t)=false:=decide_eq_false z
  rw[if_neg z];clear z;go_enter Tryz.func188,Tryz.ntmps188
  go_wp2
  go_end0
  exact⟨rfl,⟨_,HBO.out,HOW.out,HBA.out⟩,KpF.refl _ _,ap _ _⟩
theorem free_any (qs:List Int) (cs:List Con) (l:List Bkg) (n:Nat) (c:Con) (uq uc ub:Value) (w:World) (hq:RRow intC 1 w w.heap.size uq qs) (hc:RRow conC 7 w w.heap.size uc cs) (hl:RRow bkgC 4 w w.heap.size ub l)
  (hn:cs[n]? =some c) (h5:l.length≤512) (hdj:DJ c.st (busyS l n)):
  Calls Tryz.prog 155 #[.agg #[uq,uc],ub,.int .i64 n,.int .i64 c.st] w (SpsRet (outs c.en c.st (busyS l n)) w):=by
 have HL:=aa hl;obtain⟨aq,cq,rfl,-⟩:=hq;obtain⟨al,cl,rfl,-⟩:=hl;obtain⟨ac,cc,rfl,c1,c2,c3,c4⟩:=hc;unfold maxLen at c2;have hlc:cs.length≤9223372036854775807:=by omega
 have hlt:n<cs.length:=(aw.1 hn).1;obtain⟨bb,o,rfl,hbn,hcell⟩:=c4 (by omega);have q0:w.cell? ⟨bb,o+n*7,none⟩=some (.int .i64 c.fr):=hcell n c hn 0 _ rfl;have q1:w.cell? ⟨bb,o+n*7+1,none⟩=some (.int .i64 c.tt):=hcell n c hn 1 _ rfl;have q2:w.cell? ⟨bb,o+n*7+2,none⟩=some (.int .i64 c.st):=hcell n c hn 2 _ rfl;have q3:w.cell? ⟨bb,o+n*7+3,none⟩=some (.int .i64 c.en):=hcell n c hn 3 _ rfl;have q4:w.cell? ⟨bb,o+n*7+4,none⟩=some (.int .i64 c.ra):=hcell n c hn 4 _ rfl;have q5:w.cell? ⟨bb,o+n*7+5,none⟩=some (.int .i64 c.rg):=hcell n c hn 5 _ rfl;have q6:w.cell? ⟨bb,o+n*7+6,none⟩=some (.int .i64 c.lo):=hcell n c hn 6 _ rfl;have n0:(0:Int)≤(n:Int):=by omega
 have n1:(n:Int)<(cs.length:Int):=by omega
 have hmx:max c.st c.st=c.st:=by omega
 obtain⟨M,hM⟩:=cR (busyS l n)
 have HM:=aa hM;have hml:M.length≤512:=by rw[←hM];exact aK (gL _ _) h5
 rw[hM]at hdj;have HDJ:=aa hdj;rw[hM];obtain⟨R,hR⟩:=cR (outs c.en c.st M)
 have HR:=aa hR;rw[hR];have hcall:∀args W,(callFunc 188 args).run Tryz.prog W= .ok (.enter 188 args) W:=fun _ _=>by kernel_rfl
 clear c3 c4 hcell hdj hM hn hR;go_enter Tryz.func155,Tryz.ntmps155
 go_upto_region 5 with fail
 obtain⟨w4,hw4⟩:=cR ((((w.alloc (.cells #[.slice aq qs.length cq,.slice (some ⟨bb,o,none⟩) cs.length cc] 25)).alloc (.cells #[.int .i64 c.fr,.int .i64 c.tt,.int .i64 c.st,.int .i64 c.en,.int .i64 c.ra,.int .i64 c.rg,.int .i64 c.lo] 95)).alloc (.cells #[.slice none 0 0] 84)).alloc (.cells #[.int .i64 c.st] 3))
 rw[hw4];have hB4:Below w.heap.size w w4:=by rw[←hw4];exact cZ
 obtain⟨Z,hZ⟩:=cR (w.heap.size+1+1)
 rw[hZ];have G1:w4.heap[w.heap.size+1]? =some (.cells #[.int .i64 c.fr,.int .i64 c.tt,.int .i64 c.st,.int .i64 c.en,.int .i64 c.ra,.int .i64 c.rg,.int .i64 c.lo] 95 (0,0)):=by rw[←hw4];exact(by repeat (first | exact cY (by first | rfl | (simp;done)) | refine(ak _ _ _ (by first | (simp;done) | (simp;omega))).trans ?_))
 have G2:w4.heap[Z]? =some (.cells #[.slice none 0 0] 84 (0,0)):=by rw[←hZ,←hw4];exact(by repeat (first | exact cY (by first | rfl | (simp;done)) | refine(ak _ _ _ (by first | (simp;done) | (simp;omega))).trans ?_))
 have G3:w4.heap[Z+1]? =some (.cells #[.int .i64 c.st] 3 (0,0)):=by rw[←hZ,←hw4];exact(by repeat (first | exact cY (by first | rfl | (simp;done)) | refine(ak _ _ _ (by first | (simp;done) | (simp;omega))).trans ?_))
 have hs4:Z+1<w4.heap.size:=(ai.1 G3).1;have hz0:w.heap.size+1<Z:=by omega
 clear hw4 hZ;go_wp2_with fail
 refine(nt l n _ _ (HL.out.below' hB4) h5).mono ?_
 rw[HM.out];rintro e w5 hr5;obtain⟨u,rfl,hr,hf,hb5⟩:=hr5;have hB5:Below w.heap.size w w5:=dq hB4 hb5;have hs5:w4.heap.size≤w5.heap.size:=hb5.size;have HG1:Hid (w5.heap[w.heap.size+1]? =some (.cells #[.int .i64 c.fr,.int .i64 c.tt,.int .i64 c.st,.int .i64 c.en,.int .i64 c.ra,.int .i64 c.rg,.int .i64 c.lo] 95 (0,0))):=aa ((hb5.block _ (by omega)).trans G1);have HG2:Hid (Boxed w5 Z 84 (.slice none 0 0)):=aa ((hb5.block _ (by omega)).trans G2);have HG3:Hid (Boxed w5 (Z+1) 3 (.int .i64 c.st)):=aa ((hb5.block _ (by omega)).trans G3);clear G1 G2 G3 hb5;obtain⟨a5,c5,rfl,m1,m2,m3,m4⟩:=hr;unfold maxLen at m2;have hlm:M.length≤9223372036854775807:=by omega
 have HM4:=aa m4;have HF:=aa hf;clear m3 m4 hf;go_wp2
 go_loopw [29] (fun i wr=>∃(k:Nat) (L:List Sp) (a:Int),k≤M.length∧i= .int .i64 k∧Hid (FrS w5.heap.size Z L a wr)∧Hid (L++outs c.en a (M.drop k)=R∧DJ a (M.drop k))∧L.length≤k∧Hid (∀q,q<w5.heap.size→q≠Z→q≠Z+1→wr.heap[q]? =w5.heap[q]?)∧Below w.heap.size w wr∧w5.heap.size≤wr.heap.size) (fun i _=>M.length-(intOf i).toNat)
 case atStart=>exact⟨0,[],c.st,aE _,rfl,aa ⟨_,HG2.out,aX _ _ _ _,HG3.out⟩,aa ⟨by rw[List.drop_zero];exact HR.out,by rw[List.drop_zero];exact HDJ.out⟩,aj _,aa (fun _ _ _ _=>rfl),hB5,aj _⟩
 case round=>
  obtain⟨k,L,a,hk,rfl,HFR,HI,hLk,HK,hB,hsr⟩:=hrel;by_cases hlt:k<M.length
  ·obtain⟨bm,om,rfl,hbm,hcell⟩:=HM4.out (by omega)
   have hbm4:w4.heap.size≤bm:=HF.out ⟨bm,om,none⟩ _ _ rfl;obtain⟨x,hx⟩:∃x,M[k]? =some x:=⟨_,am hlt⟩
   have kc:∀p,wr.cell? ⟨bm,p,none⟩=w5.cell? ⟨bm,p,none⟩:=fun p=>aU (HK.out bm hbm (by omega) (by omega))
   have q0:wr.cell? ⟨bm,om+k*2,none⟩=some (.int .i64 x.1):=(kc _).trans (sp0 hcell hx);have q1:wr.cell? ⟨bm,om+k*2+1,none⟩=some (.int .i64 x.2):=(kc _).trans (sp1 hcell hx);have k0:(0:Int)≤(k:Int):=by omega
   have k1:(k:Int)<(M.length:Int):=by omega
   have hdr:M.drop k=x::M.drop (k+1):=by
    rw[bX hlt];rw[am hlt]at hx;rw[Option.some.inj hx]
   have HX:=aa hx;obtain⟨i1,i2⟩:=HI.out;rw[hdr]at i1 i2;obtain⟨e1,e2,e3⟩:=i2;have hmx2:max a x.2=x.2:=by omega
   have HI2:Hid ((if a<x.1 then L++[(a,x.1)]else L)++outs c.en x.2 (M.drop (k+1))=R∧DJ x.2 (M.drop (k+1))):=aa ⟨by
    rw[←i1];show _=L++(if a<x.1 then(a,x.1)::outs c.en x.2 (M.drop (k+1))else outs c.en x.2 (M.drop (k+1)))
    split<;>simp,e3⟩
   have hL2:(if a<x.1 then L++[(a,x.1)]else L).length≤k+1:=by split<;>(try simp)<;>omega
   clear hcell hx i1 e1 e2 e3 hdr kc;go_upto_region 8 with fail
   obtain⟨w6,hw6⟩:=cR (wr.alloc (.cells #[.int .i64 x.1,.int .i64 x.2] 86))
   rw[hw6];have hB6:Below w.heap.size w w6:=by rw[←hw6];exact de hB
   have hK6:∀q,q<wr.heap.size→w6.heap[q]? =wr.heap[q]?:=by rw[←hw6];exact fun q hq=>ak _ _ _ hq
   have GX:w6.heap[wr.heap.size]? =some (.cells #[.int .i64 x.1,.int .i64 x.2] 86 (0,0)):=by rw[←hw6];exact cW
   have hs6:wr.heap.size<w6.heap.size:=by rw[←hw6];simp
   clear hw6 q0 q1;have HFR6:Hid (FrS w5.heap.size Z L a w6):=aa (HFR.out.keep (by omega) hsr hK6);have hown:∀vo,Boxed w6 Z 84 vo→vo.ownBlock≠some wr.heap.size:=by
    intro vo hvo;obtain⟨v1,b1,o1,_⟩:=HFR.out;have b2:Boxed w6 Z 84 v1:=(hK6 Z (by omega)).trans b1;have:vo=v1:=by
     have:=hvo.symm.trans b2;simpa using this
    subst this;intro e;have:=(o1.lt _ e).2;omega
   have cx:=fun p=>cU GX p
   go_wp2_with fail
   refine(nu w5.heap.size Z L a x.1 _ (by omega) (by omega) HFR6.out (by omega)).mono ?_
   rintro e w7 ⟨rfl,hf7,hk7,hb7⟩;obtain⟨L2,hL⟩:=cR ((if a<x.1 then L++[(a,x.1)]else L))
   rw[hL]at hf7 HI2 hL2;clear hL;have GX7:w7.heap[wr.heap.size]? =some (.cells #[.int .i64 x.1,.int .i64 x.2] 86 (0,0)):=(hk7.2 _ hs6 (by omega) hown).trans GX;have HK7:Hid (∀q,q<w5.heap.size→q≠Z→q≠Z+1→w7.heap[q]? =w5.heap[q]?):=aa (fun q h1 h2 h3=>(hk7.2 q (by omega) h2 (fun vo hvo e=>by
    obtain⟨v1,b1,o1,_⟩:=HFR6.out;have:vo=v1:=by
     have:=hvo.symm.trans b1;simpa using this
    subst this;have:=(o1.lt _ e).1;omega)).trans ((hK6 q (by omega)).trans (HK.out q h1 h2 h3)))
   have hB7:Below w.heap.size w w7:=hB6.trans (hb7.mono (by omega));have hs7:w6.heap.size≤w7.heap.size:=hk7.1;obtain⟨v7,b7,o7,a7⟩:=hf7;have HO7:=aa (cS b7 (cS o7 a7));have ca7:=a7.cell;have fa7:=a7.frozen;have za7:=a7.lt;have zx7:wr.heap.size<w7.heap.size:=by omega
   have cx7:=fun p=>cU GX7 p
   clear cx GX GX7 hk7 hb7 b7 o7 a7 hown hK6;go_wp2
   go_roundw
   case rel=>
    obtain⟨b7,o7,a7⟩:=HO7.out;have hne:∀q,q≠Z+1→(w7.setCell ⟨Z+1,0,none⟩ (.int .i64 x.2)).heap[q]? =w7.heap[q]?:=fun q h=>heap_setCell_other w7 ⟨Z+1,0,none⟩ q _ h
    refine⟨k+1,L2,x.2,by omega,by go_num,aa ⟨v7,(hne _ (by omega)).trans b7,cV o7 (fun q hq=>hne q (fun e=>by have:=(o7.lt _ hq).1;omega)),a7.set _⟩,HI2,hL2,aa (fun q h1 h2 h3=>(hne q h3).trans (HK7.out q h1 h2 h3)),bset hB7 (by show w.heap.size≤Z+1;omega),by simp;omega⟩
   case measure=>simp[intOf];omega
  ·obtain rfl:k=M.length:=by omega
   have HI2:Hid ((if a<c.en then L++[(a,c.en)]else L)=R):=aa (by
    have:=HI.out.1;rw[List.drop_length]at this;rw[←this];show _=L++(if a<c.en then[(a,c.en)]else[])
    split<;>simp)
   have GC:=cU ((HK.out (w.heap.size+1) (by omega) (by omega) (by omega)).trans HG1.out);have hzc:w.heap.size+1<wr.heap.size:=by omega
   go_wp2_with fail
   refine(nu w5.heap.size Z L a c.en _ (by omega) (by omega) HFR.out (by omega)).mono ?_
   rintro e w7 ⟨rfl,hf7,hk7,hb7⟩;rw[HI2.out]at hf7;have hB7:Below w.heap.size w w7:=hB.trans (hb7.mono (by omega));obtain⟨v7,b7,o7,a7⟩:=hf7;have HO7:=aa o7;have cb7:=b7.cell;have zb7:=b7.lt;obtain⟨va,vc,rfl⟩:=dg o7;clear GC hk7 hb7 b7 o7 a7;go_wp2
   go_ret
   exact⟨_,rfl,RSps.of_own HO7.out,(gx HO7.out).le (by omega),hB7⟩
end
section
def endL (L:List Sp) (a t:Int):List Sp:=if 0≤a∧a<t then L++[(a,t)]else L
def FrV (B Z:Nat) (vo:Value) (L:List Sp) (a:Int) (W:World):Prop:=Boxed W Z 84 vo∧W.ownsRow B 86 2 vo L.length (sps L)∧Boxed W (Z+1) 3 (.int .i64 a)
def KpG (B Z:Nat) (W W':World):Prop:=W.heap.size≤W'.heap.size∧∀q,q<W.heap.size→q<B→q≠Z→q≠Z+1→W'.heap[q]? =W.heap[q]?
theorem KpG.trans {B Z:Nat} {a b c:World} (h:KpG B Z a b) (k:KpG B Z b c):KpG B Z a c:=⟨aK h.1 k.1,fun q h1 h2 h3 h4=>(k.2 q (by have:=h.1;omega) h2 h3 h4).trans (h.2 q h1 h2 h3 h4)⟩
theorem KpG.of {B Z:Nat} {a b:World} (h:Below a.heap.size a b):KpG B Z a b:=⟨h.size,fun q h1 _ _ _=>h.block q h1⟩
theorem FrV.keep {B Z:Nat} {vo:Value} {L:List Sp} {a:Int} {W W':World} (h:FrV B Z vo L a W) (k:Below W.heap.size W W'):FrV B Z vo L a W':=
 ⟨(k.block _ h.1.lt).trans h.1,cV h.2.1 (fun q hq=>k.block q (h.2.1.lt q hq).2),(k.block _ h.2.2.lt).trans h.2.2⟩
def EndPost (B Z:Nat) (vo:Value) (L L':List Sp) (a':Int) (W:World) (e:Ending) (W':World):Prop:=e= .returned (.tuple #[])∧(∃vo',FrV B Z vo' L' a' W'∧(L'=L→vo'=vo))∧KpG B Z W W'∧Below Z W W'
theorem nx (B Z:Nat) (vo:Value) (L:List Sp) (a t:Int) (W:World) (hZ:Z+1<B) (hB:B≤W.heap.size) (h:FrV B Z vo L a W) (hl:L.length≤2000):
  Calls Tryz.prog 157 #[.int .i64 t,.pointer (some ⟨Z+1,0,none⟩),.pointer (some ⟨Z,0,none⟩)] W (EndPost B Z vo L (endL L a t) (-1) W):=by
 obtain⟨bo,ow,ba⟩:=h;obtain⟨va,vc,rfl⟩:=dg ow;obtain⟨i0,hin,hz0,hz1,hz2⟩:=info_parts kj;have HBO:=aa bo;have HOW:=aa ow;have HBA:=aa ba;have ca:=ba.cell;have fa:=ba.frozen;have co:=bo.cell;have fo:=bo.frozen;have zo:=bo.lt;have za:=ba.lt;clear bo ow ba;have HSET:Hid (endL L a t=L→EndPost B Z (.slice va L.length vc) L (endL L a t) (-1) W (.returned (.tuple #[])) (W.setCell ⟨Z+1,0,none⟩ (.int .i64 (-1)))):=aa (fun he=>by
  have hne:∀q,q≠Z+1→(W.setCell ⟨Z+1,0,none⟩ (.int .i64 (-1))).heap[q]? =W.heap[q]?:=fun q h=>heap_setCell_other W ⟨Z+1,0,none⟩ q _ h
  rw[he];exact⟨rfl,⟨_,⟨(hne _ (by omega)).trans HBO.out,cV HOW.out (fun q hq=>hne q (by have:=(HOW.out.lt q hq).1;omega)),HBA.out.set _⟩,fun _=>rfl⟩,⟨by simp,fun q _ _ _ h=>hne q h⟩,bset (ap _ _) (by show Z≤Z+1;omega)⟩)
 by_cases z0:0≤a
 case neg=>
  have d0:decide (a≥0)=false:=decide_eq_false (by omega);have HE:Hid (endL L a t=L):=aa (if_neg (fun h=>z0 h.1));clear z0;go_enter Tryz.func157,Tryz.ntmps157
  go_wp2
  go_end0
  exact HSET.out HE.out
 have d0:decide (a≥0)=true:=decide_eq_true z0;by_cases z1:a<t
 case neg=>
  have d1:decide (a<t)=false:=decide_eq_false z1;have HE:Hid (endL L a t=L):=aa (if_neg (fun h=>z1 h.2));clear z0 z1;go_enter Tryz.func157,Tryz.ntmps157
  go_wp2
  go_end0
  exact HSET.out HE.out
 have d1:decide (a<t)=true:=decide_eq_true z1;have HE:Hid (endL L a t=L++[(a,t)]):=aa (if_pos ⟨z0,z1⟩);rw[HE.out];clear z0 z1;go_enter Tryz.func157,Tryz.ntmps157
 go_wp2_with (at_builtin;refine dK _ rfl _ _ _ rfl B 86 i0 _ 2 16 Tryz.underlying84 hin hz0 hz1 hz2 rfl (by omega) (.slice va L.length vc) L.length (sps L) rfl (cV HOW.out (fun q hq=>ak _ _ _ (HOW.out.lt q hq).2)) ⟨W.heap.size,0,none⟩ 1 1 (spC (a,t)) rfl rfl (dI cW) (by simp[spC,Value.oneCell']) (by simp only[maxLen];omega) (by omega) (by simp;omega) (by omega) ?_;intro vo w9 ho9 hg9 hf9;obtain⟨av,cv,rfl⟩:=dg ho9;have hz9:Z+1<w9.heap.size:=(by have:=hg9.size;simp at this;omega);have HB9:Hid (Boxed w9 Z 84 (.slice va L.length vc)):=aa ((dw hg9 (by simp;omega) (fun e=>by have:=(HOW.out.lt _ e).1;omega)).trans ((ak _ _ _ (by omega)).trans HBO.out));have HA9:Hid (Boxed w9 (Z+1) 3 (.int .i64 a)):=aa ((dw hg9 (by simp;omega) (fun e=>by have:=(HOW.out.lt _ e).1;omega)).trans ((ak _ _ _ (by omega)).trans HBA.out));have c9:=HB9.out.cell;have f9:=HB9.out.frozen;have ca9:=HA9.out.cell;have fa9:=HA9.out.frozen)
 go_end0
 have hal:Below W.heap.size W (W.alloc (.cells (spC (a,t)).toArray 86)):=de (ap _ _);have hne:∀q,q≠Z→q≠Z+1→∀u v:Value,((w9.setCell ⟨Z,0,none⟩ u).setCell ⟨Z+1,0,none⟩ v).heap[q]? =w9.heap[q]?:=fun q h1 h2 u v=>(heap_setCell_other _ ⟨Z+1,0,none⟩ q _ h2).trans (heap_setCell_other _ ⟨Z,0,none⟩ q _ h1)
 have hkeep:∀q,q<W.heap.size→(Value.slice va L.length vc).ownBlock≠some q→w9.heap[q]? =W.heap[q]?:=fun q hq hn=>(dw hg9 (by simp;omega) hn).trans (hal.block q hq)
 unfold EndPost;refine⟨rfl,⟨.slice (av) (L.length+1) cv,⟨?_,?_,?_⟩,fun e=>?_⟩,⟨?_,fun q hq hqB hqz hqz1=>(hne q hqz hqz1 _ _).trans (hkeep q hq (fun e=>by have:=(HOW.out.lt q e).1;omega))⟩,?_⟩
 ·exact(HB9.out.set _).other (by omega) _
 ·rw[ay,gn]
  refine cV (w:=w9) (by simpa [sps]using ho9) fun q hq=>hne q (fun e=>?_) (fun e=>?_) _ _
  ·subst e;have:=(ho9.lt _ hq).1;omega
  ·subst e;have:=(ho9.lt _ hq).1;omega
 ·exact(HA9.out.other (by omega) _).set _
 ·exfalso
  have:=congrArg List.length e;simp at this
 ·have:=hg9.size
  simp at this ⊢
  omega
 ·exact bset (bset (Below.grown (hal.mono (by omega)) hg9 (by simp;omega) (fun q hq=>by have:=(HOW.out.lt q hq).1;omega)) (aj _)) (by show Z≤Z+1;omega)
structure FrB (B Z pB:Nat) (uq uc:Value) (n sz:Int) (W:World):Prop where
 p:W.heap[pB]? =some (.cells #[uq,uc] 25 (0,0))
 n:W.heap[pB+1]? =some (.cells #[.int .i64 n] 3 (0,0))
 s:W.heap[pB+1+1]? =some (.cells #[.int .i64 sz] 3 (0,0))
 e:W.heap[Z+1+1]? =some (.cells #[.func (.func 157) #[] #[.pointer (some ⟨Z+1,0,none⟩),.pointer (some ⟨Z,0,none⟩)]] 176 (0,0))
 lt:pB+1+1<Z∧Z+1+1<B
theorem FrB.keep {B Z pB:Nat} {uq uc:Value} {n sz:Int} {W W':World} (h:FrB B Z pB uq uc n sz W) (k:KpG B Z W W'):FrB B Z pB uq uc n sz W':=by
 obtain⟨h1,h2,h3,h4,h5⟩:=h;have g:∀q cs e f,W.heap[q]? =some (Obj.cells cs e f)→q<B→q≠Z→q≠Z+1→W'.heap[q]? =some (.cells cs e f):=fun q cs e f hq a b c=>(k.2 q (ai.1 hq).1 a b c).trans hq
 exact⟨g _ _ _ _ h1 (by omega) (by omega) (by omega),g _ _ _ _ h2 (by omega) (by omega) (by omega),g _ _ _ _ h3 (by omega) (by omega) (by omega),g _ _ _ _ h4 (by omega) (by omega) (by omega),h5⟩
def atS (q sz:Int) (p:List Sp×Int) (t s:Int):List Sp×Int:=if IntKind.i64.wrap (q-s)<sz then(endL p.1 p.2 t,-1)else(p.1,if p.2<0 then t else p.2)
theorem pf (B Z pB:Nat) (vo:Value) (L:List Sp) (a t s:Int) (qs:List Int) (n:Nat) (q sz:Int) (aq:Option Addr) (cq:Nat) (uc:Value) (w0 W:World) (hB:B≤W.heap.size) (h:FrV B Z vo L a W) (hl:L.length≤2000) (hb:FrB B Z pB (.slice aq qs.length cq) uc n sz W) (hq0:RRow intC 1 w0 w0.heap.size (.slice aq qs.length cq) qs) (hw0:Below w0.heap.size w0 W) (hq:qs[n]? =some q):
  Calls Tryz.prog 158 #[.int .i64 t,.int .i64 s,.pointer (some ⟨pB,0,none⟩),.pointer (some ⟨pB+1,0,none⟩),.pointer (some ⟨pB+1+1,0,none⟩),.pointer (some ⟨Z+1+1,0,none⟩),.pointer (some ⟨Z+1,0,none⟩)] W (EndPost B Z vo L (atS q sz (L,a) t s).1 (atS q sz (L,a) t s).2 W):=by
 have HB:=aa hb;have HF:=aa h;have hlt:=hb.lt;obtain⟨a',c',e,h1,h2,h3,h4⟩:=hq0;have hnl:=(aw.1 hq).1;obtain⟨bb,o,e2,hbn,hcell⟩:=h4 (by omega);have e3:aq=some ⟨bb,o,none⟩:=by injection e with q1 q2 q3;rw[q1,e2]
 subst e3;have pq:W.cell? ⟨bb,o+n,none⟩=some (.int .i64 q):=(hw0.cell (p:=⟨bb,o+n,none⟩) hbn).trans (by have:=hcell n q hq 0 _ rfl;simpa using this);have hbW:bb<W.heap.size:=by have:=hw0.size;omega
 have n0:(0:Int)≤(n:Int):=by omega
 have n1:(n:Int)<(qs.length:Int):=by omega
 have c1:=fun q=>cU hb.p q
 have c2:=cU hb.n 0;have c3:=cU hb.s 0;have c4:=cU hb.e 0;have c5:=h.2.2.cell;have f5:=h.2.2.frozen;have z5:=h.2.2.lt;have z1:pB+1+1<W.heap.size:=by omega
 have z2:Z+1+1<W.heap.size:=by omega
 clear e e2 h1 h2 h3 h4 hcell hq hb h;obtain⟨D,hD⟩:=cR (IntKind.i64.wrap (q-s))
 have HD:=aa hD;by_cases z:D<sz
 ·have dz:decide (D<sz)=true:=decide_eq_true z
  have HA:Hid (atS q sz (L,a) t s=(endL L a t,-1)):=aa (by unfold atS;rw[hD,if_pos z]);rw[HA.out];clear z;go_enter Tryz.func158,Tryz.ntmps158
  go_upto_region 0 with fail
  go_quiet (fail)
  obtain⟨w1,hw1⟩:=cR (W.drewN nq)
  rw[hw1];have hb1:Below W.heap.size W w1:=by rw[←hw1];exact eu (ap _ _) _
  have k1:KpG B Z W w1:=KpG.of hb1;have c41:=cU (HB.out.keep k1).e 0;have HF1:=aa (HF.out.keep hb1);have hs1:=hb1.size;have hb1':Below Z W w1:=by rw[←hw1];exact eu (ap _ _) _
  have HK1:=aa (cS k1 hb1');clear hw1 k1 c1 c2 c3 c4 c5 f5 pq hb1 hb1';have z11:Z+1+1<w1.heap.size:=by omega
  go_wp2_with fail
  refine(nx B Z vo L a t _ (by omega) (by omega) HF1.out hl).mono ?_
  unfold EndPost;rintro e w2 ⟨rfl,hv,hk2,hb2⟩;have HV:=aa hv;have HK2:=aa (cS hk2 hb2);clear hv hk2 hb2 c41;go_wp2
  go_end0
  exact⟨rfl,HV.out,HK1.out.1.trans HK2.out.1,HK1.out.2.trans HK2.out.2⟩
 ·have dz:decide (D<sz)=false:=decide_eq_false z
  have HA:Hid (atS q sz (L,a) t s=(L,if a<0 then t else a)):=aa (by unfold atS;rw[hD,if_neg z]);rw[HA.out];clear z;by_cases y:a<0
  ·have dy:decide (a<0)=true:=decide_eq_true y
   rw[if_pos y];clear y;go_enter Tryz.func158,Tryz.ntmps158
   go_upto_region 0 with fail
   go_quiet (fail)
   obtain⟨w1,hw1⟩:=cR (W.drewN nq)
   rw[hw1];have hb1:Below W.heap.size W w1:=by rw[←hw1];exact eu (ap _ _) _
   have hb1':Below Z W w1:=by rw[←hw1];exact eu (ap _ _) _
   have hs1:=hb1.size;have HF1:=aa (HF.out.keep hb1);have c51:=HF1.out.2.2.cell;have f51:=HF1.out.2.2.frozen;have HK1:=aa (cS hb1 hb1');have z51:Z+1<w1.heap.size:=by omega
   clear hw1 c1 c2 c3 c4 c5 f5 pq hb1 hb1';go_wp2
   go_end0
   have hne:∀q,q≠Z+1→(w1.setCell ⟨Z+1,0,none⟩ (.int .i64 t)).heap[q]? =w1.heap[q]?:=fun q h=>heap_setCell_other w1 ⟨Z+1,0,none⟩ q _ h
   exact⟨rfl,⟨vo,⟨(hne _ (by omega)).trans HF1.out.1,cV HF1.out.2.1 (fun q hq=>hne q (by have:=(HF1.out.2.1.lt q hq).1;omega)),HF1.out.2.2.set _⟩,fun _=>rfl⟩,(KpG.of HK1.out.1).trans ⟨by simp,fun q _ _ _ h=>hne q h⟩,HK1.out.2.trans (bset (ap _ _) (by show Z≤Z+1;omega))⟩
  ·have dy:decide (a<0)=false:=decide_eq_false y
   rw[if_neg y];clear y;go_enter Tryz.func158,Tryz.ntmps158
   go_upto_region 0 with fail
   go_quiet (fail)
   obtain⟨w1,hw1⟩:=cR (W.drewN nq)
   rw[hw1];have hb1:Below W.heap.size W w1:=by rw[←hw1];exact eu (ap _ _) _
   have hb1':Below Z W w1:=by rw[←hw1];exact eu (ap _ _) _
   have hs1:=hb1.size;have HF1:=aa (HF.out.keep hb1);have c51:=HF1.out.2.2.cell;have HK1:=aa (cS hb1 hb1');have z51:Z+1<w1.heap.size:=by omega
   clear hw1 c1 c2 c3 c4 c5 f5 pq hb1 hb1';go_wp2
   go_end0
   exact⟨rfl,⟨vo,HF1.out,fun _=>rfl⟩,KpG.of HK1.out.1,HK1.out.2⟩
end
section
def SfRet (qs:List Int) (n:Nat) (l:List Hld) (q sz:Int) (w:World) (e:Ending) (w':World):Prop:=(∃(u:Value) (L:List Sp) (r:Int),e= .returned (.tuple #[u,.int .i64 r])∧RSps w' w'.heap.size u L∧L.length≤1100∧(∀x∈L,spOK x)∧RFrom w.heap.size u∧(HkOK qs l→RmS l (n:Int) q sz L))∧Below w.heap.size w w'
theorem pg {L:List Sp} {a t:Int} (h:∀x∈L,spOK x) (ht:t≤1099511627776):∀x∈endL L a t,spOK x:=by
 unfold endL;split
 ·rename_i hc
  intro x hx;rcases aA.1 hx with hx | hx
  ·exact h x hx
  ·rw[aH.1 hx];exact⟨hc.1,hc.2,ht⟩
 ·exact h
theorem atS_ok {q sz t s:Int} {p:List Sp×Int} (h:∀x∈p.1,spOK x) (ht:t≤1099511627776):∀x∈(atS q sz p t s).1,spOK x:=by
 unfold atS;split
 ·exact pg h ht
 ·exact h
theorem ny (L:List Sp) (a t:Int):(endL L a t).length≤L.length+1:=by unfold endL;split<;>simp
theorem atS_len (q sz t s:Int) (p:List Sp×Int):(atS q sz p t s).1.length≤p.1.length+1:=by
 unfold atS;split
 ·exact ny _ _ _
 ·exact Nat.le_succ _
theorem qe (qs:List Int) (cs:List Con) (l:List Hld) (uq uc ul:Value) (n:Nat) (q sz:Int) (w:World) (hq:RRow intC 1 w w.heap.size uq qs) (hc:RRow conC 7 w w.heap.size uc cs) (hl:RRow hldC 5 w w.heap.size ul l) (hp:PlanOK qs cs) (hn:qs[n]? =some q) (s1:1≤sz) (s2:sz≤65536):
  Calls Tryz.prog 118 #[.agg #[uq,uc],ul,.int .i64 (n:Int),.int .i64 sz] w (SfRet qs n l q sz w):=by
 have HQ:=aa hq;have HC:=aa hc;have HLR:=aa hl;have HPO:=aa hp;have HN:=aa hn;have hnl:=(aw.1 hn).1;obtain⟨aq,cq,rfl,q1,q2,-,-⟩:=hq;obtain⟨ac,cc,rfl,-⟩:=hc;obtain⟨al,cl,rfl,l1,l2,-,-⟩:=hl;unfold maxLen at l2 q2;have n0:(0:Int)≤(n:Int):=by omega
 have n1:(n:Int)<(qs.length:Int):=by omega
 clear hp hn;go_enter Tryz.func118,Tryz.ntmps118
 go_wp2_with fail
 obtain⟨w0,hw0⟩:=cR (((w.alloc (.cells #[.slice aq qs.length cq,.slice ac cs.length cc] 25)).alloc (.cells #[.int .i64 (n:Int)] 3)).alloc (.cells #[.int .i64 sz] 3))
 rw[hw0];have P0:w0.heap[w.heap.size]? =some (.cells #[.slice aq qs.length cq,.slice ac cs.length cc] 25 (0,0)):=by rw[←hw0];exact(ak _ _ _ (by simp;omega)).trans ((ak _ _ _ (by simp)).trans cW)
 have P1:w0.heap[w.heap.size+1]? =some (.cells #[.int .i64 (n:Int)] 3 (0,0)):=by rw[←hw0];exact(ak _ _ _ (by simp)).trans (cY (by simp))
 have P2:w0.heap[w.heap.size+1+1]? =some (.cells #[.int .i64 sz] 3 (0,0)):=by rw[←hw0];exact cY (by simp)
 have hb0:Below w.heap.size w w0:=by rw[←hw0];exact cZ
 clear hw0;refine(kw qs cs l _ _ _ _ (HQ.out.below' hb0) (HC.out.below' hb0) (HLR.out.below' hb0)).mono ?_
 rintro e w1 ⟨⟨r,rfl,hr1⟩,hb1⟩;have HB1:=aa (dq hb0 hb1);have z0:w.heap.size+1+1<w0.heap.size:=(ai.1 P2).1;have PP:=aa (cS ((hb1.block _ (by omega)).trans P0) (cS ((hb1.block _ (by omega)).trans P1) ((hb1.block _ z0).trans P2)));have z1:w.heap.size+1+1<w1.heap.size:=by have:=hb1.size;omega
 clear P0 P1 P2 hb0 hb1;by_cases zr:r=0
 case neg=>
  have d0:(r != 0)=true:=by simpa using zr
  have HX:Hid (¬HkOK qs l):=aa (fun h=>zr (hr1.2 ⟨HPO.out,h⟩));clear zr hr1;go_wp2
  refine bodyPost_ret (results_tmp2 rfl _ _ _) rfl ?_
  exact⟨⟨.slice none 0 0,[],1,rfl,RSps.nil _ _,by simp,fun x h=>(by cases h),pC _ _ _,fun h=>absurd h HX.out⟩,HB1.out⟩
 subst zr;have HV:=aa (hr1.1 rfl);have h512:l.length≤512:=(hr1.1 rfl).2.1;clear hr1;have c1:=cU PP.out.2.1 0;have c2:=cU PP.out.2.2 0;have c3:=fun o=>cU PP.out.1 o
 go_upto_region 9 with fail
 obtain⟨Z,hZ⟩:=cR w1.heap.size
 obtain⟨w4,hw4⟩:=cR (((w1.alloc (.cells #[.slice none 0 0] 84)).alloc (.cells #[.int .i64 (-1)] 3)).alloc (.cells #[.func (.func 157) #[] #[.pointer (some ⟨w1.heap.size+1,0,none⟩),.pointer (some ⟨w1.heap.size,0,none⟩)]] 176))
 rw[hw4];have b1:w4.heap[w1.heap.size]? =some (.cells #[.slice none 0 0] 84 (0,0)):=by rw[←hw4];exact(ak _ _ _ (by simp;omega)).trans ((ak _ _ _ (by simp)).trans cW)
 have b2:w4.heap[w1.heap.size+1]? =some (.cells #[.int .i64 (-1)] 3 (0,0)):=by rw[←hw4];exact(ak _ _ _ (by simp)).trans (cY (by simp))
 have b3:w4.heap[w1.heap.size+1+1]? =some (.cells #[.func (.func 157) #[] #[.pointer (some ⟨w1.heap.size+1,0,none⟩),.pointer (some ⟨w1.heap.size,0,none⟩)]] 176 (0,0)):=by rw[←hw4];exact cY (by simp)
 have hb4:Below w1.heap.size w1 w4:=by rw[←hw4];exact cZ
 clear hw4;rw[hZ]at b1 b2 b3 z1 ⊢;have z4:Z+1+1<w4.heap.size:=(ai.1 b3).1;have HB4:Hid (Below w.heap.size w w4):=aa (dq HB1.out hb4);have HFB:Hid (FrB w4.heap.size Z w.heap.size (.slice aq qs.length cq) (.slice ac cs.length cc) (n:Int) sz w4):=aa ⟨(hb4.block _ (by omega)).trans PP.out.1,(hb4.block _ (by omega)).trans PP.out.2.1,(hb4.block _ (by omega)).trans PP.out.2.2,b3,by omega⟩;have HFV:Hid (FrV w4.heap.size Z (.slice none 0 0) [] (-1) w4):=aa ⟨b1,aX _ _ _ _,b2⟩;clear b1 b2 b3 hb4 c1 c2 c3;go_wp2_with fail
 refine(pf w4.heap.size Z w.heap.size (.slice none 0 0) [] (-1) 0 0 qs n q sz aq cq (.slice ac cs.length cc) w w4 (aj _) HFV.out (by simp) HFB.out HQ.out HB4.out HN.out).mono ?_
 unfold EndPost;rintro e w5 ⟨rfl,⟨vo,hv,hv0⟩,hk5,hb5⟩;have hq0:0≤q∧q≤1073741824:=HPO.out.2.1 q (az HN.out);have hwq:IntKind.i64.wrap (q-0)=q:=by rw[ax];omega
 have hL0:(atS q sz ([],-1) 0 0).1=[]:=by unfold atS endL;rw[hwq];split<;>rfl
 have hA0:(atS q sz ([],-1) 0 0).2=(if q<sz then -1 else 0):=by unfold atS;rw[hwq];split<;>rfl
 have hvo:=hv0 hL0;subst hvo;rw[hL0,hA0]at hv;obtain⟨A,hA⟩:=cR ((if q<sz then(-1:Int)else 0))
 rw[hA]at hv;have HA:=aa hA;have HFV5:=aa hv;have HFB5:=aa (HFB.out.keep hk5);have hs5:=hk5.1;have HB5:Hid (Below w.heap.size w w5):=aa (HB4.out.trans (hb5.mono (by omega)));clear hv hv0 hk5 hb5 hwq hL0 hA0 hA hq0;have cn5:=cU HFB5.out.n 0;have z5:Z+1+1<w5.heap.size:=by omega
 go_wp2_with fail
 refine(ic l n _ _ (HLR.out.below' HB5.out) h512 (fun h hh=>⟨(HV.out.2.2.1 h hh).2.1,(HV.out.2.2.1 h hh).2.2.1⟩)).mono ?_
 rintro e w6 ⟨u6,P,rfl,hr6,hp6,hf6,hlv6,hb6⟩;have HLK:=aa hlv6;have HVB:Hid (∀x∈P,0≤x.2∧x.2≤100000000):=aa (fun x hx=>by
  have h1:=hlv6.val x.1;rw[j9 hlv6.asc hx]at h1;have h2:=fk (l:=l) (fun h hh=>by have:=(HV.out.2.2.1 h hh).2.2.1;omega) (n:Int) x.1;have h3:=lev_le (l:=l) (fun h hh=>by have:=(HV.out.2.2.1 h hh).2.2.1;omega) (n:Int) x.1;omega)
 clear hlv6;obtain⟨a6,c6,rfl,m1,m2,-,m4⟩:=hr6;unfold maxLen at m2;have hs6:=hb6.size;have HM4:=aa m4;have HF6:=aa hf6;have HFB6':=HFB5.out.keep (KpG.of hb6);have HFB6:Hid (FrB w6.heap.size Z w.heap.size (.slice aq qs.length cq) (.slice ac cs.length cc) (n:Int) sz w6):=aa ⟨HFB6'.p,HFB6'.n,HFB6'.s,HFB6'.e,by omega⟩;have hfv6:=HFV5.out.keep hb6;have HFV6:Hid (FrV w6.heap.size Z (.slice none 0 0) [] A w6):=aa ⟨hfv6.1,aX _ _ _ _,hfv6.2.2⟩;have HB6:Hid (Below w.heap.size w w6):=aa (dq HB5.out hb6);have z6:Z+1+1<w6.heap.size:=by omega
 have hAl:A≤1099511627776:=by have:=HA.out;split at this<;>omega
 have hpl:P.length≤1024:=by omega
 have HP2:=aa hp6;clear m4 hf6 HFB6' hfv6 hb6 cn5;go_wp2_with fail
 go_loopw [45] (fun kv wr=>∃(k:Nat) (vo:Value) (L:List Sp) (a:Int),k≤P.length∧kv= .int .i64 (k:Int)∧L.length≤k∧Hid (FrV w6.heap.size Z vo L a wr)∧Hid (KpG w6.heap.size Z w6 wr)∧Hid (Below Z w6 wr)∧Hid (∀x∈L,spOK x)∧Hid (FrI P q sz (nextT (P.drop k)) L a∧(P=[]→L=[]∧a=A))) (fun kv _=>P.length-(intOf kv).toNat)
 case atStart=>exact⟨0,_,[],A,aE _,rfl,aj _,HFV6,aa ⟨aj _,fun q _ _ _ _=>rfl⟩,aa (ap _ _),aa (fun x h=>by cases h),aa (by have:=FrI.start (q:=q) (sz:=sz) HLK.out.asc (fun y hy=>(HLK.out.bnd y hy).1);rw[HA.out]at this;exact⟨this,fun _=>⟨rfl,rfl⟩⟩)⟩
 case round=>
  obtain⟨k,vo,L,a,hk,rfl,hLk,HV_,HK,HB,HOK,HNE⟩:=hrel;have zr:w6.heap.size≤wr.heap.size:=HK.out.1;by_cases hlt:k<P.length
  ·obtain⟨bb,o,rfl,hbn,hcell⟩:=HM4.out (by omega)
   obtain⟨x,hx⟩:∃x,P[k]? =some x:=⟨_,am hlt⟩
   have hbf:w5.heap.size≤bb:=HF6.out ⟨bb,o,none⟩ _ _ rfl;have hbk:∀j:Nat,wr.cell? ⟨bb,j,none⟩=w6.cell? ⟨bb,j,none⟩:=fun j=>by simp only[World.cell?,HK.out.2 bb hbn hbn (by omega) (by omega)]
   have q0:wr.cell? ⟨bb,o+k*2,none⟩=some (.int .i64 x.1):=(hbk _).trans (sp0 hcell hx);have q1:wr.cell? ⟨bb,o+k*2+1,none⟩=some (.int .i64 x.2):=(hbk _).trans (sp1 hcell hx);have k0:(0:Int)≤(k:Int):=by omega
   have k1:(k:Int)<(P.length:Int):=by omega
   have HDR:Hid (P=P.take k++x::P.drop (k+1)∧nextT (P.drop k)=x.1∧x∈P):=aa (by
    have e:P.drop k=x::P.drop (k+1):=by rw[bX hlt,(aw.1 hx).2]
    exact⟨by rw[←e,bP],by rw[e];rfl,az hx⟩)
   have hq0:0≤q∧q≤1073741824:=HPO.out.2.1 q (az HN.out);have hxb:=HVB.out x HDR.out.2.2;have HAT:Hid (atS q sz (L,a) x.1 x.2=(if q-x.2<sz then endL' L a x.1 else L,if q-x.2<sz then -1 else if a<0 then x.1 else a)):=aa (by
    unfold atS;rw[show IntKind.i64.wrap (q-x.2)=q-x.2 by rw[ax];omega];split<;>rfl)
   clear hx hcell hbk hq0 hxb;go_upto_region 13 with fail
   obtain⟨w7,hw7⟩:=cR (wr.alloc (.cells #[.int .i64 x.1,.int .i64 x.2] 185))
   rw[hw7];have hb7:Below wr.heap.size wr w7:=by rw[←hw7];exact de (ap _ _)
   have XV:Hid (w7.heap[wr.heap.size]? =some (.cells #[.int .i64 x.1,.int .i64 x.2] 185 (0,0))):=aa (by rw[←hw7];exact cW);have z7:wr.heap.size<w7.heap.size:=by rw[←hw7];simp
   have hbz7:Below Z wr w7:=by rw[←hw7];exact(ap _ _).alloc (by omega) _
   have HK7:=aa (cS (HK.out.trans (KpG.of hb7)) (HB.out.trans hbz7));have HFV7:=aa (HV_.out.keep hb7);have cx:=fun q=>cU XV.out q
   clear hw7 hb7 hbz7 q0 q1;by_cases y:x.1<1099511627776
   ·have dy:decide (x.1<1099511627776)=true:=decide_eq_true y
    have HY:=aa y;have HFB7:=aa (HFB6.out.keep HK7.out.1);have HBW:Hid (Below w.heap.size w w7):=aa (HB6.out.trans (HK7.out.2.mono (by omega)));go_wp2_with fail
    refine(pf w6.heap.size Z w.heap.size vo L a x.1 x.2 qs n q sz aq cq (.slice ac cs.length cc) w w7 (by omega) HFV7.out (by omega) HFB7.out HQ.out HBW.out HN.out).mono ?_
    unfold EndPost;rintro e w8 ⟨rfl,⟨vo8,hv8,-⟩,hk8,hb8⟩;have hl8:=atS_len q sz x.1 x.2 (L,a);have ho8:=atS_ok (q:=q) (sz:=sz) (t:=x.1) (s:=x.2) (p:=(L,a)) HOK.out (by omega);have HR8:=aa (cS hv8 (cS (HK7.out.1.trans hk8) (cS (HK7.out.2.trans hb8) (cS hl8 ho8))));clear hv8 hk8 hb8 hl8 ho8 cx y;go_wp2
    go_roundw
    case rel=>exact⟨k+1,vo8,_,_,by omega,by go_num,by have:=HR8.out.2.2.2.1;omega,aa HR8.out.1,aa HR8.out.2.1,aa HR8.out.2.2.1,aa HR8.out.2.2.2.2,aa (by rw[HAT.out];have h5:=FrI.step (A:=P.take k) (B:=P.drop (k+1)) (x:=x) (q:=q) (sz:=sz) (L:=L) (a:=a) (by rw[←HDR.out.1];exact HLK.out.asc) (fun y hy=>(HLK.out.bnd y (List.mem_of_mem_drop hy)).2) HY.out (HLK.out.bnd x HDR.out.2.2).1 (by rw[←HDR.out.1];have h6:=HNE.out.1;rw[HDR.out.2.1]at h6;exact h6);rw[←HDR.out.1]at h5;exact⟨h5,(fun e=>by have h0:=HDR.out.2.2;rw[e]at h0;cases h0)⟩)⟩
    case measure=>simp[intOf];omega
   ·have dy:decide (x.1<1099511627776)=false:=decide_eq_false y
    have HY:Hid (¬x.1<1099511627776):=aa y;clear y;go_wp2
    go_roundw
    case rel=>exact⟨k+1,vo,L,a,by omega,by go_num,by omega,HFV7,aa HK7.out.1,aa HK7.out.2,HOK,aa (by
     have hx1:=HLK.out.bnd x HDR.out.2.2;have hy:=HY.out;have e:P.drop (k+1)=[]:=by
      cases hd:P.drop (k+1)with
      | nil=>rfl
      | cons z r=>
       have h1:=HLK.out.asc;rw[HDR.out.1,hd]at h1;have h2:=(aM.1 (aT.1 h1).2.1).1 z (by simp);have h3:=HLK.out.bnd z (List.mem_of_mem_drop (by rw[hd];simp));omega
     rw[e];have h4:=HNE.out.1;rw[HDR.out.2.1,show x.1=1099511627776 by omega]at h4;exact⟨h4,(fun e=>by have h0:=HDR.out.2.2;rw[e]at h0;cases h0)⟩)⟩
    case measure=>simp[intOf];omega
  ·obtain rfl:k=P.length:=by omega
   have ce:=cU (HFB6.out.keep HK.out).e 0;have zer:Z+1+1<wr.heap.size:=by omega
   go_wp2_with fail
   refine(nx w6.heap.size Z vo L a 1099511627776 _ (by omega) zr HV_.out (by omega)).mono ?_
   unfold EndPost;rintro e w9 ⟨rfl,⟨vo9,hv9,-⟩,hk9,hb9⟩;have co9:=hv9.1.cell;have zo9:=hv9.1.lt;obtain⟨va,vc,rfl⟩:=dg hv9.2.1;have HR9:=aa (cS hv9 (cS hk9 hb9));clear hv9 hk9 hb9 ce;go_wp2
   refine bodyPost_ret (results_tmp2 rfl _ _ _) rfl ?_
   refine⟨⟨.slice va (endL L a 1099511627776).length vc,endL L a 1099511627776,0,rfl,RSps.of_own HR9.out.1.2.1,by have:=ny L a 1099511627776;omega,pg HOK.out (aR _),(gx HR9.out.1.2.1).le HB6.out.size,fun _=>?_⟩,HB6.out.trans ((HB.out.trans HR9.out.2.2).mono (by omega))⟩
   have h1:=HNE.out.1;rw[List.drop_length]at h1;obtain⟨-,h2,h3⟩:=h1.end;exact⟨h2,fun x hx t ht1 ht2=>by rw[←HLK.out.val];exact h3 x hx t ht1 ht2,fun e=>by
    have hP0:P=[]:=aF (by have:=HP2.out;rw[e]at this;simpa using this);obtain⟨e1,e2⟩:=HNE.out.2 hP0;rw[e1,e2,←HA.out];unfold endL;by_cases hz:q<sz
    ·simp[hz]
    ·simp[hz]⟩
end
section
theorem outs_in (m:Int):∀(l:List Sp) (f:Int),DJ f l→(∀x∈l,x.2≤m)→∀x∈outs m f l,f≤x.1∧x.1<x.2∧x.2≤m
 | [],f,_,_=>by
  intro x hx;unfold outs at hx;split at hx
  ·rw[aH.1 hx];simp only;omega
  ·cases hx
 | y::r,f,h,hm=>by
  obtain⟨h1,h2,h3⟩:=h;have hy:=hm y (by simp);have ih:=outs_in m r y.2 h3 (fun z hz=>hm z (by simp[hz]));intro x hx;unfold outs at hx;split at hx
  ·rcases aG.1 hx with rfl | hx
   ·simp only;omega
   ·have:=ih x hx;omega
  ·have:=ih x hx;omega
theorem busy_in {qs:List Int} {cs:List Con} {l:List Bkg} {n:Nat} {c:Con} (hb:BkOK cs l) (hn:cs[n]? =some c):∀x∈busyS l n,c.st≤x.1∧x.1<x.2∧x.2≤c.en:=by
 intro x hx;unfold busyS at hx;obtain⟨b,hb1,rfl⟩:=bu.1 hx;have:=bG.1 hb1;exact(hb.2.1 b this.1).2.2 c (by have e:b.ct=(n:Int):=(by simpa using this.2);rw[e];simpa using hn)
theorem gap_in {qs:List Int} {cs:List Con} {l:List Bkg} {n:Nat} {c:Con} (hp:PlanOK qs cs) (hb:BkOK cs l) (hn:cs[n]? =some c):∀x∈outs c.en c.st (busyS l n),c.st≤x.1∧x.1<x.2∧x.2≤c.en:=
 outs_in c.en _ _ (kH hp hb hn).dj (fun x hx=>(busy_in (qs:=qs) hb hn x hx).2.2)
def gapsL (cs:List Con) (l:List Bkg):List (List Sp):=cs.mapIdx fun i c=>outs c.en c.st (busyS l i)
theorem jo (cs:List Con) (l:List Bkg):(gapsL cs l).length=cs.length:=by unfold gapsL;simp
theorem jp {cs:List Con} (l:List Bkg) {i:Nat} {c:Con} (h:cs[i]? =some c):(gapsL cs l)[i]? =some (outs c.en c.st (busyS l i)):=by unfold gapsL;rw[List.getElem?_mapIdx,h];rfl
theorem qf {cs:List Con} {l:List Bkg} {g:List Sp} (h:g∈gapsL cs l):∃(i:Nat) (c:Con),cs[i]? =some c∧g=outs c.en c.st (busyS l i):=by
 obtain⟨i,hi⟩:=List.mem_iff_getElem?.1 h;have hl:=(aw.1 hi).1;rw[jo]at hl;refine⟨i,cs[i],am hl,?_⟩
 rw[jp l (am hl)]at hi;injection hi with hi
 exact hi.symm
def gOf (cs:List Con) (l:List Bkg) (R:List (List Sp)) (src dst:Int) (s:Nat) (rd D pr:Int) (cu:Bool):Gp:=
 {cs:=cs,G:=gapsL cs l,R:=R,Ds:=cs.map (fun c=>durS c s),src:=src,dst:=dst,sz:=(s:Int),rd:=rd,D:=D,pr:=pr,cu:=cu}
def RoomsOK (qs0 qs:List Int) (hs:List Hld) (sz:Int) (R:List (List Sp)):Prop:=R.length=qs.length∧(∀l∈R,l.length≤1100∧∀x∈l,spOK x)∧(HkOK qs0 hs→∀(n:Nat) q l,qs[n]? =some q→R[n]? =some l→RmS hs (n:Int) q sz l)
theorem oy {qs:List Int} {cs:List Con} {l:List Bkg} {hs:List Hld} {R:List (List Sp)} {src dst rd D pr:Int} {s:Nat} (cu:Bool) (hp:PlanOK qs cs) (hb:BkOK cs l) (hr:ReqOK qs.length src dst (s:Int) rd D pr) (hR:RoomsOK qs qs hs (s:Int) R):GOK (gOf cs l R src dst s rd D pr cu):=by
 obtain⟨⟨p1,p2,p3⟩,p4,p5⟩:=hp;obtain⟨⟨r1,r2,r3,r4⟩,r5,⟨r6,r7,r8,r9,r10⟩,r11,r12⟩:=hr;refine⟨p3,by show R.length≤16;rw[hR.1];exact p2,jo _ _,by show(cs.map _).length=_;simp[gOf],fun c hc=>?_,fun g hg=>?_,hR.2.1,fun d hd=>?_,?_,?_,⟨r8,r9⟩,r10⟩
 ·obtain⟨i,hi⟩:=List.mem_iff_getElem?.1 hc
  have:=p5 i c hi;exact⟨this.1,by show c.fr<(R.length:Int);rw[hR.1];exact this.2.1,by show c.tt<(R.length:Int);rw[hR.1];exact this.2.2.1⟩
 ·obtain⟨i,c,hc,rfl⟩:=qf (show g∈gapsL cs l from hg)
  have h1:=gap_in ⟨⟨p1,p2,p3⟩,p4,p5⟩ hb hc;have h2:=ee (p5 i c hc).1;have h3:=h2.st0;have h4:=h2.en1;have h5:=h2.rg0;refine⟨?_,fun x hx=>?_⟩
  ·have a1:=kG c.en (busyS l i) c.st
   have a2:=gL l i;have a3:=hb.1;omega
  ·have:=h1 x hx
   unfold spOK;omega
 ·obtain⟨c,hc,rfl⟩:=bu.1 (show d∈cs.map (fun c=>durS c s)from hd)
  obtain⟨i,hi⟩:=List.mem_iff_getElem?.1 hc;exact fM (ee (p5 i c hi).1) (by omega) (by omega)
 ·show 0≤src∧src<(R.length:Int)
  rw[hR.1];exact⟨r1,r2⟩
 ·show 0≤dst∧dst<(R.length:Int)
  rw[hR.1];exact⟨r3,r4⟩
end
end Go.Proofs.YtfnciigbbolckaaGreat
