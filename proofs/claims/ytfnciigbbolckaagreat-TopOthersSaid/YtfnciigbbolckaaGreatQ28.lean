/- Part 28 of the proof about mailboattop.TopOthers. No condition. -/
import Derived.Test.YtfnciigbbolckaaGreatQ00
import Derived.Test.YtfnciigbbolckaaGreatQ02
import Derived.Test.YtfnciigbbolckaaGreatQ04
import Derived.Test.YtfnciigbbolckaaGreatQ08
import Derived.Test.YtfnciigbbolckaaGreatQ13
import Derived.Test.YtfnciigbbolckaaGreatQ21
import Derived.Test.YtfnciigbbolckaaGreatQ24
import Derived.Test.YtfnciigbbolckaaGreatQ26
import Derived.Test.YtfnciigbbolckaaGreatQ27
set_option linter.unusedVariables false
set_option linter.unusedSimpArgs false
set_option maxRecDepth 100000
set_option maxHeartbeats 64000000
namespace Go.Proofs.YtfnciigbbolckaaGreat
section
open Go Go.RowKit Iv
attribute [local go_sem] Oper.semAt_some
attribute [local go_sem] pw gu B_app pv B_get B_toList
open Go.Shelf
def put4 (w:World) (g:Nat) (a b c d:Value):World:=(((w.setCell ⟨g,0,none⟩ a).setCell ⟨g,1,none⟩ b).setCell ⟨g,2,none⟩ c).setCell ⟨g,3,none⟩ d
theorem iU {w:World} {g:Nat} {a b c d a' b' c' d':Value} {t:TypeId} (h:w.heap[g]? =some (.cells #[a',b',c',d'] t (0,0))):(put4 w g a b c d).heap[g]? =some (.cells #[a,b,c,d] t (0,0)):=eD (eD (eD (eD h 0 a) 1 b) 2 c) 3 d
theorem fJ (w:World) (g:Nat) (a b c d:Value) {q:Nat} (h:q≠g):(put4 w g a b c d).heap[q]? =w.heap[q]?:=(heap_setCell_other _ ⟨g,3,none⟩ q d h).trans ((heap_setCell_other _ ⟨g,2,none⟩ q c h).trans ((heap_setCell_other _ ⟨g,1,none⟩ q b h).trans (heap_setCell_other _ ⟨g,0,none⟩ q a h)))
theorem iV {B:Nat} {xs:List Nat} (w:World) (g:Nat) (a b c d:Value) (h:g∈xs):KpB B xs w (put4 w g a b c d):=(((KpB.set w a h).trans (KpB.set _ b h)).trans (KpB.set _ c h)).trans (KpB.set _ d h)
theorem gV (w:World) (g:Nat) (a b c d:Value):(put4 w g a b c d).heap.size=w.heap.size:=by unfold put4;simp
def matB (z:Lbl) (m:Mv):Prop:=keyL m.1=keyL z∧m.1.tm=z.tm
def BfPost (g:Gp) (O:List Lbl) (z:Lbl) (w:World) (e:Ending) (w':World):Prop:=((∃x∈O,∃m∈movesL g x,matB z m∧e= .returned (.tuple #[.agg #[.int .i64 x.nd,.int .i64 x.fr,.int .i64 x.tt,.int .i64 x.tm],.agg #[.int .i64 m.2.1,.int .i64 m.2.2.1,.int .i64 m.2.2.2.1,.int .i64 m.2.2.2.2],.bool true]))∨((∀x∈O,∀m∈movesL g x,¬matB z m)∧∃a b,e= .returned (.tuple #[a,b,.bool false])))∧Below w.heap.size w w'
def noM (g:Gp) (z:Lbl) (l:List Lbl):Prop:=∀x∈l,∀m∈movesL g x,¬matB z m
theorem ou (g:Gp) (hg:GOK g) (gB lB pB:Nat) (O:List Lbl) (u:Value) (z:Lbl) (w:World) (h:Gr w gB g) (ho:RRow lblC 4 w w.heap.size u O) (hO:∀x∈O,lOK x) (hlb:w.heap[lB]? =some (.cells #[u] 62 (0,0))) (hpb:w.heap[pB]? =some (.cells #[.pointer (some ⟨gB,0,none⟩)] 147 (0,0))):
  Calls Tryz.prog 79 #[.agg #[.int .i64 z.nd,.int .i64 z.fr,.int .i64 z.tt,.int .i64 z.tm],.pointer (some ⟨lB,0,none⟩),.pointer (some ⟨pB,0,none⟩)] w (BfPost g O z w):=by
 refine(callsIn_wide (n:=12)).1 ?_
 refine callsIn_of_wp_marks Tryz.func79 rfl trivial ?_ rfl
 simp only[Tryz.ntmps79,bJ,aI,bE,Nat.reduceAdd,Nat.reduceSub,bS,bT,cH,bW,br,a8];refine wpIn_wide.2 ?_
 have HG:=aa hg;have HGR:=aa h;have HO:=aa hO;have hgl:=h.lt;obtain⟨a,c,rfl,h1,h2,h3,h4⟩:=ho;have H4:=aa h4;have HLB:=aa (cS hlb hpb);have hll:=(ai.1 hlb).1;have hpl:=(ai.1 hpb).1;unfold maxLen at h2;clear h3 h4 hg h hO hlb hpb;go_upto_region 1 with fail
 obtain⟨s0,hs0⟩:=cR w.heap.size
 obtain⟨w2,hw2⟩:=cR ((((w.alloc (.cells #[.int .i64 z.nd,.int .i64 z.fr,.int .i64 z.tt,.int .i64 z.tm] 153)).alloc (.cells #[.int .i64 0,.int .i64 0,.int .i64 0,.int .i64 0] 153)).alloc (.cells #[.int .i64 0,.int .i64 0,.int .i64 0,.int .i64 0] 68)).alloc (.cells #[.bool false] 4))
 rw[hw2];have B2:Below s0 w w2:=by rw[←hw2,←hs0];exact cZ
 have X0:w2.heap[s0]? =some (.cells #[.int .i64 z.nd,.int .i64 z.fr,.int .i64 z.tt,.int .i64 z.tm] 153 (0,0)):=by rw[←hw2,←hs0];exact(by repeat (first | exact cY (by first | rfl | (simp;done)) | refine(ak _ _ _ (by first | (simp;done) | (simp;omega))).trans ?_))
 have X1:w2.heap[s0+1]? =some (.cells #[.int .i64 0,.int .i64 0,.int .i64 0,.int .i64 0] 153 (0,0)):=by rw[←hw2,←hs0];exact(by repeat (first | exact cY (by first | rfl | (simp;done)) | refine(ak _ _ _ (by first | (simp;done) | (simp;omega))).trans ?_))
 have X2:w2.heap[s0+1+1]? =some (.cells #[.int .i64 0,.int .i64 0,.int .i64 0,.int .i64 0] 68 (0,0)):=by rw[←hw2,←hs0];exact(by repeat (first | exact cY (by first | rfl | (simp;done)) | refine(ak _ _ _ (by first | (simp;done) | (simp;omega))).trans ?_))
 have X3:w2.heap[s0+1+1+1]? =some (.cells #[.bool false] 4 (0,0)):=by rw[←hw2,←hs0];exact(by repeat (first | exact cY (by first | rfl | (simp;done)) | refine(ak _ _ _ (by first | (simp;done) | (simp;omega))).trans ?_))
 have z2:s0+1+1+1<w2.heap.size:=(ai.1 X3).1;have HS0:=aa hs0;have HB2:=aa B2;have HX:=aa (cS X0 (cS X1 (cS X2 (cS X3 (cS ((B2.block _ (by omega)).trans HLB.out.1) ((B2.block _ (by omega)).trans HLB.out.2))))));have cl:=cU HX.out.2.2.2.2.1 0;have zl:lB<w2.heap.size:=by omega
 rw[hs0]at H4 hgl hll hpl ⊢;clear hw2 B2 X0 X1 X2 X3 hs0;go_wp2_with fail
 refine wp_loop (fun ac W=>∃(k:Nat) (ds:List Deferred) (u8 u13 u14 u15 u16 u17 u18 u35:Value),ac={tmps:=#[.agg #[.int .i64 z.nd,.int .i64 z.fr,.int .i64 z.tt,.int .i64 z.tm],.pointer (some ⟨lB,0,none⟩),.pointer (some ⟨pB,0,none⟩),.pointer (some ⟨s0,0,none⟩),.pointer (some ⟨s0+1,0,none⟩),.pointer (some ⟨s0+1+1,0,none⟩),.pointer (some ⟨s0+1+1+1,0,none⟩),undef,u8,undef,.slice a O.length c,.int .i64 (O.length:Int),.int .i64 (k:Int),u13,u14,u15,u16,u17,u18,undef,undef,undef,undef,undef,undef,undef,undef,undef,undef,undef,undef,undef,undef,undef,undef,u35,undef,undef],defers:=ds}∧k≤O.length∧Hid (noM g z (O.take k))∧Hid (Below w2.heap.size w2 W)∧Hid (MarkOK w2.heap.size W ds)) (fun a W=>O.length-(intOf (a.tmps.getD 12 undef)).toNat) ⟨0,[],_,_,_,_,_,_,_,_,rfl,aE _,aa (fun x hx=>by simp at hx),aa (ap _ _),aa ⟨[],rfl,List.nodup_nil,fun D hD=>by cases hD⟩⟩ ?_
 rintro ac wr ⟨k,ds,u8,u13,u14,u15,u16,u17,u18,u35,rfl,hk,HNM,HBR,HM⟩;have zr:=HBR.out.size;have k0:(0:Int)≤(k:Int):=by omega
 clear cl;by_cases hlt:k<O.length
 ·obtain⟨bb,o,rfl,hbn,hcell⟩:=H4.out (by omega)
  obtain⟨x,hx⟩:∃x,O[k]? =some x:=⟨_,am hlt⟩
  have HBW:Hid (Below s0 w wr):=aa (HB2.out.trans (HBR.out.mono (by omega)));have q0:wr.cell? ⟨bb,o+k*4,none⟩=some (.int .i64 x.nd):=(HBW.out.cell (p:=⟨bb,o+k*4+0,none⟩) hbn).trans (hcell k x hx 0 _ rfl);have q1:wr.cell? ⟨bb,o+k*4+1,none⟩=some (.int .i64 x.fr):=(HBW.out.cell (p:=⟨bb,o+k*4+1,none⟩) hbn).trans (hcell k x hx 1 _ rfl);have q2:wr.cell? ⟨bb,o+k*4+2,none⟩=some (.int .i64 x.tt):=(HBW.out.cell (p:=⟨bb,o+k*4+2,none⟩) hbn).trans (hcell k x hx 2 _ rfl);have q3:wr.cell? ⟨bb,o+k*4+3,none⟩=some (.int .i64 x.tm):=(HBW.out.cell (p:=⟨bb,o+k*4+3,none⟩) hbn).trans (hcell k x hx 3 _ rfl);have k1:(k:Int)<(O.length:Int):=by omega
  have HX_:=aa hx;have hxl:=HO.out x (az hx);have HXL:=aa hxl;clear hcell hx hxl;go_upto_region 4 with fail
  obtain⟨w4,hw4⟩:=cR (wr.alloc (.cells #[.int .i64 x.nd,.int .i64 x.fr,.int .i64 x.tt,.int .i64 x.tm] 153))
  rw[hw4];have K4:Hid (Below wr.heap.size wr w4):=aa (by rw[←hw4];exact de (ap _ _));have XV:Hid (w4.heap[wr.heap.size]? =some (.cells #[.int .i64 x.nd,.int .i64 x.fr,.int .i64 x.tt,.int .i64 x.tm] 153 (0,0))):=aa (by rw[←hw4];exact cW);have z4:wr.heap.size<w4.heap.size:=by rw[←hw4];simp
  obtain⟨xB,hxB⟩:=cR wr.heap.size
  have HXB:=aa hxB;have HB4:Hid (Below w2.heap.size w2 w4):=aa (HBR.out.trans (K4.out.mono (by omega)));have HM4:=aa (HM.out.stay K4.out);rw[hxB]at XV z4 ⊢;clear hw4 q0 q1 q2 q3;have cx:=fun q=>cU XV.out q
  have cp:=cU ((HB4.out.block _ (by omega)).trans HX.out.2.2.2.2.2) 0;have zp4:pB<w4.heap.size:=by have:=HB4.out.size;omega
  go_wp2_with fail
  refine(jl gB x _).mono ?_
  obtain⟨Z,hZ⟩:=cR w4.heap.size
  unfold MovW;rw[hZ];rintro e w5 ⟨rfl,hb5,hs5,hx1,hx2⟩;rw[←hZ]at hb5;replace hs5:Z+2≤w5.heap.size:=Nat.le_of_eq hs5.symm
  have HB5:Hid (Below w2.heap.size w2 w5):=aa (HB4.out.trans (hb5.mono (by have:=HB4.out.size;omega)));have HM5:=aa (HM4.out.stay hb5);have HXS:=aa (cS hx1 hx2);have HXV:=aa ((hb5.block _ z4).trans XV.out);have zx:xB<w5.heap.size:=by omega
  clear cx cp hb5 hx1 hx2 K4 HM4;go_wp2_with fail
  refine(wpIn_wide (n:=12)).1 ?_
  have HBW5:Hid (Below w.heap.size w w5):=aa (by rw[HS0.out];exact HB2.out.trans (HB5.out.mono (by omega)));have zz5:w2.heap.size≤w5.heap.size:=HB5.out.size;refine wpIn_rangeFunc_ownH rfl (by omega) (gf:=126) (lb:=#[.pointer (some ⟨Z,0,none⟩),.pointer (some ⟨Z+1,0,none⟩)]) rfl trivial (enters_of Tryz.func126 (by kernel_rfl) rfl)
   (gG g HG.out gB Z (Z+1) x w w5 HGR.out (CK.of HBW5.out) HXS.out.1 HXS.out.2 HXL.out)
   (fun h k=>h.trans k) (fun W l o o' _ hl hc _=>KpP.putObj W l o' hl hc) (ap _ _) (fun _=>rfl)
   (fun pre W=>(∀m∈pre.map (·.1),¬matB z m)∧Below w5.heap.size w5 W)
   (fun c' pre W=>c'= .ret∧(∃m∈movesL g x,matB z m∧W.heap[s0+1]? =some (.cells #[.int .i64 x.nd,.int .i64 x.fr,.int .i64 x.tt,.int .i64 x.tm] 153 (0,0))∧W.heap[s0+1+1]? =some (.cells #[.int .i64 m.2.1,.int .i64 m.2.2.1,.int .i64 m.2.2.2.1,.int .i64 m.2.2.2.2] 68 (0,0))∧W.heap[s0+1+1+1]? =some (.cells #[.bool true] 4 (0,0)))∧KpB w5.heap.size [s0+1,s0+1+1,s0+1+1+1] w5 W)
   ?hI ?hX ?h0
   (fun m a' W=>∃mB:Nat,w5.heap.size≤mB∧mB<W.heap.size∧W.heap[mB]? =some (.cells (mvC m.1) 158 (0,0))∧a'={tmps:=#[.agg #[.int .i64 z.nd,.int .i64 z.fr,.int .i64 z.tt,.int .i64 z.tm],.pointer (some ⟨lB,0,none⟩),.pointer (some ⟨pB,0,none⟩),.pointer (some ⟨s0,0,none⟩),.pointer (some ⟨s0+1,0,none⟩),.pointer (some ⟨s0+1+1,0,none⟩),.pointer (some ⟨s0+1+1+1,0,none⟩),undef,.pointer (some ⟨xB,0,none⟩),.pointer (some ⟨mB,0,none⟩),.slice (some ⟨bb,o,none⟩) O.length c,.int .i64 (O.length:Int),.int .i64 (k:Int),.bool true,.pointer (some ⟨bb,o+k*4,none⟩),.agg #[.int .i64 x.nd,.int .i64 x.fr,.int .i64 x.tt,.int .i64 x.tm],.pointer (some ⟨gB,0,none⟩),.agg #[.int .i64 x.nd,.int .i64 x.fr,.int .i64 x.tt,.int .i64 x.tm],.func (.func 126) #[] #[.pointer (some ⟨Z,0,none⟩),.pointer (some ⟨Z+1,0,none⟩)],.agg (mvC m.1),undef,undef,undef,undef,undef,undef,undef,undef,undef,undef,undef,undef,undef,undef,undef,u35,undef,undef],defers:=[]}) ?hA ?assign ?body ?done ?stop
  case hI=>exact OwnFrom.and (fun s' A C row hs' hg hr'=>hs') (ownFrom_below (aj _) (aj _))
  case hX=>
   rintro c' pre A C row ⟨h1,⟨m,hm1,hm2,hm3,hm4,hm5⟩,hk⟩ hg hr';have hkk:∀q,q<w5.heap.size→C.heap[q]? =A.heap[q]?:=fun q hq=>hg.block q (by have:=hk.size;omega) (fun e=>by have:=(hr' q e.symm).1;omega)
   exact⟨h1,⟨m,hm1,hm2,(hkk _ (by omega)).trans hm3,(hkk _ (by omega)).trans hm4,(hkk _ (by omega)).trans hm5⟩,hk.trans ⟨hg.os,hg.tape,hg.output,hg.size,fun q hq _=>hkk q hq⟩⟩
  case h0=>exact⟨(fun m hm=>by simp at hm),ap _ _⟩
  case hA=>
   rintro m a' s' A C row ⟨mB,h1,h2,h3,h4⟩ hg hr';exact⟨mB,h1,by have:=hg.size;omega,iS hg hr' _ _ _ _ h3,h4⟩
  case assign=>
   rintro l' pre m W K' ⟨hn,hbw⟩ hK';have HK:=aa hK';have HNB:=aa (cS hn hbw);have zW:=hbw.size;clear hn hbw hK';simp only[mvC];gi_wp2
   exact HK.out _ _ ((KeepsOthers.alloc _ _).from _) (KpP.of (CK.of (de (ap _ _)))) ⟨HNB.out.1,HNB.out.2.trans ((de (ap _ _)).mono zW)⟩ ⟨W.heap.size,zW,by simp,cW,rfl⟩
  case body=>
   rintro l' pre m a' W hll hlp ⟨hn,hbw⟩ ⟨mB,e1,e2,e3,rfl⟩ hlt';clear hlt';have zW:=hbw.size;obtain⟨⟨⟨nd,fr,tt,tm⟩,hp⟩,hmem⟩:=m;have HNB:=aa (cS hn hbw);have X0w:=(hbw.block s0 (by omega)).trans ((HB5.out.block s0 (by omega)).trans HX.out.1);have XVw:=(hbw.block xB (by omega)).trans HXV.out;unfold mvC at e3;simp only at e3;have HME:=aa (cS e3 (cS X0w XVw));have c1:=fun q=>cU X0w q
   have c3:=fun q=>cU e3 q
   have s1:s0<W.heap.size:=by omega
   obtain⟨sv,hsv⟩:=cR (sameL ⟨nd,fr,tt,tm⟩ z)
   have HSV:=aa hsv;clear hn hbw e3 X0w XVw hsv;gi_wp2_with fail
   refine⟨trivial,CallsIn.inRound l' (callsIn_wide.2 ((j3 ⟨nd,fr,tt,tm⟩ z _).mono ?_))⟩
   rw[HSV.out];rintro e w6 ⟨rfl,hb6⟩;have z6:=hb6.size;have HB6:=aa hb6;have c1:=fun q=>cU ((hb6.block _ s1).trans HME.out.2.1) q
   have c3:=fun q=>cU ((hb6.block _ e2).trans HME.out.1) q
   have cx:=fun q=>cU ((hb6.block xB (by omega)).trans HME.out.2.2) q
   have s1':s0<w6.heap.size:=by omega
   have s2':mB<w6.heap.size:=by omega
   have s3':xB<w6.heap.size:=by omega
   have HGO:Hid (¬matB z (⟨nd,fr,tt,tm⟩,hp)→ownPostG w5.heap.size (KpP w.heap.size Z (Z+1)) (fun(pre:List {m:Mv // m∈movesL g x}) W=>(∀m∈pre.map (·.1),¬matB z m)∧Below w5.heap.size w5 W)
    (fun c' pre W=>c'= .ret∧(∃m∈movesL g x,matB z m∧W.heap[s0+1]? =some (.cells #[.int .i64 x.nd,.int .i64 x.fr,.int .i64 x.tt,.int .i64 x.tm] 153 (0,0))∧W.heap[s0+1+1]? =some (.cells #[.int .i64 m.2.1,.int .i64 m.2.2.1,.int .i64 m.2.2.2.1,.int .i64 m.2.2.2.2] 68 (0,0))∧W.heap[s0+1+1+1]? =some (.cells #[.bool true] 4 (0,0)))∧KpB w5.heap.size [s0+1,s0+1+1,s0+1+1+1] w5 W) (pre++[⟨(⟨nd,fr,tt,tm⟩,hp),hmem⟩]) W .normal ⟨#[],[]⟩ w6):=aa (fun hno=>by
    refine⟨⟨HB6.out.size,fun q o hq ho hc'=>(HB6.out.block q (ai.1 ho).1).trans ho⟩,KpP.of (CK.of HB6.out),fun m' hm'=>?_,HNB.out.2.trans (HB6.out.mono zW)⟩
    rw[bL,aA]at hm';rcases hm' with hm' | hm'
    ·exact HNB.out.1 m' hm'
    ·rw[aH.1 hm'];exact hno)
   clear hb6
   cases sv with
   | false=>
    have hno:Hid (¬matB z (⟨nd,fr,tt,tm⟩,hp)):=aa (fun hm=>by
     have:=gU.2 hm.1;simp only at this;rw[HSV.out]at this;cases this)
    clear c1 c3 cx;gi_wp2
    exact HGO.out hno.out
   | true=>
    by_cases htm:tm=z.tm
    case neg=>
     have dt:(tm==z.tm)=false:=by rw[beq_eq_false_iff_ne];exact htm
     have hno:Hid (¬matB z (⟨nd,fr,tt,tm⟩,hp)):=aa (fun hm=>htm hm.2);clear htm;gi_wp2
     exact HGO.out hno.out
    have dt:(tm==z.tm)=true:=by rw[beq_iff_eq];exact htm
    have HMT:Hid (matB z (⟨nd,fr,tt,tm⟩,hp)):=aa ⟨gU.1 HSV.out,htm⟩;clear htm;have R1:=(HB6.out.block (s0+1) (by omega)).trans ((HNB.out.2.block _ (by omega)).trans ((HB5.out.block _ (by omega)).trans HX.out.2.1));have R2:=(HB6.out.block (s0+1+1) (by omega)).trans ((HNB.out.2.block _ (by omega)).trans ((HB5.out.block _ (by omega)).trans HX.out.2.2.1));have R3:=(HB6.out.block (s0+1+1+1) (by omega)).trans ((HNB.out.2.block _ (by omega)).trans ((HB5.out.block _ (by omega)).trans HX.out.2.2.2.1));have HRR:=aa (cS R1 (cS R2 R3));have r1:=fun q=>cU R1 q
    have g1:=fun q=>dC R1 q
    have r2:=fun q=>cU R2 q
    have g2:=fun q=>dC R2 q
    have r3:=fun q=>cU R3 q
    have g3:=fun q=>dC R3 q
    clear R1 R2 R3;gi_wp2
    refine dN (fun V=>(∀o_,V.cell? ⟨xB,o_,none⟩=(#[.int .i64 x.nd,.int .i64 x.fr,.int .i64 x.tt,.int .i64 x.tm]:Array Value)[o_]?)∧(∀o_,V.cell? ⟨mB,o_,none⟩=(#[.int .i64 nd,.int .i64 fr,.int .i64 tt,.int .i64 tm,.int .i64 hp.1,.int .i64 hp.2.1,.int .i64 hp.2.2.1,.int .i64 hp.2.2.2]:Array Value)[o_]?)) [1,0,1,2,3,3] [0,1,2,3,4,5] (by kernel_rfl) (by kernel_rfl) ?_ ?_
    ·exact⟨cx,c3⟩
    (iterate 3 (refine dP rfl (by decide) (by rfl) (fun w1=>by rfl) (fun w1 hS=>by(try(have hS:=hS rfl;obtain hS:=hS;repeat (obtain⟨_,hS⟩:=hS)));go_simp;rfl) ?_;simp only[Act.put,ae,af,ag]))
    (refine gm rfl rfl (by rfl) (fun K hK=>?_);go_simp)
    obtain⟨w7,hw7⟩:=cR ((put4 w6 (s0+1) (.int .i64 x.nd) (.int .i64 x.fr) (.int .i64 x.tt) (.int .i64 x.tm)).drew)
    have hw7':=hw7;unfold put4 at hw7';rw[hw7'];have hne7:∀q,q≠s0+1→w7.heap[q]? =w6.heap[q]?:=fun q hq=>by rw[←hw7];exact fJ w6 (s0+1) _ _ _ _ hq
    have hX7:w7.heap[s0+1]? =some (.cells #[.int .i64 x.nd,.int .i64 x.fr,.int .i64 x.tt,.int .i64 x.tm] 153 (0,0)):=by rw[←hw7];exact iU HRR.out.1
    have hK7:KpB w5.heap.size [s0+1,s0+1+1,s0+1+1+1] w6 w7:=by rw[←hw7];exact(iV w6 (s0+1) _ _ _ _ (by simp)).trans (KpB.of (bdrew (ap _ _)) (by rw[gV];omega))
    have hz7:w7.heap.size=w6.heap.size:=by rw[←hw7];exact gV w6 (s0+1) _ _ _ _
    have H7:=aa (cS hne7 (cS hX7 hK7));have c3':=fun q=>(aU (a:=⟨mB,q,none⟩) (hne7 mB (by omega))).trans (c3 q)
    have cx':=fun q=>(aU (a:=⟨xB,q,none⟩) (hne7 xB (by omega))).trans (cx q)
    have r2:=fun q=>cU ((hne7 (s0+1+1) (by omega)).trans HRR.out.2.1) q
    have g2:=fun q=>dC ((hne7 (s0+1+1) (by omega)).trans HRR.out.2.1) q
    have r3:=fun q=>cU ((hne7 (s0+1+1+1) (by omega)).trans HRR.out.2.2) q
    have g3:=fun q=>dC ((hne7 (s0+1+1+1) (by omega)).trans HRR.out.2.2) q
    clear hw7 hw7' hne7 hX7 hK7 r1 g1 c3 cx;refine hK _ _ ⟨cx',c3'⟩ ?_
    clear hK K c3' cx'
    (try simp only[Act.put,ae,af,ag])
    (refine fi rfl rfl (by rfl) (fun K hK=>?_);go_simp)
    obtain⟨w8,hw8⟩:=cR (put4 w7 (s0+1+1) (.int .i64 hp.1) (.int .i64 hp.2.1) (.int .i64 hp.2.2.1) (.int .i64 hp.2.2.2))
    have hw8':=hw8;unfold put4 at hw8';rw[hw8'];have hne8:∀q,q≠s0+1+1→w8.heap[q]? =w7.heap[q]?:=fun q hq=>by rw[←hw8];exact fJ w7 (s0+1+1) _ _ _ _ hq
    have hX8:w8.heap[s0+1+1]? =some (.cells #[.int .i64 hp.1,.int .i64 hp.2.1,.int .i64 hp.2.2.1,.int .i64 hp.2.2.2] 68 (0,0)):=by rw[←hw8];exact iU ((H7.out.1 _ (by omega)).trans HRR.out.2.1)
    have hK8:KpB w5.heap.size [s0+1,s0+1+1,s0+1+1+1] w7 w8:=by rw[←hw8];exact iV w7 (s0+1+1) _ _ _ _ (by simp)
    have hz8:w8.heap.size=w7.heap.size:=by rw[←hw8];exact gV w7 (s0+1+1) _ _ _ _
    have H8:=aa (cS hne8 (cS hX8 hK8));have R38:=(hne8 (s0+1+1+1) (by omega)).trans ((H7.out.1 (s0+1+1+1) (by omega)).trans HRR.out.2.2);have r3:=fun q=>cU R38 q
    have g3:=fun q=>dC R38 q
    have HR38:=aa R38;clear hw8 hw8' hne8 hX8 hK8 r2 g2 R38
    (refine hK _ _ ?_;clear hK K;(try simp only[Act.put,ae,af,ag]))
    (refine fi rfl rfl (by rfl) (fun K hK=>?_);go_simp)
    obtain⟨w9,hw9⟩:=cR (w8.setCell ⟨s0+1+1+1,0,none⟩ (.bool true))
    rw[hw9];have hne9:∀q,q≠s0+1+1+1→w9.heap[q]? =w8.heap[q]?:=fun q hq=>by rw[←hw9];exact heap_setCell_other w8 ⟨s0+1+1+1,0,none⟩ q _ hq
    have hX9:w9.heap[s0+1+1+1]? =some (.cells #[.bool true] 4 (0,0)):=by rw[←hw9];exact eD HR38.out 0 (.bool true)
    have hK9:KpB w5.heap.size [s0+1,s0+1+1,s0+1+1+1] w8 w9:=by rw[←hw9];exact KpB.set w8 _ (by simp)
    have hz9:w9.heap.size=w8.heap.size:=by rw[←hw9];simp
    have H9:=aa (cS hne9 (cS hX9 hK9));clear hw9 hne9 hX9 hK9 r3 g3
    (refine hK _ _ ?_;clear hK K;(try simp only[Act.put,ae,af,ag]))
    refine ev ?_
    gi_wp2
    have hK6:KpB w5.heap.size [s0+1,s0+1+1,s0+1+1+1] w5 w6:=(KpB.of HNB.out.2 (aj _)).trans (KpB.of HB6.out zW);refine⟨⟨by omega,fun q_ o_ _ hq_ hc_=>?_⟩,rfl,⟨(⟨nd,fr,tt,tm⟩,hp),hmem,HMT.out,?_,?_,H9.out.2.1⟩,((hK6.trans H7.out.2.2).trans H8.out.2.2).trans H9.out.2.2⟩
    ·have hql:=(ai.1 hq_).1
     have hX1:=(HNB.out.2.block (s0+1) (by omega)).trans ((HB5.out.block _ (by omega)).trans HX.out.2.1);have hX2:=(HNB.out.2.block (s0+1+1) (by omega)).trans ((HB5.out.block _ (by omega)).trans HX.out.2.2.1);have hX3:=(HNB.out.2.block (s0+1+1+1) (by omega)).trans ((HB5.out.block _ (by omega)).trans HX.out.2.2.2.1);refine(H9.out.1 q_ (fun e=>?_)).trans ((H8.out.1 q_ (fun e=>?_)).trans ((H7.out.1 q_ (fun e=>?_)).trans ((HB6.out.block q_ hql).trans hq_)))
     ·subst e;rw[hX3]at hq_;cases hq_;cases hc_
     ·subst e;rw[hX2]at hq_;cases hq_;cases hc_
     ·subst e;rw[hX1]at hq_;cases hq_;cases hc_
    ·exact(H9.out.1 _ (by omega)).trans ((H8.out.1 _ (by omega)).trans H7.out.2.1)
    ·exact(H9.out.1 _ (by omega)).trans H8.out.2.1
  case done=>
   rintro D ys W hD hys ⟨hn,hbw⟩ hK';have HNM2:Hid (noM g z (O.take (k+1))):=aa (fun y hy m hm=>by
    rw[el HX_.out]at hy;rcases aA.1 hy with hy | hy
    ·exact HNM.out y hy m hm
    ·rw[aH.1 hy]at hm
     exact hn m (by rw[hys];exact hm))
   have hm:MarkOK w2.heap.size W (mark D::ds):=by
    obtain⟨Ds,rfl,hnd,hds⟩:=HM5.out;have hold:∀D'∈Ds,D'<w5.heap.size:=fun D' hD'=>(ai.1 (hds D' hD').2).1
    refine⟨D::Ds,rfl,cL.2 ⟨fun hm=>?_,hnd⟩,fun D' hD'=>?_⟩
    ·have:=hold D hm;omega
    ·rcases aG.1 hD' with rfl | hD'
     ·exact⟨by omega,hK'⟩
     ·have h1:=hds D' hD'
      exact⟨h1.1,(hbw.block D' (hold D' hD')).trans h1.2⟩
   have HMN:=aa hm;have HBN:Hid (Below w2.heap.size w2 W):=aa (HB5.out.trans (hbw.mono zz5));clear hn hbw hm hys hK';go_wp2
   refine⟨⟨k+1,mark D::ds,_,_,_,_,_,_,_,_,rfl,by omega,HNM2,HBN,HMN⟩,?_⟩
   simp[intOf];omega
  case stop=>
   rintro D c' pre W hD-⟨rfl,⟨m,hm1,hm2,hx1,hx2,hx3⟩,hkp⟩ hK';have hKP:=aa hkp;have HR:=aa (cS hm1 (cS hm2 (cS hx1 (cS hx2 hx3))));obtain⟨Ds,rfl,hnd,hds⟩:=HM5.out;have hold:∀D'∈Ds,D'<w5.heap.size:=fun D' hD'=>(ai.1 (hds D' hD').2).1
   have hnd2:(D::Ds).Nodup:=cL.2 ⟨fun hm=>by have:=hold D hm;omega,hnd⟩;have hds2:∀D'∈D::Ds,w2.heap.size≤D'∧W.heap[D']? =some (.deferred (some [])):=fun D' hD'=>by
    rcases aG.1 hD' with rfl | hD'
    ·exact⟨by omega,hK'⟩
    ·have h1:=hds D' hD'
     exact⟨h1.1,(hkp.block D' (hold D' hD') (by simp;omega)).trans h1.2⟩
   have HDD:=aa (cS hnd2 hds2);have zW:=hkp.size;clear hkp hm1 hm2 hx1 hx2 hx3 hnd hds hold hnd2 hds2 hK';gi_wp2
   refine fG (D::Ds) W W HDD.out.1 HDD.out.2 ⟨rfl,rfl,rfl,aj _,fun q _=>⟨fun _ _ _ _=>rfl,fun _=>rfl⟩⟩ (fun w' hp=>?_)
   obtain⟨hm1,hm2,hx1,hx2,hx3⟩:=HR.out;have hlt1:∀{q:Nat} {o:Obj},W.heap[q]? =some o→q<W.heap.size:=fun h=>(ai.1 h).1
   have y1:=((hp.2.2.2.2 _ (hlt1 hx1)).1 _ _ _ hx1).trans hx1;have y2:=((hp.2.2.2.2 _ (hlt1 hx2)).1 _ _ _ hx2).trans hx2;have y3:=((hp.2.2.2.2 _ (hlt1 hx3)).1 _ _ _ hx3).trans hx3;have c1:=fun q=>cU y1 q
   have c2:=fun q=>cU y2 q
   have c3:=fun q=>cU y3 q
   have t1:s0+1<w'.heap.size:=(ai.1 y1).1;have t2:s0+1+1<w'.heap.size:=(ai.1 y2).1;have t3:s0+1+1+1<w'.heap.size:=(ai.1 y3).1;refine⟨.tuple #[.agg #[.int .i64 x.nd,.int .i64 x.fr,.int .i64 x.tt,.int .i64 x.tm],.agg #[.int .i64 m.2.1,.int .i64 m.2.2.1,.int .i64 m.2.2.2.1,.int .i64 m.2.2.2.2],.bool true],by simp[results,Tryz.results79,go_sem,c1,c2,c3,t1,t2,t3],?_⟩
   unfold BfPost;refine⟨.inl ⟨x,az HX_.out,m,hm1,hm2,rfl⟩,?_⟩
   rw[HS0.out];have hbW:Below s0 w W:=(HB2.out.trans (HB5.out.mono (by omega))).trans (hKP.out.below (by omega) (fun q hq=>by simp at hq;omega));exact hbW.trans ⟨hp.1,hp.2.1,hp.2.2.1,hp.2.2.2.1,fun q hq=>(hp.2.2.2.2 q (by omega)).2 (by omega)⟩
 ·obtain rfl:k=O.length:=by omega
  have HNO:Hid (∀x∈O,∀m∈movesL g x,¬matB z m):=aa (by have:=HNM.out;rwa [aL]at this);obtain⟨Ds,rfl,hnd,hds⟩:=HM.out;have HD:=aa (cS hnd hds);have R1:=(HBR.out.block (s0+1) (by omega)).trans HX.out.2.1;have R2:=(HBR.out.block (s0+1+1) (by omega)).trans HX.out.2.2.1;have R3:=(HBR.out.block (s0+1+1+1) (by omega)).trans HX.out.2.2.2.1;have HRR:=aa (cS R1 (cS R2 R3));have r1:=fun q=>cU R1 q
  have g1:=fun q=>dC R1 q
  have r2:=fun q=>cU R2 q
  have g2:=fun q=>dC R2 q
  have r3:=fun q=>cU R3 q
  have g3:=fun q=>dC R3 q
  have s1':s0+1<wr.heap.size:=by omega
  have s2':s0+1+1<wr.heap.size:=by omega
  have s3':s0+1+1+1<wr.heap.size:=by omega
  clear hnd hds R1 R2 R3;go_wp2
  obtain⟨wF,hwF⟩:=cR ((put4 (put4 wr (s0+1) (.int .i64 0) (.int .i64 0) (.int .i64 0) (.int .i64 0)) (s0+1+1) (.int .i64 0) (.int .i64 0) (.int .i64 0) (.int .i64 0)).setCell ⟨s0+1+1+1,0,none⟩ (.bool false))
  have hwF':=hwF;unfold put4 at hwF';rw[hwF'];have hneF:∀q,q≠s0+1→q≠s0+1+1→q≠s0+1+1+1→wF.heap[q]? =wr.heap[q]?:=fun q h1 h2 h3=>by
   rw[←hwF];exact(heap_setCell_other _ ⟨s0+1+1+1,0,none⟩ q _ h3).trans ((fJ _ (s0+1+1) _ _ _ _ h2).trans (fJ wr (s0+1) _ _ _ _ h1))
  have hx1:wF.heap[s0+1]? =some (.cells #[.int .i64 0,.int .i64 0,.int .i64 0,.int .i64 0] 153 (0,0)):=by
   rw[←hwF];exact(heap_setCell_other _ ⟨s0+1+1+1,0,none⟩ (s0+1) _ (by show s0+1≠s0+1+1+1;omega)).trans ((fJ _ (s0+1+1) _ _ _ _ (by omega)).trans (iU HRR.out.1))
  have hx2:wF.heap[s0+1+1]? =some (.cells #[.int .i64 0,.int .i64 0,.int .i64 0,.int .i64 0] 68 (0,0)):=by
   rw[←hwF];exact(heap_setCell_other _ ⟨s0+1+1+1,0,none⟩ (s0+1+1) _ (by show s0+1+1≠s0+1+1+1;omega)).trans (iU ((fJ wr (s0+1) _ _ _ _ (by omega)).trans HRR.out.2.1))
  have hx3:wF.heap[s0+1+1+1]? =some (.cells #[.bool false] 4 (0,0)):=by
   rw[←hwF];exact eD (cs:=#[.bool false]) ((fJ _ (s0+1+1) _ _ _ _ (by omega)).trans ((fJ wr (s0+1) _ _ _ _ (by omega)).trans HRR.out.2.2)) 0 (.bool false)
  have hKF:KpB w2.heap.size [s0+1,s0+1+1,s0+1+1+1] wr wF:=by
   rw[←hwF];exact((iV wr (s0+1) _ _ _ _ (by simp)).trans (iV _ (s0+1+1) _ _ _ _ (by simp))).trans (KpB.set _ _ (by simp))
  clear hwF hwF' r1 g1 r2 g2 r3 g3;refine fG (B:=w2.heap.size) Ds wF wF HD.out.1 (fun D' hD'=>?_) ⟨rfl,rfl,rfl,aj _,fun q _=>⟨fun _ _ _ _=>rfl,fun _=>rfl⟩⟩ (fun w' hp=>?_)
  ·have h5:=HD.out.2 D' hD'
   exact⟨h5.1,(hneF D' (by have:=h5.1;omega) (by have:=h5.1;omega) (by have:=h5.1;omega)).trans h5.2⟩
  have hlt1:∀{q:Nat} {o:Obj},wF.heap[q]? =some o→q<wF.heap.size:=fun h=>(ai.1 h).1
  have y1:=((hp.2.2.2.2 _ (hlt1 hx1)).1 _ _ _ hx1).trans hx1;have y2:=((hp.2.2.2.2 _ (hlt1 hx2)).1 _ _ _ hx2).trans hx2;have y3:=((hp.2.2.2.2 _ (hlt1 hx3)).1 _ _ _ hx3).trans hx3;have c1:=fun q=>cU y1 q
  have c2:=fun q=>cU y2 q
  have c3:=fun q=>cU y3 q
  have t1:s0+1<w'.heap.size:=(ai.1 y1).1;have t2:s0+1+1<w'.heap.size:=(ai.1 y2).1;have t3:s0+1+1+1<w'.heap.size:=(ai.1 y3).1;refine⟨.tuple #[.agg #[.int .i64 0,.int .i64 0,.int .i64 0,.int .i64 0],.agg #[.int .i64 0,.int .i64 0,.int .i64 0,.int .i64 0],.bool false],by simp[results,Tryz.results79,go_sem,c1,c2,c3,t1,t2,t3],?_⟩
  unfold BfPost;refine⟨.inr ⟨HNO.out,_,_,rfl⟩,?_⟩
  rw[HS0.out];have hbW:Below s0 w wF:=(HB2.out.trans (HBR.out.mono (by omega))).trans (hKF.below (by omega) (fun q hq=>by simp at hq;omega));have hzF:=hKF.size;exact hbW.trans ⟨hp.1,hp.2.1,hp.2.2.1,hp.2.2.2.1,fun q hq=>(hp.2.2.2.2 q (by omega)).2 (by omega)⟩
end
section
namespace Iv
def DJ:Int→List Sp→Prop
 | _,[]=>True
 | b,x::r=>b≤x.1∧x.1<x.2∧DJ x.2 r
theorem DJ.lo {b:Int} {l:List Sp} (h:DJ b l):∀x∈l,b≤x.1∧x.1<x.2:=by
 induction l generalizing b with
 | nil=>intro x hx;cases hx
 | cons y r ih=>
  intro x hx;obtain⟨h1,h2,h3⟩:=h;rcases aG.1 hx with rfl | hx
  ·exact⟨h1,h2⟩
  ·have:=ih h3 x hx
   omega
theorem DJ.out {b t:Int} {l:List Sp} (h:DJ b l) (ht:t<b):inS l t=false:=by
 rw[Bool.eq_false_iff];intro hc;obtain⟨x,hx,h1,h2⟩:=io.1 hc;have:=h.lo x hx;omega
theorem kD (m:Int):∀(l:List Sp) (f:Int),DJ f l→(∀x∈l,x.2≤m)→∀t,inS (outs m f l) t=(decide (f≤t)&&decide (t<m)&& !inS l t)
 | [],f,_,_,t=>by
  unfold outs;by_cases h:f<m
  ·rw[if_pos h];simp[dM,eP]
  ·rw[if_neg h,eP]
   symm
   rw[Bool.eq_false_iff];simp[eP]
   omega
 | x::r,f,h,hm,t=>by
  obtain⟨h1,h2,h3⟩:=h;have hxm:=hm x (by simp);have ih:=kD m r x.2 h3 (fun y hy=>hm y (by simp[hy])) t;have ho:=fun(ht:t<x.2)=>h3.out ht
  unfold outs;by_cases hh:f<x.1
  ·rw[if_pos hh,dM,ih,dM]
   rcases Int.lt_or_le t x.2 with z | z
   ·rw[ho z]
    rw[Bool.eq_iff_iff];simp;omega
   ·cases inS r t<;>rw[Bool.eq_iff_iff]<;>simp<;>omega
  ·rw[if_neg hh,ih,dM]
   rcases Int.lt_or_le t x.2 with z | z
   ·rw[ho z]
    rw[Bool.eq_iff_iff];simp;omega
   ·cases inS r t<;>rw[Bool.eq_iff_iff]<;>simp<;>omega
theorem kE (m:Int):∀(l:List Sp) (f:Int),DJ f l→NF (f-1) (outs m f l)
 | [],f,_=>by
  unfold outs;by_cases h:f<m
  ·rw[if_pos h];exact⟨by simp only;omega,h,trivial⟩
  ·rw[if_neg h];trivial
 | x::r,f,h=>by
  obtain⟨h1,h2,h3⟩:=h;have ih:NF (x.2-1) (outs m x.2 r):=kE m r x.2 h3;unfold outs;by_cases hh:f<x.1
  ·rw[if_pos hh]
   exact⟨by simp only;omega,hh,ih.le (by simp only;omega)⟩
  ·rw[if_neg hh]
   exact ih.le (by omega)
def nrmG:Sp→List Sp→List Sp
 | x,[]=>[x]
 | x,y::r=>if y.1≤x.2 then nrmG (x.1,max x.2 y.2) r else x::nrmG y r
def nrm:List Sp→List Sp
 | []=>[]
 | x::r=>nrmG x r
def lenS (l:List Sp):Int:=(l.map fun x=>x.2-x.1).sum
theorem jn:∀(r:List Sp) (x:Sp) (b:Int),b<x.1→x.1<x.2→DJ x.2 r→NF b (nrmG x r)∧(∀t,inS (nrmG x r) t=inS (x::r) t)∧lenS (nrmG x r)=lenS (x::r)
 | [],x,b,h1,h2,_=>⟨⟨h1,h2,trivial⟩,fun t=>rfl,rfl⟩
 | y::r,x,b,h1,h2,h3=>by
  obtain⟨k1,k2,k3⟩:=h3;unfold nrmG;by_cases h:y.1≤x.2
  ·rw[if_pos h]
   have e:max x.2 y.2=y.2:=by omega
   rw[e];obtain⟨i1,i2,i3⟩:=jn r (x.1,y.2) b h1 (by simp only;omega) k3;refine⟨i1,fun t=>?_,?_⟩
   ·rw[i2 t,dM,dM,dM]
    cases inS r t<;>rw[Bool.eq_iff_iff]<;>simp<;>omega
   ·rw[i3]
    simp only[lenS,List.map_cons,List.sum_cons];omega
  ·rw[if_neg h]
   obtain⟨i1,i2,i3⟩:=jn r y x.2 (by omega) k2 k3;refine⟨⟨h1,h2,i1⟩,fun t=>?_,?_⟩
   ·rw[dM,i2 t,dM x]
   ·simp only[lenS,List.map_cons,List.sum_cons]at i3 ⊢
    omega
theorem np {l:List Sp} {b:Int} (h:DJ b l):NF (b-1) (nrm l)∧(∀t,inS (nrm l) t=inS l t)∧lenS (nrm l)=lenS l:=by
 cases l with
 | nil=>exact⟨trivial,fun t=>rfl,rfl⟩
 | cons x r=>exact jn r x (b-1) (by have:=h.1;omega) h.2.1 h.2.2
theorem nr {l:List Sp} {s e:Int} (hse:s<e) (h:DJ s l) (he:∀x∈l,x.2≤e):
  cmb (fun p q=>p&&q) (outs e s l) (nrm l)=[]∧cmb (fun p q=>p || q) (outs e s l) (nrm l)=[(s,e)]∧lenS (nrm l)=lenS l:=by
 obtain⟨n1,n2,n3⟩:=np h;have o1:=kE e l s h;have o2:=kD e l s h he;obtain⟨_,a1,a2⟩:=mm (fun p q=>p&&q) rfl (outs e s l) (nrm l) (s-1) o1 n1;obtain⟨_,b1,b2⟩:=mm (fun p q=>p || q) rfl (outs e s l) (nrm l) (s-1) o1 n1;refine⟨a1.uniq (c:=s-1) trivial fun t=>?_,b1.uniq (c:=s-1) ⟨by simp only;omega,hse,trivial⟩ fun t=>?_,n3⟩
 ·rw[a2,o2,n2,eP]
  cases inS l t<;>simp
 ·rw[b2,o2,n2,dM,eP]
  cases hb:inS l t with
  | false=>simp
  | true=>
   obtain⟨x,hx,h1,h2⟩:=io.1 hb;have:=h.lo x hx;have:=he x hx;simp
   omega
end Iv
end
section
open Go Go.RowKit Iv
attribute [local go_sem] Oper.semAt_some
attribute [local go_sem] pw gu B_app pv B_get B_toList
theorem dj_of:∀{l:List Bkg} {i s:Int},l.Pairwise RB→(∀x∈l,x.ct=i)→(∀x∈l,s≤x.bg∧x.bg<x.en)→DJ s (l.map fun b=>(b.bg,b.en))
 | [],_,_,_,_,_=>trivial
 | x::r,i,s,hp,h1,h2=>by
  obtain⟨p1,p2⟩:=aM.1 hp;have hx:=h2 x (by simp);refine⟨hx.1,hx.2,dj_of (i:=i) p2 (fun y hy=>h1 y (by simp[hy])) (fun y hy=>?_)⟩
  have:=p1 y hy;have a:=h1 x (by simp);have b:=h1 y (by simp[hy]);have c:=h2 y (by simp[hy]);unfold RB at this;refine⟨?_,c.2⟩
  show x.en≤y.bg
  omega
theorem o9:∀{l:List Sp} {b:Int},DJ b l→l.Pairwise (fun x y=>x.1<y.1)
 | [],_,_=>List.Pairwise.nil
 | x::r,b,h=>by
  obtain⟨h1,h2,h3⟩:=h;refine List.Pairwise.cons (fun y hy=>?_) (o9 h3)
  have:=h3.lo y hy;omega
theorem kF:∀(r:List Sp) (x:Sp),(nrmG x r).length≤r.length+1
 | [],x=>by simp[nrmG]
 | y::r,x=>by
  unfold nrmG;split
  ·have:=kF r (x.1,max x.2 y.2)
   simp only[aI];omega
  ·have:=kF r y
   simp only[aI];omega
theorem nrm_len (l:List Sp):(nrm l).length≤l.length:=by
 cases l with
 | nil=>exact aj _
 | cons x r=>exact kF r x
theorem kG (m:Int):∀(l:List Sp) (f:Int),(outs m f l).length≤l.length+1
 | [],f=>by unfold outs;split<;>simp
 | x::r,f=>by
  have:=kG m r x.2;unfold outs;split
  ·simp only[aI];omega
  ·simp only[aI];omega
theorem chk_in {l:List Sp} {b s e:Int} (hl:l.length≤1000) (h:NF b l) (hb: -1≤b) (hi:∀t,inS l t=true→s≤t∧t<e) (he:e≤1099511627776):chkSp l=0:=by
 refine chkSp_of hl (h.le (by omega)) fun x hx=>?_
 have h1:=h.lo x hx;have h2:=hi (x.2-1) (io.2 ⟨x,hx,by omega,by omega⟩);omega
structure FbFacts (c:Con) (M:List Sp):Prop where
 dj:DJ c.st M
 bnd:∀x∈M,0≤x.1∧x.1<x.2∧x.2≤1099511627776
 pair:M.Pairwise (fun x y=>x.1<y.1)
 val:M.any (fun x=> !vSp x)=false
 co:chkSp (outs c.en c.st M)=0
 cn:chkSp (nrm M)=0
 land:combS (fun p q=>p&&q) (outs c.en c.st M) (nrm M)=([],0)
 lor:combS (fun p q=>p || q) (outs c.en c.st M) (nrm M)=([(c.st,c.en)],0)
 tot:totS (nrm M)=totS M
theorem kH {qs:List Int} {cs:List Con} {l:List Bkg} {n:Nat} {c:Con} (hp:PlanOK qs cs) (hb:BkOK cs l) (hn:cs[n]? =some c):FbFacts c (busyS l n):=by
 obtain⟨c1,c2,c3⟩:=hp.con hn;have hv:∀x∈l,x.ct=(n:Int)→c.st≤x.bg∧x.bg<x.en∧x.en≤c.en:=fun x hx hc=>(hb.2.1 x hx).2.2 c (by rw[hc];simpa using hn)
 have hlt:∀x∈l,x.bg<x.en:=fun x hx=>by
  obtain⟨⟨v1,v2⟩,_,v3⟩:=hb.2.1 x hx;have hlt:x.ct.toNat<cs.length:=by omega
  exact(v3 _ (am hlt)).2.1
 have hpw:=oL hlt (fun k a b ha hb'=>(hb.2.2 k a b ha hb').rb);have hmem:∀x∈l.filter (fun b=>b.ct==(n:Int)),x∈l∧x.ct=n:=fun x hx=>by
  have:=bG.1 hx;exact⟨this.1,by simpa using this.2⟩
 have hdj:DJ c.st (busyS l n):=dj_of (i:=n) (hpw.filter _) (fun x hx=>(hmem x hx).2) (fun x hx=>by have:=hv x (hmem x hx).1 (hmem x hx).2;omega);have hbd:∀x∈busyS l n,c.st≤x.1∧x.1<x.2∧x.2≤c.en:=fun x hx=>by
  obtain⟨b,hb1,rfl⟩:=bu.1 hx;exact hv b (hmem b hb1).1 (hmem b hb1).2
 have hml:(busyS l n).length≤512:=aK (gL _ _) hb.1;generalize busyS l n=M at hdj hbd hml
 obtain⟨f1,f2,f3⟩:=nr c2 hdj (fun x hx=>(hbd x hx).2.2);obtain⟨n1,n2,n3⟩:=np hdj;have o1:=kE c.en M c.st hdj;have o2:=kD c.en M c.st hdj (fun x hx=>(hbd x hx).2.2);have hco:chkSp (outs c.en c.st M)=0:=chk_in (s:=c.st) (e:=c.en) (by have:=kG c.en M c.st;omega) o1 (by omega) (fun t ht=>by
  rw[o2]at ht;simp at ht
  omega) c3
 have hcn:chkSp (nrm M)=0:=chk_in (s:=c.st) (e:=c.en) (by have:=nrm_len M;omega) n1 (by omega) (fun t ht=>by
  rw[n2]at ht;obtain⟨x,hx,h1,h2⟩:=io.1 ht;have:=hbd x hx;omega) c3
 refine⟨hdj,fun x hx=>by have:=hbd x hx;omega,o9 hdj,?_,hco,hcn,?_,?_,f3⟩
 ·rw[cM]
  intro x hx;have:=hbd x hx;have hvs:vSp x=true:=by unfold vSp;simp;omega
  simp[hvs]
 ·unfold combS
  rw[if_neg (by simp[hco,hcn]),f1];rfl
 ·unfold combS
  rw[if_neg (by simp[hco,hcn]),f2];rfl
end
section
open Go Go.RowKit Iv
attribute [local go_sem] Oper.semAt_some
attribute [local go_sem] pw gu B_app pv B_get B_toList
def SpsRet (r:List Sp) (w:World) (e:Ending) (w':World):Prop:=∃u,e= .returned u∧RSps w' w'.heap.size u r∧RFrom w.heap.size u∧Below w.heap.size w w'
theorem nt (l:List Bkg) (i:Int) (ub:Value) (w:World) (hl:RRow bkgC 4 w w.heap.size ub l) (h5:l.length≤512):
  Calls Tryz.prog 30 #[ub,.int .i64 i] w (SpsRet (busyS l i) w):=by
 obtain⟨al,cl,rfl,l1,l2,l3,l4⟩:=hl;unfold maxLen at l2;have hll:l.length≤9223372036854775807:=by omega
 have HL:=aa l4;clear l3 l4;obtain⟨i0,hin,hz0,hz1,hz2⟩:=info_parts kj;go_enter Tryz.func30,Tryz.ntmps30
 go_wp2
 go_loopw [5,10] (fun ov iv wr=>∃k:Nat,k≤l.length∧iv= .int .i64 k∧Hid (wr.ownsRow w.heap.size 86 2 ov (busyS (l.take k) i).length (sps (busyS (l.take k) i)))∧Below w.heap.size w wr) (fun _ iv _=>l.length-(intOf iv).toNat)
 case atStart=>exact⟨0,aE _,rfl,aa (aX _ _ _ _),ap _ _⟩
 case round=>
  obtain⟨k,hk,rfl,HO,hB⟩:=hrel;obtain⟨P,hP⟩:=cR (busyS (l.take k) i)
  rw[hP]at HO;have HP:=aa hP;have hPl:P.length≤512:=by
   rw[←hP];refine aK (gL _ _) ?_
   rw[aS];omega
  clear hP;obtain⟨va,vc,rfl⟩:=dg HO.out;by_cases hlt:k<l.length
  ·obtain⟨bb,o,rfl,hbn,hcell⟩:=HL.out (by omega)
   obtain⟨x,hx⟩:∃x,l[k]? =some x:=⟨_,am hlt⟩
   have q0:wr.cell? ⟨bb,o+k*4,none⟩=some (.int .i64 x.ct):=(hB.cell (p:=⟨bb,o+k*4+0,none⟩) hbn).trans (hcell k x hx 0 _ rfl);have q1:wr.cell? ⟨bb,o+k*4+1,none⟩=some (.int .i64 x.bg):=(hB.cell (p:=⟨bb,o+k*4+1,none⟩) hbn).trans (hcell k x hx 1 _ rfl);have q2:wr.cell? ⟨bb,o+k*4+2,none⟩=some (.int .i64 x.en):=(hB.cell (p:=⟨bb,o+k*4+2,none⟩) hbn).trans (hcell k x hx 2 _ rfl);have q3:wr.cell? ⟨bb,o+k*4+3,none⟩=some (.int .i64 x.tk):=(hB.cell (p:=⟨bb,o+k*4+3,none⟩) hbn).trans (hcell k x hx 3 _ rfl);have k0:(0:Int)≤(k:Int):=by omega
   have k1:(k:Int)<(l.length:Int):=by omega
   have HX:=aa hx;clear hx hcell;by_cases z:x.ct=i
   ·have f1:(x.ct==i)=true:=by rw[beq_iff_eq];exact z
    have HN:Hid (busyS (l.take (k+1)) i=P++[(x.bg,x.en)]):=aa (by rw[jT i HX.out,if_pos z,HP.out]);clear z;go_upto_region 6 with fail
    obtain⟨w5,hw5⟩:=cR (wr.alloc (.cells #[.int .i64 x.ct,.int .i64 x.bg,.int .i64 x.en,.int .i64 x.tk] 53))
    rw[hw5];have hB5:Below w.heap.size w w5:=by rw[←hw5];exact de hB
    have GX:w5.heap[wr.heap.size]? =some (.cells #[.int .i64 x.ct,.int .i64 x.bg,.int .i64 x.en,.int .i64 x.tk] 53 (0,0)):=by rw[←hw5];exact cW
    have HO5:Hid (w5.ownsRow w.heap.size 86 2 (.slice va P.length vc) P.length (sps P)):=aa (by rw[←hw5];exact cV HO.out (fun q hq=>ak _ _ _ (HO.out.lt q hq).2));have hz5:wr.heap.size<w5.heap.size:=by rw[←hw5];simp
    have hzw:w.heap.size≤w5.heap.size:=hB5.size;clear hw5 HO;have cx:=fun o=>cU GX o
    go_wp2_with (at_builtin;refine dK _ rfl _ _ _ rfl w.heap.size 86 i0 _ 2 16 Tryz.underlying84 hin hz0 hz1 hz2 rfl (by omega) (.slice va P.length vc) P.length (sps P) rfl (cV HO5.out (fun q hq=>ak _ _ _ (HO5.out.lt q hq).2)) ⟨w5.heap.size,0,none⟩ 1 1 (spC (x.bg,x.en)) rfl rfl (dI cW) (by simp[spC,Value.oneCell']) (by simp only[maxLen];omega) (by omega) (by simp;omega) (by omega) ?_;intro vo w9 ho9 hg9 hf9)
    have HO9:Hid (w9.ownsRow w.heap.size 86 2 vo (busyS (l.take (k+1)) i).length (sps (busyS (l.take (k+1)) i))):=aa (by
     rw[HN.out,ay,gn];simpa [sps]using ho9)
    have hB9:Below w.heap.size w w9:=Below.grown (by exact cZ) hg9 (by simp;omega) (fun q hq=>(HO5.out.lt q hq).1);clear ho9 hg9 hf9 cx;go_wp2
    go_roundw
    case rel=>exact⟨k+1,by omega,by go_num,HO9,hB9⟩
    case measure=>simp[intOf];omega
   ·have f1:(x.ct==i)=false:=by rw[beq_eq_false_iff_ne];exact z
    have HN:Hid (busyS (l.take (k+1)) i=P):=aa (by rw[jT i HX.out,if_neg z,HP.out]);clear z;go_wp2
    go_roundw
    case rel=>exact⟨k+1,by omega,by go_num,aa (by rw[HN.out];exact cV HO.out (fun q hq=>ak _ _ _ (HO.out.lt q hq).2)),cZ⟩
    case measure=>simp[intOf];omega
  ·obtain rfl:k=l.length:=by omega
   have HN:Hid (P=busyS l i):=aa (by rw[←HP.out,aL]);go_wp2
   go_ret
   exact⟨_,rfl,by rw[←HN.out];exact RSps.of_own HO.out,gx HO.out,hB⟩
theorem ox (qs:List Int) (cs:List Con) (l:List Bkg) (n:Nat) (uq uc ub:Value) (w:World) (hq:RRow intC 1 w w.heap.size uq qs) (hc:RRow conC 7 w w.heap.size uc cs) (hl:RRow bkgC 4 w w.heap.size ub l)
  (hp:PlanOK qs cs) (hb:BkOK cs l) (hn:n<cs.length):
  Calls Tryz.prog 154 #[.agg #[uq,uc],ub,.int .i64 n] w fun e w'=>e= .returned (.int .i64 0)∧Below w.heap.size w w':=by
 have HQ:=aa hq;have HC:=aa hc;have HL:=aa hl;have HOK:=aa (cS hp hb);obtain⟨aq,cq,rfl,-⟩:=hq;obtain⟨ac,cc,rfl,c1,c2,-⟩:=hc;obtain⟨al,cl,rfl,-⟩:=hl;have n0:(0:Int)≤(n:Int):=by omega
 have d1:decide ((n:Int)<0)=false:=decide_eq_false (by omega);have n1:(n:Int)<(cs.length:Int):=by omega
 have d2:decide ((n:Int)≥(cs.length:Int))=false:=decide_eq_false (by omega);unfold maxLen at c2;have hlc:cs.length≤9223372036854775807:=by omega
 clear hp hb;go_enter Tryz.func154,Tryz.ntmps154
 go_wp2_with fail
 refine(iO qs cs l _ _ _ _ (HQ.out.below' cZ) (HC.out.below' cZ) (HL.out.below' cZ)).mono ?_
 unfold BkPost;rintro e w1 ⟨⟨r,rfl,-,hr2⟩,hb1⟩;obtain rfl:=hr2 HOK.out;have hB1:Below w.heap.size w w1:=dq (de (ap _ _)) hb1;have GP:w1.heap[w.heap.size]? =some (.cells #[.slice aq qs.length cq,.slice ac cs.length cc] 25 (0,0)):=(hb1.block _ (by simp)).trans cW;have cp:=fun o=>cU GP o
 clear hr2 hb1;go_wp2
 go_ret
 exact⟨rfl,hB1⟩
end
end Go.Proofs.YtfnciigbbolckaaGreat
