/- Part 19 of the proof about mailboattop.TopOthers. No condition. -/
import Derived.Test.YtfnciigbbolckaaGreatQ00
import Derived.Test.YtfnciigbbolckaaGreatQ13
import Derived.Test.YtfnciigbbolckaaGreatQ16
import Derived.Test.YtfnciigbbolckaaGreatQ18
set_option linter.unusedVariables false
set_option linter.unusedSimpArgs false
set_option maxRecDepth 100000
set_option maxHeartbeats 64000000
namespace Go.Proofs.YtfnciigbbolckaaGreat
open Go Go.RowKit Iv
attribute [local go_sem] Oper.semAt_some
attribute [local go_sem] pw gu B_app pv B_get B_toList
section
open Go.Sort Go.Shelf
theorem ins_h (g cap N:Nat) (d0:Array Hld) (w0:World) (R:RowK hldC 5 w0 g 0 d0) (hN:d0.size=N) (hsz:N<1000000000000) (gf:Nat) (cf:Hld→Hld→Int) (eg:∀args w,(callFunc gf args).run Tryz.prog w= .ok (.enter gf args) w) (hC:CmpLays Tryz.prog gf #[] hldC 5 cf g 0 d0.size w0) (hO:SWO (ltOf cf)) (a b:Nat) (d:Array Hld) (w:World) (hs:d.size=N) (S:SWK hldC 5 w0 g 0 d w) (hab:a≤b) (hb:b≤N):
  Calls Tryz.prog 140 #[.slice (some ⟨g,0,none⟩) N cap,.int .i64 (a:Int),.int .i64 (b:Int),.func (.func gf) #[] #[]] w fun e w'=>e= .returned (.tuple #[])∧∃d':Array Hld,d'.size=N∧SWK hldC 5 w0 g 0 d' w'∧PermIn a b d d'∧SortedIn (ltOf cf) a b d':=by
 have h:=AnyQ.insertionSortCmpFunc_w (P:=Tryz.prog) ({Tryz.laysF06_f57 with}:Go.Proofs.SlLaysF0.n20 Tryz.prog Tryz.laysF06_f57_ren) 5 Tryz.isAgg75 Tryz.sizeOf75 hldC cf gf #[] g 0 cap a b d0 d w0 w eg hC R (by omega) S hO hab (by omega) (by omega);rw[hs]at h;have h2:=insertionSort_holds (lt:=ltOf cf) hO d a b hab (by omega);refine Calls.mono h ?_
 rintro e w' ⟨rfl,h3⟩;exact⟨rfl,_,by rw[h2.1.1,hs],h3,h2.1,h2.2⟩
theorem stab_h (g cap N:Nat) (d0:Array Hld) (w0:World) (R:RowK hldC 5 w0 g 0 d0) (hN:d0.size=N) (hsz:N<1000000000000) (gf:Nat) (cf:Hld→Hld→Int) (eg:∀args w,(callFunc gf args).run Tryz.prog w= .ok (.enter gf args) w) (hC:CmpLays Tryz.prog gf #[] hldC 5 cf g 0 d0.size w0) (hO:SWO (ltOf cf)) (d:Array Hld) (w:World) (hs:d.size=N) (S:SWK hldC 5 w0 g 0 d w):
  Calls Tryz.prog 137 #[.slice (some ⟨g,0,none⟩) N cap,.int .i64 (N:Int),.func (.func gf) #[] #[]] w fun e w'=>e= .returned (.tuple #[])∧∃d':Array Hld,d'.size=N∧SWK hldC 5 w0 g 0 d' w'∧PermIn 0 N d d'∧SortedIn (ltOf cf) 0 N d':=by
 have S0:Aside (SWK hldC 5 w0 g 0 d w):=S;have HD:=aa hs;have HN:=aa hN;have HC:=aa hC;have HO:=aa hO;clear S hs hN hC hO;go_enter Tryz.func137,Tryz.ntmps137
 go_wp2
 as_aux_lemma=>
 go_loopw [7,8] (fun av bv wr=>∃(a:Nat) (dk:Array Hld),a≤N∧av= .int .i64 (a:Int)∧bv= .int .i64 ((a+20:Nat):Int)∧Hid (dk.size=N)∧Aside (SWK hldC 5 w0 g 0 dk wr)∧Hid (PermIn 0 N d dk)∧Hid (Pre (ltOf cf) 20 dk a)) (fun av _ _=>N-(intOf av).toNat)
 case atStart=>exact⟨0,d,aE _,rfl,rfl,HD,S0,aa (permIn_refl d 0 N),aa .zero⟩
 case round=>
  clear S0;obtain⟨a,dk,ha,rfl,rfl,HDK,S1,HPM,HPR⟩:=hrel;obtain⟨b,hb⟩:=cR (a+20)
  rw[hb];by_cases hlt:b≤N
  ·have k1:(b:Int)≤(N:Int):=by omega
   obtain⟨b2,hb2⟩:=cR (b+20)
   have v1:IntKind.i64.wrap ((b:Int)+20)=(b2:Int):=by rw[ax];omega
   go_wp2_with fail
   refine(ins_h g cap N d0 w0 R HN.out hsz gf cf eg HC.out HO.out a b dk _ HDK.out S1.out (by omega) hlt).mono ?_
   rintro e w2 ⟨rfl,d1,e1,e2,e3,e4⟩;have HX:Hid (PermIn 0 N d d1∧Pre (ltOf cf) 20 d1 b):=aa ⟨permIn_trans _ _ _ 0 N HPM.out (permIn_mono dk d1 a b 0 N (aE _) hlt (by rw[HDK.out];exact aj _) e3),by rw[←hb];exact .snoc (HPR.out.cong (fun k hk=>e3.2.1 k (.inl hk))) (by rw[hb];exact e4)⟩;have HD1:=aa e1;have S2:Aside (SWK hldC 5 w0 g 0 d1 w2):=e2;clear e1 e2 e3 e4 S1 HPM HPR;go_wp2
   go_roundw
   case rel=>exact⟨b,d1,hlt,rfl,by rw[hb2],HD1,S2,aa HX.out.1,aa HX.out.2⟩
   case measure=>simp[intOf];omega
  ·have k1:¬(b:Int)≤(N:Int):=by omega
   go_wp2_with fail
   refine(ins_h g cap N d0 w0 R HN.out hsz gf cf eg HC.out HO.out a N dk _ HDK.out S1.out ha (aj _)).mono ?_
   rintro e w2 ⟨rfl,d1,e1,e2,e3,e4⟩;have HX:Hid (PermIn 0 N d d1∧Suf (ltOf cf) 20 N d1 0):=aa ⟨permIn_trans _ _ _ 0 N HPM.out (permIn_mono dk d1 a N 0 N (aE _) (aj _) (by rw[HDK.out];exact aj _) e3),Suf.all (HPR.out.cong (fun k hk=>e3.2.1 k (.inl hk))) (.last ha (by omega) e4) ha⟩;have HD1:=aa e1;have S2:Aside (SWK hldC 5 w0 g 0 d1 w2):=e2;clear e1 e2 e3 e4 S1 HPM HPR HDK k1 hlt;go_wp2
   as_aux_lemma=>
   go_loopw [6] (fun sv wr=>∃(bs:Nat) (dk:Array Hld),20≤bs∧bs≤2*N+20∧sv= .int .i64 (bs:Int)∧Hid (dk.size=N)∧Aside (SWK hldC 5 w0 g 0 dk wr)∧Hid (PermIn 0 N d dk)∧Hid (Suf (ltOf cf) bs N dk 0)) (fun sv _=>2*N+20-(intOf sv).toNat)
   case atStart=>exact⟨20,d1,aj _,by omega,rfl,HD1,S2,aa HX.out.1,aa HX.out.2⟩
   case round=>
    clear S2 HD1 HX;obtain⟨bs,dk,b1,b2,rfl,HDK,S1,HPM,HSF⟩:=hrel;by_cases hlt:bs<N
    ·have k1:(bs:Int)<(N:Int):=by omega
     obtain⟨c2,hc2⟩:=cR (2*bs)
     have v1:IntKind.i64.wrap (2*(bs:Int))=(c2:Int):=by rw[ax];omega
     have v1':IntKind.i64.wrap ((bs:Int)*2)=(c2:Int):=by rw[ax];omega
     go_wp2
     as_aux_lemma=>
     go_loopw [7,8] (fun av bv wr=>∃(a:Nat) (dj:Array Hld),a≤N∧av= .int .i64 (a:Int)∧bv= .int .i64 ((a+c2:Nat):Int)∧Hid (dj.size=N)∧Aside (SWK hldC 5 w0 g 0 dj wr)∧Hid (PermIn 0 N d dj)∧Hid (Pre (ltOf cf) c2 dj a∧Suf (ltOf cf) bs N dj a)) (fun av _ _=>N-(intOf av).toNat)
     case atStart=>exact⟨0,dk,aE _,rfl,by simp,HDK,S1,HPM,aa ⟨.zero,HSF.out⟩⟩
     case round=>
      clear S1 HDK HPM HSF;obtain⟨a,dj,ha,rfl,rfl,HDK,S1,HPM,HPS⟩:=hrel;obtain⟨b,hb⟩:=cR (a+c2)
      obtain⟨m,hm⟩:=cR (a+bs)
      have v2:IntKind.i64.wrap ((a:Int)+(bs:Int))=(m:Int):=by rw[ax];omega
      rw[hb];by_cases hlt2:b≤N
      ·have k2:(b:Int)≤(N:Int):=by omega
       obtain⟨b3,hb3⟩:=cR (b+c2)
       have v3:IntKind.i64.wrap ((b:Int)+(c2:Int))=(b3:Int):=by rw[ax];omega
       have HTW:=aa (HPS.out.2.two (by omega) (by omega));go_wp2_with fail
       refine(sym_h g cap N d0 w0 R HN.out hsz gf cf eg HC.out HO.out N a m b dj _ (by omega) HDK.out S1.out (by omega) (by omega) hlt2 (by rw[←hm];exact HTW.out.1) (by have:=HTW.out.2.1;rwa [hm,show a+2*bs=b by omega]at this)).mono ?_
       rintro e w2 ⟨rfl,d1,e1,e2,e3,e4⟩;have HX:Hid (PermIn 0 N d d1∧Pre (ltOf cf) c2 d1 b∧Suf (ltOf cf) bs N d1 b):=aa ⟨permIn_trans _ _ _ 0 N HPM.out (permIn_mono dj d1 a b 0 N (aE _) hlt2 (by rw[HDK.out];exact aj _) e3),by rw[←hb];exact .snoc (HPS.out.1.cong (fun k hk=>e3.2.1 k (.inl hk))) (by rw[hb];exact e4),by have:=HTW.out.2.2;rw[show a+2*bs=b by omega]at this;exact this.cong (fun k hk=>e3.2.1 k (.inr hk))⟩;have HD1:=aa e1;have S2:Aside (SWK hldC 5 w0 g 0 d1 w2):=e2;clear e1 e2 e3 e4 S1 HPM HPS HTW;go_wp2
       go_roundw
       case rel=>exact⟨b,d1,hlt2,rfl,by rw[hb3],HD1,S2,aa HX.out.1,aa HX.out.2⟩
       case measure=>simp[intOf];omega
      ·have k2:¬(b:Int)≤(N:Int):=by omega
       by_cases hm2:m<N
       ·have k3:(m:Int)<(N:Int):=by omega
        have HTW:=aa (HPS.out.2.end2 (by omega) (by omega));go_wp2_with fail
        refine(sym_h g cap N d0 w0 R HN.out hsz gf cf eg HC.out HO.out N a m N dj _ (by omega) HDK.out S1.out (by omega) hm2 (aj _) (by rw[←hm];exact HTW.out.1) (by rw[←hm];exact HTW.out.2)).mono ?_
        rintro e w2 ⟨rfl,d1,e1,e2,e3,e4⟩;have HX:Hid (PermIn 0 N d d1∧Suf (ltOf cf) c2 N d1 0):=aa ⟨permIn_trans _ _ _ 0 N HPM.out (permIn_mono dj d1 a N 0 N (aE _) (aj _) (by rw[HDK.out];exact aj _) e3),Suf.all (HPS.out.1.cong (fun k hk=>e3.2.1 k (.inl hk))) (.last ha (by omega) e4) ha⟩;have HD1:=aa e1;have S2:Aside (SWK hldC 5 w0 g 0 d1 w2):=e2;clear e1 e2 e3 e4 S1 HPM HPS HTW;go_wp2
        go_roundw
        case rel=>exact⟨c2,d1,by omega,by omega,rfl,HD1,S2,aa HX.out.1,aa HX.out.2⟩
        case measure=>simp[intOf];omega
       ·have k3:¬(m:Int)<(N:Int):=by omega
        have HX:Hid (Suf (ltOf cf) c2 N dj 0):=aa (Suf.all HPS.out.1 (.last ha (by omega) (HPS.out.2.end1 (by omega))) ha);go_wp2
        go_roundw
        case rel=>exact⟨c2,dj,by omega,by omega,rfl,HDK,S1,HPM,HX⟩
        case measure=>simp[intOf];omega
    ·have k1:¬(bs:Int)<(N:Int):=by omega
     go_wp2
     go_end0
     exact⟨rfl,dk,HDK.out,S1.out,HPM.out,HSF.out.end1 (by omega)⟩
theorem ltH (x y:Hld):Go.Proofs.ltOf cmpH x y=decide (x.nd<y.nd∨(x.nd=y.nd∧(x.fr<y.fr∨(x.fr=y.fr∧(x.tt<y.tt∨(x.tt=y.tt∧(x.tk<y.tk∨(x.tk=y.tk∧(x.sz<y.sz))))))))):=by
 unfold Go.Proofs.ltOf cmpH;have h0:(cmpI x.nd y.nd<0↔x.nd<y.nd)∧(cmpI x.nd y.nd=0↔x.nd=y.nd):=⟨by unfold cmpI;split<;>(try split)<;>omega,dV⟩
 have h1:(cmpI x.fr y.fr<0↔x.fr<y.fr)∧(cmpI x.fr y.fr=0↔x.fr=y.fr):=⟨by unfold cmpI;split<;>(try split)<;>omega,dV⟩
 have h2:(cmpI x.tt y.tt<0↔x.tt<y.tt)∧(cmpI x.tt y.tt=0↔x.tt=y.tt):=⟨by unfold cmpI;split<;>(try split)<;>omega,dV⟩
 have h3:(cmpI x.tk y.tk<0↔x.tk<y.tk)∧(cmpI x.tk y.tk=0↔x.tk=y.tk):=⟨by unfold cmpI;split<;>(try split)<;>omega,dV⟩
 have h4:(cmpI x.sz y.sz<0↔x.sz<y.sz)∧(cmpI x.sz y.sz=0↔x.sz=y.sz):=⟨by unfold cmpI;split<;>(try split)<;>omega,dV⟩
 generalize cmpI x.nd y.nd=c0 at*
 generalize cmpI x.fr y.fr=c1 at*
 generalize cmpI x.tt y.tt=c2 at*
 generalize cmpI x.tk y.tk=c3 at*
 generalize cmpI x.sz y.sz=c4 at*
 simp only[orL];apply decide_eq_decide.2
 repeat' split
 all_goals omega
theorem swoH:Go.Sort.SWO (Go.Proofs.ltOf cmpH) where
 irrefl x:=by rw[ltH];simp
 trans x y z h1 h2:=by rw[ltH]at*;simp only[decide_eq_true_eq]at*;omega
 ntrans x y z h1 h2:=by rw[ltH]at*;simp only[decide_eq_false_iff_not]at*;omega
theorem stabHc (a b:Hld) (w:World):Calls Tryz.prog 100 #[.agg #[.int .i64 a.nd,.int .i64 a.fr,.int .i64 a.tt,.int .i64 a.sz,.int .i64 a.tk],.agg #[.int .i64 b.nd,.int .i64 b.fr,.int .i64 b.tt,.int .i64 b.sz,.int .i64 b.tk]] w fun e w'=>e= .returned (.int .i64 (cmpH a b))∧GrowF w w':=by
 obtain⟨c0,hc0⟩:=cR (cmpI a.nd b.nd)
 obtain⟨c1,hc1⟩:=cR (cmpI a.fr b.fr)
 obtain⟨c2,hc2⟩:=cR (cmpI a.tt b.tt)
 obtain⟨c3,hc3⟩:=cR (cmpI a.tk b.tk)
 obtain⟨c4,hc4⟩:=cR (cmpI a.sz b.sz)
 obtain⟨r,hr⟩:=cR (orL [c0,c1,c2,c3,c4])
 rw[show cmpH a b=r from by unfold cmpH;rw[hc0,hc1,hc2,hc3,hc4,hr]];have HC0:=aa hc0;have HC1:=aa hc1;have HC2:=aa hc2;have HC3:=aa hc3;have HC4:=aa hc4;have HR:=aa hr;clear hr hc0 hc1 hc2 hc3 hc4;go_enter Tryz.func100,Tryz.ntmps100
 go_upto_region 1 with fail
 obtain⟨W,hW⟩:=cR ((w.alloc (.cells #[.int .i64 a.nd,.int .i64 a.fr,.int .i64 a.tt,.int .i64 a.sz,.int .i64 a.tk] 75)).alloc (.cells #[.int .i64 b.nd,.int .i64 b.fr,.int .i64 b.tt,.int .i64 b.sz,.int .i64 b.tk] 75))
 rw[hW];have hG:GrowF w W:=by rw[←hW];exact((GrowF.refl w).alloc _).alloc _
 have HGW:=aa hG;clear hG;have GA:W.heap[w.heap.size]? =some (.cells #[.int .i64 a.nd,.int .i64 a.fr,.int .i64 a.tt,.int .i64 a.sz,.int .i64 a.tk] 75 (0,0)):=by rw[←hW];exact(ak _ _ _ (by simp)).trans cW
 have GB:W.heap[w.heap.size+1]? =some (.cells #[.int .i64 b.nd,.int .i64 b.fr,.int .i64 b.tt,.int .i64 b.sz,.int .i64 b.tk] 75 (0,0)):=by rw[←hW];exact cY (by simp)
 have hB:Below w.heap.size w W:=by rw[←hW];exact cZ
 have zW:w.heap.size+1<W.heap.size:=by rw[←hW];simp
 clear hW;have ca:=fun o=>cU GA o
 have cb:=fun o=>cU GB o
 refine dd (fun V=>(∀o,V.cell? ⟨w.heap.size,o,none⟩=(#[.int .i64 a.nd,.int .i64 a.fr,.int .i64 a.tt,.int .i64 a.sz,.int .i64 a.tk])[o]?)∧(∀o,V.cell? ⟨w.heap.size+1,o,none⟩=(#[.int .i64 b.nd,.int .i64 b.fr,.int .i64 b.tt,.int .i64 b.sz,.int .i64 b.tk])[o]?)) [0,1,0,1,2,0,1,0,1,2,0,1,0,1,2,0,1,0,1,2,0,1,0,1,3,3,3,0] [0,1,2,3,5,6,7,8,10,11,12,13,15,16,17,18,20,21,22,23,4,9,14,19,24,25,26,27] (by kernel_rfl) (by kernel_rfl) ?_ ?_
 case refine_1=>exact⟨ca,cb⟩
 (iterate 20 (refine cX rfl (by decide) (by rfl) (fun w1 hS=>by(try(have hS:=hS rfl;obtain hS:=hS;repeat (obtain⟨_,hS⟩:=hS)));go_simp;rfl) ?_;simp only[Act.put,ae,af,ag]))
 (refine dA rfl rfl (by rfl) (fun K hK=>?_);go_simp)
 refine(dD a.nd b.nd _).mono ?_
 rw[HC0.out];rintro e w3 ⟨rfl,rfl⟩
 (refine hK _ _ (by exact⟨ca,cb⟩) ?_;clear hK K;(try simp only[Act.put,ae,af,ag]))
 (refine dA rfl rfl (by rfl) (fun K hK=>?_);go_simp)
 refine(dD a.fr b.fr _).mono ?_
 rw[HC1.out];rintro e w3 ⟨rfl,rfl⟩
 (refine hK _ _ (by exact⟨ca,cb⟩) ?_;clear hK K;(try simp only[Act.put,ae,af,ag]))
 (refine dA rfl rfl (by rfl) (fun K hK=>?_);go_simp)
 refine(dD a.tt b.tt _).mono ?_
 rw[HC2.out];rintro e w3 ⟨rfl,rfl⟩
 (refine hK _ _ (by exact⟨ca,cb⟩) ?_;clear hK K;(try simp only[Act.put,ae,af,ag]))
 (refine dA rfl rfl (by rfl) (fun K hK=>?_);go_simp)
 refine(dD a.tk b.tk _).mono ?_
 rw[HC3.out];rintro e w3 ⟨rfl,rfl⟩
 (refine hK _ _ (by exact⟨ca,cb⟩) ?_;clear hK K;(try simp only[Act.put,ae,af,ag]))
 (refine di rfl rfl (by rfl) (fun K hK=>?_);go_simp)
 refine(dD a.sz b.sz _).mono ?_
 rw[HC4.out];rintro e w3 ⟨rfl,rfl⟩
 (refine hK _ _ ?_;clear hK K;(try simp only[Act.put,ae,af,ag]))
 (refine di rfl rfl (by rfl) (fun K hK=>?_);go_simp)
 (refine hK _ _ ?_;clear hK K;(try simp only[Act.put,ae,af,ag]))
 (refine di rfl rfl (by rfl) (fun K hK=>?_);go_simp)
 refine(fS [c0,c1,c2,c3,c4] _ _ (RRow.ints (l:=[c0,c1,c2,c3,c4]) (t:=3) ?_ rfl ?_ (by simp))).mono ?_
 ·exact cW
 ·simp
 rw[HR.out];rintro e w8 ⟨rfl,rfl⟩
 (refine hK _ _ ?_;clear hK K;(try simp only[Act.put,ae,af,ag]))
 (iterate 1 (refine cX rfl (by decide) (by rfl) (fun w1 hS=>by(try(have hS:=hS rfl;obtain hS:=hS;repeat (obtain⟨_,hS⟩:=hS)));go_simp;rfl) ?_;simp only[Act.put,ae,af,ag]))
 refine du ?_
 go_wp2
 go_ret
 exact⟨rfl,by repeat (first | exact HGW.out | refine GrowF.alloc ?_ _ | refine GrowF.drew ?_)⟩
theorem ins0_h (p:Option Addr) (cap:Nat) (fv:Value) (w:World):Calls Tryz.prog 140 #[.slice p 0 cap,.int .i64 0,.int .i64 0,fv] w fun e w'=>e= .returned (.tuple #[])∧w'=w:=AnyF.insertionSortCmpFunc_none ({Tryz.laysF06_f57 with}:Go.Proofs.SlLaysF0.n20 Tryz.prog Tryz.laysF06_f57_ren) p cap fv w
theorem stab0_h (p:Option Addr) (cap:Nat) (fv:Value) (w:World):Calls Tryz.prog 137 #[.slice p 0 cap,.int .i64 0,fv] w fun e w'=>e= .returned (.tuple #[])∧w'=w:=by
 go_enter Tryz.func137,Tryz.ntmps137
 go_wp2
 go_loopw [7,8] (fun av bv wr=>av= .int .i64 0∧bv= .int .i64 20∧wr=w) (fun _ _ _=>0)
 case atStart=>exact⟨rfl,rfl,rfl⟩
 case round=>
  obtain⟨rfl,rfl,rfl⟩:=hrel;go_wp2_with fail
  refine(ins0_h p cap fv _).mono ?_
  rintro e w2 ⟨rfl,rfl⟩;go_wp2
  go_loopw [6] (fun sv w3=>sv= .int .i64 20∧w3=w2) (fun _ _=>0)
  case atStart=>exact⟨rfl,rfl⟩
  case round=>
   obtain⟨rfl,rfl⟩:=hrel;go_wp2
   go_end0
   exact⟨rfl,rfl⟩
def StabPostH (M:List Hld) (base:Nat) (u:Value) (w:World) (e:Ending) (w':World):Prop:=e= .returned (.tuple #[])∧∃M':List Hld,M'.Perm M∧M'.Pairwise (fun x y=>ltOf cmpH y x=false)∧w'.ownsRow base 75 5 u M'.length (M'.flatMap hldC)∧Below base w w'∧∀q,q<w.heap.size→u.ownBlock≠some q→w'.heap[q]? =w.heap[q]?
theorem stabR_h (gf:Nat) (eg:∀args w,(callFunc gf args).run Tryz.prog w= .ok (.enter gf args) w) (hcf:∀(x y:Hld) (w:World),Calls Tryz.prog gf #[.agg (hldC x).toArray,.agg (hldC y).toArray] w fun e w'=>e= .returned (.int .i64 (cmpH x y))∧GrowF w w') (M:List Hld) (u:Value) (base:Nat) (w:World) (ho:w.ownsRow base 75 5 u M.length (M.flatMap hldC)) (hl:M.length<1000000000000):
  Calls Tryz.prog 99 #[u,.func (.func gf) #[] #[]] w (StabPostH M base u w):=by
 obtain⟨a,cap,rfl⟩:=dg ho
 cases hM:M with
 | nil=>
  subst hM;go_enter Tryz.func99,Tryz.ntmps99
  go_wp2_with fail
  refine(stab0_h a cap (.func (.func gf) #[] #[]) w).mono ?_
  rintro e w2 ⟨rfl,rfl⟩;go_wp2
  go_end0
  exact⟨rfl,[],List.Perm.refl _,List.Pairwise.nil,ho,ap _ _,fun q _ _=>rfl⟩
 | cons x r=>
  have hp:0<M.length:=by rw[hM];simp
  rw[←hM];clear hM;obtain⟨g,c2,he⟩:=fd ho hp;injection he with he1 he2 he3
  subst he1 he3;have HO:=aa ho;have R:RowK hldC 5 w g 0 M.toArray:=iL dO (by omega) (fun x v hv=>by simp[hldC]at hv;rcases hv with rfl | rfl | rfl | rfl | rfl<;>rfl) ho;have hC:CmpLays Tryz.prog gf #[] hldC 5 cmpH g 0 M.toArray.size w:=fun _ _ _ _ x y=>hcf x y _
  have hSt:=stab_h g cap M.length M.toArray w R (by simp) hl gf cmpH eg hC swoH M.toArray w (by simp) (SWK.start R.hH);have HS:=aa hSt;clear hSt hC R ho;go_enter Tryz.func99,Tryz.ntmps99
  go_wp2_with fail
  refine HS.out.mono ?_
  rintro e w2 ⟨rfl,d',h1,h2,h3,h4⟩;have HX:=aa (cS h1 (cS h2 (cS h3 h4)));clear h1 h2 h3 h4;go_wp2
  go_end0
  obtain⟨h1,h2,h3,h4⟩:=HX.out;obtain⟨k1,k2,k3⟩:=l8 dO (by omega) HO.out h2 h1;have h5:d'.toList.length=M.length:=by simpa using h1
  refine⟨rfl,d'.toList,?_,?_,by rw[h5];exact k1,k2,fun q hq hne=>k3 q hq (fun e=>hne (by rw[e];rfl))⟩
  ·have:=jC (d:=M.toArray) (d':=d') (by simpa using h3)
   simpa using this
  ·exact jD (by rw[h1];exact h4)
theorem stabH (M:List Hld) (u:Value) (base:Nat) (w:World) (ho:w.ownsRow base 75 5 u M.length (M.flatMap hldC)) (hl:M.length<1000000000000):
  Calls Tryz.prog 99 #[u,.func (.func 100) #[] #[]] w (StabPostH M base u w):=
 stabR_h _ (enters_of Tryz.func100 (by kernel_rfl) rfl) (fun x y w=>stabHc x y w) M u base w ho hl
end
section
theorem lt_le {x y:Bkg} (h:Go.Proofs.ltOf cmpB y x=false):leB x y:=by
 rw[ltB]at h;have:=of_decide_eq_false h;unfold leB;omega
theorem lt_leH {x y:Hld} (h:Go.Proofs.ltOf cmpH y x=false):leH x y:=by
 rw[ltH]at h;have:=of_decide_eq_false h;unfold leH;omega
def SortB (l:List Bkg) (base:Nat) (w:World) (e:Ending) (w':World):Prop:=(∃(v:Value) (M:List Bkg),e= .returned v∧M.Perm l∧M.Pairwise leB∧w'.ownsRow base 53 4 v M.length (M.flatMap bkgC))∧Below base w w'
theorem pQ (no:Int) (l:List Hp) (x:Hp):bksL no (l++[x])=bksL no l++[⟨x.ct,x.bg,x.en,no⟩]:=by rw[kg];rfl
theorem jk (hs:List Hp) (u:Value) (no:Int) (w:World) (hr:RHops w u hs) (hl:hs.length≤100000):
  Calls Tryz.prog 10 #[u,.int .i64 no] w (SortB (bksL no hs) w.heap.size w):=by
 have HR:=aa hr;obtain⟨a,c,rfl,h1,h2,-,h4⟩:=hr;have H4:=aa h4;unfold maxLen at h2;obtain⟨i0,hin,hz0,hz1,hz2⟩:=info_parts jP;clear h4;go_enter Tryz.func10,Tryz.ntmps10
 go_wp2_with fail
 go_loopw [5,10] (fun ov kv wr=>∃k:Nat,k≤hs.length∧kv= .int .i64 (k:Int)∧Hid (wr.ownsRow w.heap.size 53 4 ov (bksL no (hs.take k)).length ((bksL no (hs.take k)).flatMap bkgC))∧Hid (Below w.heap.size w wr)) (fun _ kv _=>hs.length-(intOf kv).toNat)
 case atStart=>exact⟨0,aE _,rfl,aa (aX _ _ _ _),aa (ap _ _)⟩
 case round=>
  obtain⟨k,hk,rfl,HO,HB⟩:=hrel;obtain⟨va,vc,rfl⟩:=dg HO.out;have zr:w.heap.size≤wr.heap.size:=HB.out.size;have k0:(0:Int)≤(k:Int):=by omega
  have hLl:(bksL no (hs.take k)).length≤100000:=by unfold bksL;rw[aZ,aS];omega
  by_cases hlt:k<hs.length
  ·obtain⟨bb,o,rfl,hbb,hcc⟩:=H4.out (by omega)
   obtain⟨x,hx⟩:∃x,hs[k]? =some x:=⟨_,am hlt⟩
   obtain⟨p0,p1,p2,p3⟩:=hop0 hcc hx;have q0:=(HB.out.cell (p:=⟨bb,o+k*4,none⟩) hbb).trans p0;have q1:=(HB.out.cell (p:=⟨bb,o+k*4+1,none⟩) hbb).trans p1;have q2:=(HB.out.cell (p:=⟨bb,o+k*4+2,none⟩) hbb).trans p2;have q3:=(HB.out.cell (p:=⟨bb,o+k*4+3,none⟩) hbb).trans p3;have hbr:bb<wr.heap.size:=by omega
   have k1:(k:Int)<(hs.length:Int):=by omega
   have HTK:Hid (bksL no (hs.take (k+1))=bksL no (hs.take k)++[⟨x.ct,x.bg,x.en,no⟩]):=aa (by rw[el hx,pQ]);obtain⟨L,hL⟩:=cR (bksL no (hs.take k))
   rw[hL]at HTK HO hLl ⊢;clear hcc hx p0 p1 p2 p3 hL;go_upto_region 5 with fail
   obtain⟨w7,hw7⟩:=cR (wr.alloc (.cells #[.int .i64 x.ct,.int .i64 x.bg,.int .i64 x.en,.int .i64 x.ar] 68))
   rw[hw7];have b7:Below wr.heap.size wr w7:=by rw[←hw7];exact de (ap _ _)
   have X7:w7.heap[wr.heap.size]? =some (.cells #[.int .i64 x.ct,.int .i64 x.bg,.int .i64 x.en,.int .i64 x.ar] 68 (0,0)):=by rw[←hw7];exact cW
   have z7:wr.heap.size<w7.heap.size:=(ai.1 X7).1;have c7:=fun q=>cU X7 q
   have HB7:Hid (Below w.heap.size w w7):=aa (dq HB.out b7);have HO7:Hid _:=aa (cV HO.out (fun q hq=>b7.block q (HO.out.lt q hq).2));clear hw7 b7 X7 q0 q1 q2 q3;go_wp2_with (at_builtin;refine dK _ rfl _ _ _ rfl w.heap.size 53 i0 _ 4 32 bU hin hz0 hz1 hz2 rfl (by omega) (.slice va L.length vc) L.length (L.flatMap bkgC) rfl (cV HO7.out (fun q hq=>ak _ _ _ (HO7.out.lt q hq).2)) ⟨w7.heap.size,0,none⟩ 1 1 (bkgC ⟨x.ct,x.bg,x.en,no⟩) rfl rfl (dI cW) (by simp[bkgC,Value.oneCell']) (by simp only[maxLen];omega) (by omega) (by simp;omega) (by omega) ?_;intro vo w9 ho9 hg9 hf9)
   have hB9:Below w.heap.size w w9:=Below.grown (balloc HB7.out (by omega)) hg9 (by simp;omega) (fun q hq=>(HO7.out.lt q hq).1);have HO9:=aa ho9;clear ho9 hg9 hf9;go_wp2
   go_roundw
   case rel=>exact⟨k+1,by omega,by go_num,aa (by rw[HTK.out,ay,aV];simpa using HO9.out),aa hB9⟩
   case measure=>simp[intOf];omega
  ·obtain rfl:k=hs.length:=by omega
   rw[aL]at HO hLl ⊢;obtain⟨L,hL⟩:=cR (bksL no hs)
   have HL:=aa hL;rw[hL]at HO hLl ⊢;clear hL;go_wp2_with fail
   refine(stabB L _ w.heap.size _ HO.out (by omega)).mono ?_
   rintro e w5 ⟨rfl,M,hm1,hm2,hm3,hm4,hm5⟩;have HM:=aa (cS hm1 (cS hm2 (cS hm3 hm4)));clear hm1 hm2 hm3 hm4 hm5;go_wp2
   go_ret
   exact⟨⟨_,M,rfl,by rw[HL.out];exact HM.out.1,HM.out.2.1.imp lt_le,HM.out.2.2.1⟩,HB.out.trans HM.out.2.2.2⟩
end
section
theorem gZ {α:Type} (enc:α→List Value) (k:Nat) (hk0:0<k) (hk:∀x,(enc x).length=k) {P:Program} {w:World} (t ty e:TypeId) (i0:TypeInfo) (z:Value) (bytes:Nat) (ht0:P.underlying t=some (.slice e)) (hin:P.info? e=some i0) (hz0:i0.zero=some z) (hz1:i0.size=k) (hz2:i0.bytes=bytes) (hzs:z.cells.size=k)
  (base:Nat) (v:Value) (n:Nat) (xs:List Value) (hown:w.ownsRow base e k v n xs) (u:Value) (l:List α) (hr:RRow enc k w w.heap.size u l) (hone:∀v∈l.flatMap enc,v.oneCell'=true) (hn:n+l.length≤1000000) (hb:bytes≤1000) (hbase:base≤w.heap.size):
  ∃v' w',(Builtin.append_ #[t,t] ty #[v,u]).run P w= .ok v' w'∧w'.ownsRow base e k v' (n+l.length) (xs++l.flatMap enc)∧w.grownBy w' v.ownBlock∧(v'.ownBlock=v.ownBlock∨v'.ownBlock=some w.heap.size):=by
 obtain⟨a,c,rfl,h1,h2,h3,h4⟩:=hr
 cases a with
 | none=>
  have hc:=h3 rfl;subst hc;have hz:l=[]:=aF (by omega);subst hz;exact⟨v,w,run_append_owned_none (P:=P) (w:=w) base t ty e i0 k ht0 hin v _ _ hown,by simpa using hown,⟨rfl,rfl,rfl,aj _,fun _ _ _=>rfl⟩,.inl rfl⟩
 | some ad=>
  have hnw:∀j u,(l.flatMap enc)[j]? =some u→w.cell? (ad.add j)=some u:=by
   intro j u hu;have hp:0<l.length:=by
    rcases bC l.length with e | e
    ·rw[aF e]at hu;simp at hu
    ·exact e
   obtain⟨bb,o,e,hbn,hc⟩:=h4 hp;injection e with e
   subst e;exact fL hk0 hk hc j u hu
  have hle:(n+l.length)*bytes≤1000000*1000:=Nat.mul_le_mul hn hb;obtain⟨v',w',hr,h2,h3,h4,h5⟩:=run_append_own_at (P:=P) w base t ty e i0 z k bytes ht0 hin hz0 hz1 hz2 hzs hk0 v n xs hown ad l.length c (l.flatMap enc) (ef enc k hk l) hnw hone (by unfold maxLen;omega) (by omega) hbase;exact⟨v',w',hr,h2,h3,h5⟩
theorem iM {α:Type} (enc:α→List Value) (k:Nat) (hk0:0<k) (hk:∀x,(enc x).length=k) {P:Program} {w:World} {o:Oper} {a:Act} {K:Act→World→Prop} {Q:Exit→Act→World→Prop} (s x:Operand) (t e:TypeId)
  (ho:o.op= .call {callee:=.builtin .append,args:=#[s,x],argTypes:=#[t,t]}) (i0:TypeInfo) (z:Value) (bytes:Nat) (ht0:P.underlying t=some (.slice e)) (hin:P.info? e=some i0) (hz0:i0.zero=some z) (hz1:i0.size=k) (hz2:i0.bytes=bytes) (hzs:z.cells.size=k)
  (base:Nat) (v:Value) (n:Nat) (xs:List Value) (hs:a.eval s=v) (hown:w.ownsRow base e k v n xs) (u:Value) (l:List α) (hx:a.eval x=u) (hr:RRow enc k w w.heap.size u l) (hone:∀v∈l.flatMap enc,v.oneCell'=true) (hn:n+l.length≤1000000) (hb:bytes≤1000) (hbase:base≤w.heap.size)
  (h:∀v' w',w'.ownsRow base e k v' (n+l.length) (xs++l.flatMap enc)→w.grownBy w' v.ownBlock→(v'.ownBlock=v.ownBlock∨v'.ownBlock=some w.heap.size)→K (a.put o.dst v') w'):o.wp P a w K Q:=by
 obtain⟨v',w',hr',h2,h3,h4⟩:=gZ (P:=P) enc k hk0 hk t o.type e i0 z bytes ht0 hin hz0 hz1 hz2 hzs base v n xs hown u l hr hone hn hb hbase;unfold Oper.wp execOp;simp only[ho,resolve,invoke,builtin,Sem.run_bind,Sem.run_pure,Result.andThen_ok,List.map_toArray,List.map_cons,List.map_nil,hs,hx,hr'];exact h v' w' h2 h3 h4
structure TabO (w:World) (base:Nat) (vb vh:Value) (B:List Bkg) (H:List Hld):Prop where
 b:w.ownsRow base 53 4 vb B.length (B.flatMap bkgC)
 h:w.ownsRow base 75 5 vh H.length (H.flatMap hldC)
def TabPost (uq uc:Value) (lb:List Bkg) (lh:List Hld) (base:Nat) (w:World) (e:Ending) (w':World):Prop:=(∃(vb vh:Value) (B:List Bkg) (H:List Hld),e= .returned (.agg #[uq,uc,vb,vh])∧B.Perm lb∧B.Pairwise leB∧H.Perm lh∧H.Pairwise leH∧TabO w' base vb vh B H)∧Below base w w'
theorem fT {w:World} {b1 b2 n1 n2 k1 k2 g:Nat} {T1 T2:TypeId} {v1 v2:Value} {x1 x2:List Value} (h1:w.ownsRow b1 T1 k1 v1 n1 x1) (h2:w.ownsRow b2 T2 k2 v2 n2 x2) (hT:T1≠T2) (hg:v1.ownBlock=some g):v2.ownBlock≠some g:=by
 intro e;rcases h1.2 with⟨rfl,_⟩ | ⟨g',cap,cur,rfl,_,hg',_⟩
 ·cases hg
 ·have e1:g'=g:=Option.some.inj hg
  subst e1;exact hT (fE h2 e hg')
theorem n5 (uq uc vb vh:Value) (B:List Bkg) (H:List Hld) (base:Nat) (w:World) (hq:∃a k c,uq= .slice a k c) (hc:∃a k c,uc= .slice a k c) (ht:TabO w base vb vh B H) (hbase:base≤w.heap.size) (hB:B.length≤10000000) (hH:H.length≤10000000):
  Calls Tryz.prog 52 #[.agg #[uq,uc,vb,vh]] w (TabPost uq uc B H base w):=by
 obtain⟨aq,kq,cq,rfl⟩:=hq;obtain⟨ac,kc,cc,rfl⟩:=hc;obtain⟨tb,th⟩:=ht;obtain⟨ba,bc,rfl⟩:=dg tb;obtain⟨ha,hc,rfl⟩:=dg th;have HTB:=aa tb;have HTH:=aa th;have HHB:=aa (tb.lt);clear tb th;obtain⟨nb,hnb⟩:=cR B.length
 obtain⟨nh,hnh⟩:=cR H.length
 rw[hnb]at HTB HHB hB ⊢;rw[hnh]at HTH hH ⊢;have HNB:=aa (cS hnb hnh);clear hnb hnh;go_enter Tryz.func52,Tryz.ntmps52
 go_upto_region 1 with fail
 obtain⟨w1,hw1⟩:=cR ((w.alloc (.cells #[.slice aq kq cq,.slice ac kc cc,.slice ba nb bc,.slice ha nh hc] 44)).alloc (.cells #[.slice none 0 0,.slice none 0 0,.slice none 0 0,.slice none 0 0] 44))
 rw[hw1];have B1:Below w.heap.size w w1:=by rw[←hw1];exact cZ
 have X0:w1.heap[w.heap.size]? =some (.cells #[.slice aq kq cq,.slice ac kc cc,.slice ba nb bc,.slice ha nh hc] 44 (0,0)):=by rw[←hw1];exact(ak _ _ _ (by simp)).trans cW
 have X1:w1.heap[w.heap.size+1]? =some (.cells #[.slice none 0 0,.slice none 0 0,.slice none 0 0,.slice none 0 0] 44 (0,0)):=by rw[←hw1];exact cY (by simp)
 have z1:w.heap.size+1<w1.heap.size:=(ai.1 X1).1;have z1':w.heap.size<w1.heap.size:=by omega
 have cx0:=fun q=>cU X0 q
 have HX:=aa (cS X0 X1);have HB1:=aa B1;have HTB1:Hid (w1.ownsRow base 53 4 (.slice ba nb bc) B.length (B.flatMap bkgC)):=aa (by rw[HNB.out.1];exact cV HTB.out (fun q hq=>B1.block q (HTB.out.lt q hq).2));have HTH1:Hid (w1.ownsRow base 75 5 (.slice ha nh hc) nh (H.flatMap hldC)):=aa (cV HTH.out (fun q hq=>B1.block q (HTH.out.lt q hq).2));clear hw1 X0 X1 B1;go_wp2_with fail
 refine(stabL B _ base _ HTB1.out (by rw[HNB.out.1];omega)).mono ?_
 rintro e w2 ⟨rfl,M,hm1,hm2,hm3,hm4,hm5⟩;have hold:∀q,q<w1.heap.size→q=w.heap.size∨q=w.heap.size+1→w2.heap[q]? =w1.heap[q]?:=fun q hq hq2=>hm5 q hq (fun e=>by have:=(HHB.out q e).2;omega)
 have Y0:=(hold _ z1' (.inl rfl)).trans HX.out.1;have Y1:=(hold _ z1 (.inr rfl)).trans HX.out.2;have z2:w.heap.size+1<w2.heap.size:=by have:=hm4.size;omega
 have z2':w.heap.size<w2.heap.size:=by omega
 have cy:=fun q=>cU Y0 q
 have HY:=aa (cS Y0 Y1);have HTH2:Hid (w2.ownsRow base 75 5 (.slice ha nh hc) H.length (H.flatMap hldC)):=aa (by rw[HNB.out.2];exact cV HTH1.out (fun q hq=>hm5 q (HTH1.out.lt q hq).2 (fT HTH1.out HTB1.out (by decide) hq)));have HM:=aa (cS hm1 (cS hm2 (cS hm3 hm4)));have HBB2:Hid (Below base w w2):=aa ((HB1.out.mono hbase).trans hm4);clear hm1 hm2 hm3 hm4 hm5 hold Y0 Y1 cx0;go_wp2_with fail
 refine(stabH H _ base _ HTH2.out (by rw[HNB.out.2];omega)).mono ?_
 rintro e w3 ⟨rfl,K,hk1,hk2,hk3,hk4,hk5⟩;have hold:∀q,q<w2.heap.size→q=w.heap.size∨q=w.heap.size+1→w3.heap[q]? =w2.heap[q]?:=fun q hq hq2=>hk5 q hq (fun e=>by have:=(HTH.out.lt q e).2;omega)
 have Y0:=(hold _ z2' (.inl rfl)).trans HY.out.1;have Y1:=aa ((hold _ z2 (.inr rfl)).trans HY.out.2);have z3:w.heap.size<w3.heap.size:=by have:=hk4.size;omega
 have cz:=fun q=>cU Y0 q
 have HTB3:Hid (w3.ownsRow base 53 4 (.slice ba nb bc) M.length (M.flatMap bkgC)):=aa (cV HM.out.2.2.1 (fun q hq=>hk5 q (HM.out.2.2.1.lt q hq).2 (fT HM.out.2.2.1 HTH2.out (by decide) hq)));have HK:=aa (cS hk1 (cS hk2 (cS hk3 hk4)));have HBB3:Hid (Below base w w3):=aa (HBB2.out.trans hk4);clear hk1 hk2 hk3 hk4 hk5 hold Y0 cy;go_wp2_with (refine dv rfl 44 _ _ rfl (w.heap.size+1) #[.slice aq kq cq,.slice ac kc cc,.slice ba nb bc,.slice ha nh hc] _ 44 rfl rfl Y1.out rfl (by kernel_rfl) (by simp[Value.oneCell']) ?_;intro wF hW hbW hsW hoW;have HBF:Hid (Below base w wF):=aa (HBB3.out.trans (hbW _ (by omega)));have HOF:=aa (cS hoW hsW);have zF:w.heap.size+1<wF.heap.size:=(ai.1 hW).1;have cF:=fun o=>cU hW o;clear hW hbW hsW hoW)
 refine bodyPost_ret (v:=.agg #[.slice aq kq cq,.slice ac kc cc,.slice ba nb bc,.slice ha nh hc]) (by simp[results,Tryz.results52,go_sem,aP,cF,zF]) rfl ?_
 refine⟨⟨_,_,M,K,rfl,HM.out.1,HM.out.2.1.imp lt_le,HK.out.1,HK.out.2.1.imp lt_leH,⟨cV HTB3.out (fun q hq=>HOF.out.1 q (fun e=>?_)),cV HK.out.2.2.1 (fun q hq=>HOF.out.1 q (fun e=>?_))⟩⟩,HBF.out⟩
 ·have:=(HHB.out q hq).2;omega
 ·have:=(HTH.out.lt q hq).2;omega
end
end Go.Proofs.YtfnciigbbolckaaGreat
