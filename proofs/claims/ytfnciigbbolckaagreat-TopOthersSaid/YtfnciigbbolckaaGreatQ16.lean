/- Part 16 of the proof about mailboattop.TopOthers. No condition. -/
import Derived.Test.YtfnciigbbolckaaGreatQ00
import Derived.Test.YtfnciigbbolckaaGreatQ05
import Derived.Test.YtfnciigbbolckaaGreatQ13
import Derived.Test.YtfnciigbbolckaaGreatQ15
set_option linter.unusedVariables false
set_option linter.unusedSimpArgs false
set_option maxRecDepth 100000
set_option maxHeartbeats 64000000
namespace Go.Proofs.YtfnciigbbolckaaGreat
open Go Go.RowKit Iv
attribute [local go_sem] Oper.semAt_some
attribute [local go_sem] pw gu B_app pv B_get B_toList
section
open Go.Sort Go.Shelf
theorem ins_b (g cap N:Nat) (d0:Array Bkg) (w0:World) (R:RowK bkgC 4 w0 g 0 d0) (hN:d0.size=N) (hsz:N<1000000000000) (gf:Nat) (cf:Bkg→Bkg→Int) (eg:∀args w,(callFunc gf args).run Tryz.prog w= .ok (.enter gf args) w) (hC:CmpLays Tryz.prog gf #[] bkgC 4 cf g 0 d0.size w0) (hO:SWO (ltOf cf)) (a b:Nat) (d:Array Bkg) (w:World) (hs:d.size=N) (S:SWK bkgC 4 w0 g 0 d w) (hab:a≤b) (hb:b≤N):
  Calls Tryz.prog 110 #[.slice (some ⟨g,0,none⟩) N cap,.int .i64 (a:Int),.int .i64 (b:Int),.func (.func gf) #[] #[]] w fun e w'=>e= .returned (.tuple #[])∧∃d':Array Bkg,d'.size=N∧SWK bkgC 4 w0 g 0 d' w'∧PermIn a b d d'∧SortedIn (ltOf cf) a b d':=by
 have h:=AnyQ.insertionSortCmpFunc_w (P:=Tryz.prog) Tryz.laysF020_f110 4 Tryz.isAgg53 Tryz.sizeOf53 bkgC cf gf #[] g 0 cap a b d0 d w0 w eg hC R (by omega) S hO hab (by omega) (by omega);rw[hs]at h;have h2:=insertionSort_holds (lt:=ltOf cf) hO d a b hab (by omega);refine Calls.mono h ?_
 rintro e w' ⟨rfl,h3⟩;exact⟨rfl,_,by rw[h2.1.1,hs],h3,h2.1,h2.2⟩
theorem stab_b (g cap N:Nat) (d0:Array Bkg) (w0:World) (R:RowK bkgC 4 w0 g 0 d0) (hN:d0.size=N) (hsz:N<1000000000000) (gf:Nat) (cf:Bkg→Bkg→Int) (eg:∀args w,(callFunc gf args).run Tryz.prog w= .ok (.enter gf args) w) (hC:CmpLays Tryz.prog gf #[] bkgC 4 cf g 0 d0.size w0) (hO:SWO (ltOf cf)) (d:Array Bkg) (w:World) (hs:d.size=N) (S:SWK bkgC 4 w0 g 0 d w):
  Calls Tryz.prog 66 #[.slice (some ⟨g,0,none⟩) N cap,.int .i64 (N:Int),.func (.func gf) #[] #[]] w fun e w'=>e= .returned (.tuple #[])∧∃d':Array Bkg,d'.size=N∧SWK bkgC 4 w0 g 0 d' w'∧PermIn 0 N d d'∧SortedIn (ltOf cf) 0 N d':=by
 have S0:Aside (SWK bkgC 4 w0 g 0 d w):=S;have HD:=aa hs;have HN:=aa hN;have HC:=aa hC;have HO:=aa hO;clear S hs hN hC hO;go_enter Tryz.func66,Tryz.ntmps66
 go_wp2
 as_aux_lemma=>
 go_loopw [7,8] (fun av bv wr=>∃(a:Nat) (dk:Array Bkg),a≤N∧av= .int .i64 (a:Int)∧bv= .int .i64 ((a+20:Nat):Int)∧Hid (dk.size=N)∧Aside (SWK bkgC 4 w0 g 0 dk wr)∧Hid (PermIn 0 N d dk)∧Hid (Pre (ltOf cf) 20 dk a)) (fun av _ _=>N-(intOf av).toNat)
 case atStart=>exact⟨0,d,aE _,rfl,rfl,HD,S0,aa (permIn_refl d 0 N),aa .zero⟩
 case round=>
  clear S0;obtain⟨a,dk,ha,rfl,rfl,HDK,S1,HPM,HPR⟩:=hrel;obtain⟨b,hb⟩:=cR (a+20)
  rw[hb];by_cases hlt:b≤N
  ·have k1:(b:Int)≤(N:Int):=by omega
   obtain⟨b2,hb2⟩:=cR (b+20)
   have v1:IntKind.i64.wrap ((b:Int)+20)=(b2:Int):=by rw[ax];omega
   go_wp2_with fail
   refine(ins_b g cap N d0 w0 R HN.out hsz gf cf eg HC.out HO.out a b dk _ HDK.out S1.out (by omega) hlt).mono ?_
   rintro e w2 ⟨rfl,d1,e1,e2,e3,e4⟩;have HX:Hid (PermIn 0 N d d1∧Pre (ltOf cf) 20 d1 b):=aa ⟨permIn_trans _ _ _ 0 N HPM.out (permIn_mono dk d1 a b 0 N (aE _) hlt (by rw[HDK.out];exact aj _) e3),by rw[←hb];exact .snoc (HPR.out.cong (fun k hk=>e3.2.1 k (.inl hk))) (by rw[hb];exact e4)⟩;have HD1:=aa e1;have S2:Aside (SWK bkgC 4 w0 g 0 d1 w2):=e2;clear e1 e2 e3 e4 S1 HPM HPR;go_wp2
   go_roundw
   case rel=>exact⟨b,d1,hlt,rfl,by rw[hb2],HD1,S2,aa HX.out.1,aa HX.out.2⟩
   case measure=>simp[intOf];omega
  ·have k1:¬(b:Int)≤(N:Int):=by omega
   go_wp2_with fail
   refine(ins_b g cap N d0 w0 R HN.out hsz gf cf eg HC.out HO.out a N dk _ HDK.out S1.out ha (aj _)).mono ?_
   rintro e w2 ⟨rfl,d1,e1,e2,e3,e4⟩;have HX:Hid (PermIn 0 N d d1∧Suf (ltOf cf) 20 N d1 0):=aa ⟨permIn_trans _ _ _ 0 N HPM.out (permIn_mono dk d1 a N 0 N (aE _) (aj _) (by rw[HDK.out];exact aj _) e3),Suf.all (HPR.out.cong (fun k hk=>e3.2.1 k (.inl hk))) (.last ha (by omega) e4) ha⟩;have HD1:=aa e1;have S2:Aside (SWK bkgC 4 w0 g 0 d1 w2):=e2;clear e1 e2 e3 e4 S1 HPM HPR HDK k1 hlt;go_wp2
   as_aux_lemma=>
   go_loopw [6] (fun sv wr=>∃(bs:Nat) (dk:Array Bkg),20≤bs∧bs≤2*N+20∧sv= .int .i64 (bs:Int)∧Hid (dk.size=N)∧Aside (SWK bkgC 4 w0 g 0 dk wr)∧Hid (PermIn 0 N d dk)∧Hid (Suf (ltOf cf) bs N dk 0)) (fun sv _=>2*N+20-(intOf sv).toNat)
   case atStart=>exact⟨20,d1,aj _,by omega,rfl,HD1,S2,aa HX.out.1,aa HX.out.2⟩
   case round=>
    clear S2 HD1 HX;obtain⟨bs,dk,b1,b2,rfl,HDK,S1,HPM,HSF⟩:=hrel;by_cases hlt:bs<N
    ·have k1:(bs:Int)<(N:Int):=by omega
     obtain⟨c2,hc2⟩:=cR (2*bs)
     have v1:IntKind.i64.wrap (2*(bs:Int))=(c2:Int):=by rw[ax];omega
     have v1':IntKind.i64.wrap ((bs:Int)*2)=(c2:Int):=by rw[ax];omega
     go_wp2
     as_aux_lemma=>
     go_loopw [7,8] (fun av bv wr=>∃(a:Nat) (dj:Array Bkg),a≤N∧av= .int .i64 (a:Int)∧bv= .int .i64 ((a+c2:Nat):Int)∧Hid (dj.size=N)∧Aside (SWK bkgC 4 w0 g 0 dj wr)∧Hid (PermIn 0 N d dj)∧Hid (Pre (ltOf cf) c2 dj a∧Suf (ltOf cf) bs N dj a)) (fun av _ _=>N-(intOf av).toNat)
     case atStart=>exact⟨0,dk,aE _,rfl,by simp,HDK,S1,HPM,aa ⟨.zero,HSF.out⟩⟩
     case round=>
      clear S1 HDK HPM HSF;obtain⟨a,dj,ha,rfl,rfl,HDK,S1,HPM,HPS⟩:=hrel;obtain⟨b,hb⟩:=cR (a+c2)
      obtain⟨m,hm⟩:=cR (a+bs)
      have v2:IntKind.i64.wrap ((a:Int)+(bs:Int))=(m:Int):=by rw[ax];omega
      rw[hb];by_cases hlt2:b≤N
      ·have k2:(b:Int)≤(N:Int):=by omega
       obtain⟨b3,hb3⟩:=cR (b+c2)
       have v3:IntKind.i64.wrap ((b:Int)+(c2:Int))=(b3:Int):=by rw[ax];omega
       have HTW:=aa (HPS.out.2.two (by omega) (by omega));go_wp2_with fail
       refine(sym_b g cap N d0 w0 R HN.out hsz gf cf eg HC.out HO.out N a m b dj _ (by omega) HDK.out S1.out (by omega) (by omega) hlt2 (by rw[←hm];exact HTW.out.1) (by have:=HTW.out.2.1;rwa [hm,show a+2*bs=b by omega]at this)).mono ?_
       rintro e w2 ⟨rfl,d1,e1,e2,e3,e4⟩;have HX:Hid (PermIn 0 N d d1∧Pre (ltOf cf) c2 d1 b∧Suf (ltOf cf) bs N d1 b):=aa ⟨permIn_trans _ _ _ 0 N HPM.out (permIn_mono dj d1 a b 0 N (aE _) hlt2 (by rw[HDK.out];exact aj _) e3),by rw[←hb];exact .snoc (HPS.out.1.cong (fun k hk=>e3.2.1 k (.inl hk))) (by rw[hb];exact e4),by have:=HTW.out.2.2;rw[show a+2*bs=b by omega]at this;exact this.cong (fun k hk=>e3.2.1 k (.inr hk))⟩;have HD1:=aa e1;have S2:Aside (SWK bkgC 4 w0 g 0 d1 w2):=e2;clear e1 e2 e3 e4 S1 HPM HPS HTW;go_wp2
       go_roundw
       case rel=>exact⟨b,d1,hlt2,rfl,by rw[hb3],HD1,S2,aa HX.out.1,aa HX.out.2⟩
       case measure=>simp[intOf];omega
      ·have k2:¬(b:Int)≤(N:Int):=by omega
       by_cases hm2:m<N
       ·have k3:(m:Int)<(N:Int):=by omega
        have HTW:=aa (HPS.out.2.end2 (by omega) (by omega));go_wp2_with fail
        refine(sym_b g cap N d0 w0 R HN.out hsz gf cf eg HC.out HO.out N a m N dj _ (by omega) HDK.out S1.out (by omega) hm2 (aj _) (by rw[←hm];exact HTW.out.1) (by rw[←hm];exact HTW.out.2)).mono ?_
        rintro e w2 ⟨rfl,d1,e1,e2,e3,e4⟩;have HX:Hid (PermIn 0 N d d1∧Suf (ltOf cf) c2 N d1 0):=aa ⟨permIn_trans _ _ _ 0 N HPM.out (permIn_mono dj d1 a N 0 N (aE _) (aj _) (by rw[HDK.out];exact aj _) e3),Suf.all (HPS.out.1.cong (fun k hk=>e3.2.1 k (.inl hk))) (.last ha (by omega) e4) ha⟩;have HD1:=aa e1;have S2:Aside (SWK bkgC 4 w0 g 0 d1 w2):=e2;clear e1 e2 e3 e4 S1 HPM HPS HTW;go_wp2
        go_roundw
        case rel=>exact⟨c2,d1,by omega,by omega,rfl,HD1,S2,aa HX.out.1,aa HX.out.2⟩
        case measure=>simp[intOf];omega
       ·have k3:¬(m:Int)<(N:Int):=by omega
        have HX:Hid (Suf (ltOf cf) c2 N dj 0):=aa (Suf.all HPS.out.1 (.last ha (by omega) (HPS.out.2.end1 (by omega))) ha);go_wp2
        go_roundw
        case rel=>exact⟨c2,dj,by omega,by omega,rfl,HDK,S1,HPM,HX⟩
        case measure=>simp[intOf];omega
    ·have k1:¬(bs:Int)<(N:Int):=by omega
     go_wp2
     go_end0
     exact⟨rfl,dk,HDK.out,S1.out,HPM.out,HSF.out.end1 (by omega)⟩
end
section
instance :Inhabited Lbl:=⟨⟨0,0,0,0⟩⟩
open Go.Sort in
def GrowF (w w':World):Prop:=∃q os',w'=grow (w.drewN q) os'
theorem GrowF.refl (w:World):GrowF w w:=⟨0,#[],by unfold Go.Sort.grow;simp[World.drewN]⟩
theorem GrowF.alloc {w w':World} (h:GrowF w w') (o:Obj):GrowF w (w'.alloc o):=by
 obtain⟨q,os,rfl⟩:=h;exact⟨q,os++#[o],by rw[Go.Sort.alloc_eq_grow,Go.Sort.grow_grow]⟩
theorem GrowF.drew {w w':World} (h:GrowF w w'):GrowF w w'.drew:=by
 obtain⟨q,os,rfl⟩:=h;exact⟨q+1,os,rfl⟩
theorem ltL (x y:Lbl):Go.Proofs.ltOf cmpL x y=decide (x.tm<y.tm∨(x.tm=y.tm∧(x.nd<y.nd∨(x.nd=y.nd∧x.fr<y.fr)))):=by
 unfold Go.Proofs.ltOf cmpL;have h0:(cmpI x.tm y.tm<0↔x.tm<y.tm)∧(cmpI x.tm y.tm=0↔x.tm=y.tm):=⟨by unfold cmpI;split<;>(try split)<;>omega,dV⟩
 have h1:(cmpI x.nd y.nd<0↔x.nd<y.nd)∧(cmpI x.nd y.nd=0↔x.nd=y.nd):=⟨by unfold cmpI;split<;>(try split)<;>omega,dV⟩
 have h2:(cmpI x.fr y.fr<0↔x.fr<y.fr)∧(cmpI x.fr y.fr=0↔x.fr=y.fr):=⟨by unfold cmpI;split<;>(try split)<;>omega,dV⟩
 generalize cmpI x.tm y.tm=c0 at*
 generalize cmpI x.nd y.nd=c1 at*
 generalize cmpI x.fr y.fr=c2 at*
 simp only[orL];apply decide_eq_decide.2
 split
 ·split
  ·split<;>omega
  ·omega
 ·omega
theorem swoL:Go.Sort.SWO (Go.Proofs.ltOf cmpL) where
 irrefl x:=by rw[ltL];simp
 trans x y z h1 h2:=by rw[ltL]at*;simp only[decide_eq_true_eq]at*;omega
 ntrans x y z h1 h2:=by rw[ltL]at*;simp only[decide_eq_false_iff_not]at*;omega
theorem pP (a b:Lbl) (w:World):Calls Tryz.prog 120 #[.agg #[.int .i64 a.nd,.int .i64 a.fr,.int .i64 a.tt,.int .i64 a.tm],.agg #[.int .i64 b.nd,.int .i64 b.fr,.int .i64 b.tt,.int .i64 b.tm]] w fun e w'=>e= .returned (.int .i64 (cmpL a b))∧GrowF w w':=by
 obtain⟨c0,hc0⟩:=cR (cmpI a.tm b.tm)
 obtain⟨c1,hc1⟩:=cR (cmpI a.nd b.nd)
 obtain⟨c2,hc2⟩:=cR (cmpI a.fr b.fr)
 obtain⟨r,hr⟩:=cR (orL [c0,c1,c2])
 rw[show cmpL a b=r from by unfold cmpL;rw[hc0,hc1,hc2,hr]];have HC0:=aa hc0;have HC1:=aa hc1;have HC2:=aa hc2;have HR:=aa hr;clear hr hc0 hc1 hc2;go_enter Tryz.func120,Tryz.ntmps120
 go_upto_region 1 with fail
 obtain⟨W,hW⟩:=cR ((w.alloc (.cells #[.int .i64 a.nd,.int .i64 a.fr,.int .i64 a.tt,.int .i64 a.tm] 153)).alloc (.cells #[.int .i64 b.nd,.int .i64 b.fr,.int .i64 b.tt,.int .i64 b.tm] 153))
 rw[hW];have hG:GrowF w W:=by rw[←hW];exact((GrowF.refl w).alloc _).alloc _
 have HGW:=aa hG;clear hG;have GA:W.heap[w.heap.size]? =some (.cells #[.int .i64 a.nd,.int .i64 a.fr,.int .i64 a.tt,.int .i64 a.tm] 153 (0,0)):=by rw[←hW];exact(ak _ _ _ (by simp)).trans cW
 have GB:W.heap[w.heap.size+1]? =some (.cells #[.int .i64 b.nd,.int .i64 b.fr,.int .i64 b.tt,.int .i64 b.tm] 153 (0,0)):=by rw[←hW];exact cY (by simp)
 have hB:Below w.heap.size w W:=by rw[←hW];exact cZ
 have zW:w.heap.size+1<W.heap.size:=by rw[←hW];simp
 clear hW;have ca:=fun o=>cU GA o
 have cb:=fun o=>cU GB o
 refine dd (fun V=>(∀o,V.cell? ⟨w.heap.size,o,none⟩=(#[.int .i64 a.nd,.int .i64 a.fr,.int .i64 a.tt,.int .i64 a.tm])[o]?)∧(∀o,V.cell? ⟨w.heap.size+1,o,none⟩=(#[.int .i64 b.nd,.int .i64 b.fr,.int .i64 b.tt,.int .i64 b.tm])[o]?)) [0,1,0,1,2,0,1,0,1,2,0,1,0,1,3,3,3,0] [0,1,2,3,5,6,7,8,10,11,12,13,4,9,14,15,16,17] (by kernel_rfl) (by kernel_rfl) ?_ ?_
 case refine_1=>exact⟨ca,cb⟩
 (iterate 12 (refine cX rfl (by decide) (by rfl) (fun w1 hS=>by(try(have hS:=hS rfl;obtain hS:=hS;repeat (obtain⟨_,hS⟩:=hS)));go_simp;rfl) ?_;simp only[Act.put,ae,af,ag]))
 (refine dA rfl rfl (by rfl) (fun K hK=>?_);go_simp)
 refine(dD a.tm b.tm _).mono ?_
 rw[HC0.out];rintro e w3 ⟨rfl,rfl⟩
 (refine hK _ _ (by exact⟨ca,cb⟩) ?_;clear hK K;(try simp only[Act.put,ae,af,ag]))
 (refine dA rfl rfl (by rfl) (fun K hK=>?_);go_simp)
 refine(dD a.nd b.nd _).mono ?_
 rw[HC1.out];rintro e w3 ⟨rfl,rfl⟩
 (refine hK _ _ (by exact⟨ca,cb⟩) ?_;clear hK K;(try simp only[Act.put,ae,af,ag]))
 (refine di rfl rfl (by rfl) (fun K hK=>?_);go_simp)
 refine(dD a.fr b.fr _).mono ?_
 rw[HC2.out];rintro e w3 ⟨rfl,rfl⟩
 (refine hK _ _ ?_;clear hK K;(try simp only[Act.put,ae,af,ag]))
 (refine di rfl rfl (by rfl) (fun K hK=>?_);go_simp)
 (refine hK _ _ ?_;clear hK K;(try simp only[Act.put,ae,af,ag]))
 (refine di rfl rfl (by rfl) (fun K hK=>?_);go_simp)
 refine(fS [c0,c1,c2] _ _ (RRow.ints (l:=[c0,c1,c2]) (t:=3) ?_ rfl ?_ (by simp))).mono ?_
 ·exact cW
 ·simp
 rw[HR.out];rintro e w8 ⟨rfl,rfl⟩
 (refine hK _ _ ?_;clear hK K;(try simp only[Act.put,ae,af,ag]))
 (iterate 1 (refine cX rfl (by decide) (by rfl) (fun w1 hS=>by(try(have hS:=hS rfl;obtain hS:=hS;repeat (obtain⟨_,hS⟩:=hS)));go_simp;rfl) ?_;simp only[Act.put,ae,af,ag]))
 refine du ?_
 go_wp2
 go_ret
 exact⟨rfl,by repeat (first | exact HGW.out | refine GrowF.alloc ?_ _ | refine GrowF.drew ?_)⟩
theorem mW (x:Lbl) (k:Nat) (hk:k<4):(lblC x)[k]? =some (lblC x)[k]! :=by
 rcases(by omega:k=0∨k=1∨k=2∨k=3)with rfl | rfl | rfl | rfl<;>rfl
open Go.Sort in
theorem holds_lbs {w:World} {base g c:Nat} {M:List Lbl} {e:TypeId} (ho:w.ownsRow base e 4 (.slice (some ⟨g,0,none⟩) M.length c) M.length (lbs M)):HoldsK lblC 4 w g 0 M.toArray:=by
 intro j hj;have hj2:j<M.length*4:=by simpa using hj
 refine⟨?_,by have:=ho.frozenAt (g:=g) j;simpa using this⟩
 have hx:M[j / 4]? =some M[j / 4]! :=by
  rw[am (by omega),getElem!_pos M _ (by omega)]
 have hg:=jK M (j / 4) (j % 4) (by omega) hx;rw[show j / 4*4+j % 4=j by omega]at hg;have h2:(lbs M)[j]? =some ((lblC M[j / 4]!)[j % 4]!):=by
  rw[hg];exact mW _ _ (by omega)
 have:=ho.cells (g:=g) rfl j _ h2;rw[fj]at this;rw[this];have:=get_flatK lblC 4 M.toArray j (by simpa using hj2);rw[id,this];simp
def SortlPost (M:List Lbl) (u:Value) (B:Nat) (w:World) (e:Ending) (w':World):Prop:=e= .returned (.tuple #[])∧∃M':List Lbl,M'.Perm M∧RRow lblC 4 w' w'.heap.size u M'∧Below B w w'∧∀q,q<w.heap.size→u.ownBlock≠some q→w'.heap[q]? =w.heap[q]?
open Go.Sort Go.Shelf in
theorem sortl_any (M:List Lbl) (u:Value) (base:Nat) (w:World) (ho:w.ownsRow base 153 4 u M.length (lbs M)) (hl:M.length≤1000000000000) (hB:base≤w.heap.size):
  Calls Tryz.prog 125 #[u,.func (.func 120) #[] #[]] w (SortlPost M u base w):=by
 cases hM:M with
 | nil=>
  subst hM;obtain⟨a,c,rfl⟩:=dg ho;exact(Tryz.slices_SortFunc_none_f125 a c _ w).mono fun e w' ⟨h1,h2⟩=>⟨h1,[],List.Perm.refl _,by rw[h2];exact RRow.of_lbs ho,by rw[h2];exact ap _ _,fun q _ _=>by rw[h2]⟩
 | cons x r=>
  have hp:0<M.length:=by rw[hM];simp
  rw[←hM];clear hM;obtain⟨g,c,rfl⟩:=fd ho hp;have hgl:=(ho.lt g rfl).2;have hgb:=(ho.lt g rfl).1;have hcc:M.length≤c∧c≤maxLen:=by
   rcases ho.2 with⟨h0,_⟩ | ⟨g',cap,cur,h0,hb,hg,hn,hm,_⟩
   ·cases h0
   ·injection h0 with h0 h1 h2
    subst h2;exact⟨hn,hm⟩
  have hH:=holds_lbs ho;have hcon:=AnyQ.slices_SortFunc Tryz.laysF06_f125 4 Tryz.isAgg153 Tryz.sizeOf153 lblC fA (fun x v hv=>by simp[lblC]at hv;rcases hv with rfl | rfl | rfl | rfl<;>rfl) cmpL swoL 120 #[] g 0 c M.toArray w
   (enters_of Tryz.func120 (by kernel_rfl) rfl) (fun _ _ _ _ x y=>pP x y _) hH hgl (by simp;omega)
  refine Calls.mono hcon ?_
  rintro e w' ⟨rfl,d',n,os,hp1,hs1,rfl⟩;have hsz:d'.size=M.toArray.size:=hp1.1;have hszM:d'.size=M.length:=by simpa using hsz
  have h1:d'.toList.Perm M:=by
   have:=hp1.2.2;have e1:d'.extract 0 M.toArray.size=d':=by rw[←hp1.1];simp
   rw[e1]at this;simpa using this
  have hkeep:∀q,q<w.heap.size→q≠g→(grow (putRowK lblC 4 (Sort.ahead w n) g 0 d') os).heap[q]? =w.heap[q]?:=by
   intro q hq hne;refine(heap_grow_old _ _ (by rw[size_putRowK];exact hq)).trans ?_
   unfold putRowK putRow mapBlock;rw[Array.getElem?_modify,if_neg (Ne.symm hne)];rfl
  refine⟨rfl,d'.toList,h1,?_,?_,fun q hq hne=>hkeep q hq (fun e=>hne (by rw[e];rfl))⟩
  ·have hput:=holdsK_putRowK (enc:=lblC) (k:=4) (Sort.ahead w n) g 0 _ d' (holdsK_ahead _ _ _ n _ _ _ hH) hsz
   have hgl2:g<(putRowK lblC 4 (Sort.ahead w n) g 0 d').heap.size:=by rw[size_putRowK];exact hgl
   have hgrow:=holdsK_grow (enc:=lblC) (k:=4) _ os g 0 _ hgl2 hput;refine⟨some ⟨g,0,none⟩,c,by simp[hszM],by simpa [hszM]using hcc.1,hcc.2,(fun h=>by cases h),fun _=>⟨g,0,rfl,by show g<(grow _ os).heap.size;unfold grow;simp only[Array.size_append];omega,fun i x hx j v hv=>?_⟩⟩
   have hi:i<d'.size:=by simpa using(aw.1 hx).1
   have hj:j<4:=by have:=(aw.1 hv).1;rwa [fA]at this
   have h2:=(hgrow (i*4+j) (by rw[size_flatK];omega)).1;rw[get_flatK lblC 4 d' _ (by omega),show(i*4+j) / 4=i by omega,show(i*4+j) % 4=j by omega]at h2;have hx':d'[i]! =x:=by
    rw[getElem!_pos d' i hi];have:=(aw.1 hx).2;simpa using this
   rw[hx']at h2;rw[show 0+i*4+j=0+(i*4+j)by omega];refine h2.trans ?_
   have:=mW x j hj;rw[hv]at this;rw[id];exact this.symm
  ·refine⟨rfl,rfl,rfl,?_,fun k hk=>?_⟩
   ·show w.heap.size≤(grow (putRowK lblC 4 (Sort.ahead w n) g 0 d') os).heap.size
    unfold grow;simp only[Array.size_append,size_putRowK];show w.heap.size≤w.heap.size+_
    omega
   ·exact hkeep k (by omega) (by omega)
end
section
open Go.Sort Go.Shelf
theorem iK {α:Type} [Inhabited α] (enc:α→List Value) (k:Nat) (hk:∀x,(enc x).length=k) (hp:0<k) (d:Array α):(flatK enc k d).toList=d.toList.flatMap enc:=by
 apply List.ext_getElem?
 intro j;have hl:=ef enc k hk d.toList;have hl2:(d.toList.flatMap enc).length=d.size*k:=by rw[hl,cQ]
 by_cases hj:j<d.size*k
 ·have h1:=get_flatK enc k d j hj
  have hq:j / k<d.size:=Nat.div_lt_of_lt_mul (by rw[Nat.mul_comm];exact hj);have hm:j % k<k:=Nat.mod_lt _ hp;have h2:=eG enc k hk d.toList (j / k) (j % k) hm;rw[Nat.mul_comm,Nat.div_add_mod]at h2;rw[h2,bw,bI (by simpa using hj),bw,bI hq];rw[getElem!_pos _ j (by simpa using hj),getElem!_pos d _ hq]at h1;rw[h1];simp only[Option.bind_some];rw[getElem!_pos _ _ (by rw[hk];exact hm),am (by rw[hk];exact hm)]
 ·rw[bj (by simp;omega),bj (by rw[hl2];omega)]
theorem l8 {α:Type} [Inhabited α] {enc:α→List Value} {k:Nat} (hk:∀x,(enc x).length=k) (hp:0<k) {w0 W:World} {base g cap:Nat} {T:TypeId} {M:List α} {d:Array α} (ho:w0.ownsRow base T k (.slice (some ⟨g,0,none⟩) M.length cap) M.length (M.flatMap enc)) (hS:SWK enc k w0 g 0 d W) (hz:d.size=M.length):
  W.ownsRow base T k (.slice (some ⟨g,0,none⟩) M.length cap) M.length (d.toList.flatMap enc)∧Below base w0 W∧∀q,q<w0.heap.size→q≠g→W.heap[q]? =w0.heap[q]?:=by
 obtain⟨n,os,rfl⟩:=hS;rcases ho.2 with⟨h0,_⟩ | ⟨g',cap',cur,h0,hb,hg,hn,hm,hs,ht⟩
 ·cases h0
 injection h0 with h0 h1 h2
 injection h0 with h0
 injection h0 with h0
 subst h0 h2;have hgl:g<w0.heap.size:=(ai.1 hg).1;have hF:(flatK enc k d).size=M.length*k:=by rw[size_flatK,hz]
 have hle:M.length*k≤cur.size:=by rw[hs];exact Nat.mul_le_mul_right k hn
 have hkeep:∀q,q<w0.heap.size→q≠g→(sortWorldK enc k w0 g 0 n d os).heap[q]? =w0.heap[q]?:=by
  intro q hq hne;unfold sortWorldK;refine(heap_grow_old _ _ (by rw[size_putRowK];exact hq)).trans ?_
  unfold putRowK putRow mapBlock;rw[Array.getElem?_modify,if_neg (Ne.symm hne)];rfl
 have hblk:(sortWorldK enc k w0 g 0 n d os).heap[g]? =some (.cells (putCells id 0 (flatK enc k d) cur) T (0,0)):=by
  unfold sortWorldK;refine(heap_grow_old _ _ (by rw[size_putRowK];exact hgl)).trans ?_
  unfold putRowK putRow mapBlock;rw[Array.getElem?_modify,if_pos rfl];show Option.map _ (w0.heap[g]?)=_
  rw[hg];rfl
 have hsz:w0.heap.size≤(sortWorldK enc k w0 g 0 n d os).heap.size:=by
  unfold sortWorldK grow;simp only[Array.size_append,size_putRowK];show w0.heap.size≤w0.heap.size+_
  omega
 refine⟨⟨by rw[ef enc k hk,cQ,hz],.inr ⟨g,cap,_,rfl,hb,hblk,hn,hm,by simp[putCells,hs],?_⟩⟩,⟨rfl,rfl,rfl,hsz,fun q hq=>hkeep q (by omega) (by omega)⟩,hkeep⟩
 rw[←iK enc k hk hp];apply List.ext_getElem?
 intro j;by_cases hj:j<M.length*k
 ·rw[List.getElem?_take_of_lt hj,bw,bw]
  simp[putCells,show j<cur.size by omega,show j<d.size*k by rw[hz];exact hj,flatK]
 ·rw[List.getElem?_take_eq_none (by omega),bj (by rw[cQ,hF];omega)]
theorem iL {α:Type} [Inhabited α] {enc:α→List Value} {k:Nat} (hk:∀x,(enc x).length=k) (hp:0<k) (h1:∀x,∀v∈enc x,v.oneCell'=true) {w0:World} {base g cap:Nat} {T:TypeId} {M:List α} (ho:w0.ownsRow base T k (.slice (some ⟨g,0,none⟩) M.length cap) M.length (M.flatMap enc)):RowK enc k w0 g 0 M.toArray:=by
 refine⟨hk,h1,fun j hj=>?_,(ho.lt g rfl).2⟩
 have hj2:j<M.length*k:=by simpa using hj
 refine⟨?_,by have:=ho.frozenAt (g:=g) j;simpa using this⟩
 have h2:(M.flatMap enc)[j]? =some (flatK enc k M.toArray)[j]! :=by
  have:=iK enc k hk hp M.toArray;rw[show M.flatMap enc=M.toArray.toList.flatMap enc from rfl,←this,bw,bI (by simpa using hj),getElem!_pos _ j (by simpa using hj)]
 have:=ho.cells (g:=g) rfl j _ h2;rw[fj]at this;rw[this];rfl
theorem jC {α:Type} [Inhabited α] {d d':Array α} (h:PermIn 0 d.size d d'):d'.toList.Perm d.toList:=by
 have h1:=h.1;have h2:=h.2.2;rw[show d.extract 0 d.size=d by simp,←h1,show d'.extract 0 d'.size=d' by simp]at h2;exact h2
theorem jD {α:Type} [Inhabited α] {lt:α→α→Bool} {d:Array α} (h:SortedIn lt 0 d.size d):d.toList.Pairwise (fun x y=>lt y x=false):=by
 rw[cJ];intro i j hi hj hij;have:=h i j (aE _) hij (by simpa using hj);rw[getElem!_pos d i (by simpa using hi),getElem!_pos d j (by simpa using hj)]at this;simpa using this
theorem ltB (x y:Bkg):Go.Proofs.ltOf cmpB x y=decide (x.ct<y.ct∨(x.ct=y.ct∧(x.bg<y.bg))):=by
 unfold Go.Proofs.ltOf cmpB;have h0:(cmpI x.ct y.ct<0↔x.ct<y.ct)∧(cmpI x.ct y.ct=0↔x.ct=y.ct):=⟨by unfold cmpI;split<;>(try split)<;>omega,dV⟩
 have h1:(cmpI x.bg y.bg<0↔x.bg<y.bg)∧(cmpI x.bg y.bg=0↔x.bg=y.bg):=⟨by unfold cmpI;split<;>(try split)<;>omega,dV⟩
 generalize cmpI x.ct y.ct=c0 at*
 generalize cmpI x.bg y.bg=c1 at*
 simp only[orL];apply decide_eq_decide.2
 repeat' split
 all_goals omega
theorem swoB:Go.Sort.SWO (Go.Proofs.ltOf cmpB) where
 irrefl x:=by rw[ltB];simp
 trans x y z h1 h2:=by rw[ltB]at*;simp only[decide_eq_true_eq]at*;omega
 ntrans x y z h1 h2:=by rw[ltB]at*;simp only[decide_eq_false_iff_not]at*;omega
theorem stabBc (a b:Bkg) (w:World):Calls Tryz.prog 24 #[.agg #[.int .i64 a.ct,.int .i64 a.bg,.int .i64 a.en,.int .i64 a.tk],.agg #[.int .i64 b.ct,.int .i64 b.bg,.int .i64 b.en,.int .i64 b.tk]] w fun e w'=>e= .returned (.int .i64 (cmpB a b))∧GrowF w w':=by
 obtain⟨c0,hc0⟩:=cR (cmpI a.ct b.ct)
 obtain⟨c1,hc1⟩:=cR (cmpI a.bg b.bg)
 obtain⟨r,hr⟩:=cR (orL [c0,c1])
 rw[show cmpB a b=r from by unfold cmpB;rw[hc0,hc1,hr]];have HC0:=aa hc0;have HC1:=aa hc1;have HR:=aa hr;clear hr hc0 hc1;go_enter Tryz.func24,Tryz.ntmps24
 go_upto_region 1 with fail
 obtain⟨W,hW⟩:=cR ((w.alloc (.cells #[.int .i64 a.ct,.int .i64 a.bg,.int .i64 a.en,.int .i64 a.tk] 53)).alloc (.cells #[.int .i64 b.ct,.int .i64 b.bg,.int .i64 b.en,.int .i64 b.tk] 53))
 rw[hW];have hG:GrowF w W:=by rw[←hW];exact((GrowF.refl w).alloc _).alloc _
 have HGW:=aa hG;clear hG;have GA:W.heap[w.heap.size]? =some (.cells #[.int .i64 a.ct,.int .i64 a.bg,.int .i64 a.en,.int .i64 a.tk] 53 (0,0)):=by rw[←hW];exact(ak _ _ _ (by simp)).trans cW
 have GB:W.heap[w.heap.size+1]? =some (.cells #[.int .i64 b.ct,.int .i64 b.bg,.int .i64 b.en,.int .i64 b.tk] 53 (0,0)):=by rw[←hW];exact cY (by simp)
 have hB:Below w.heap.size w W:=by rw[←hW];exact cZ
 have zW:w.heap.size+1<W.heap.size:=by rw[←hW];simp
 clear hW;have ca:=fun o=>cU GA o
 have cb:=fun o=>cU GB o
 refine dd (fun V=>(∀o,V.cell? ⟨w.heap.size,o,none⟩=(#[.int .i64 a.ct,.int .i64 a.bg,.int .i64 a.en,.int .i64 a.tk])[o]?)∧(∀o,V.cell? ⟨w.heap.size+1,o,none⟩=(#[.int .i64 b.ct,.int .i64 b.bg,.int .i64 b.en,.int .i64 b.tk])[o]?)) [0,1,0,1,2,0,1,0,1,3,3,3,0] [0,1,2,3,5,6,7,8,4,9,10,11,12] (by kernel_rfl) (by kernel_rfl) ?_ ?_
 case refine_1=>exact⟨ca,cb⟩
 (iterate 8 (refine cX rfl (by decide) (by rfl) (fun w1 hS=>by(try(have hS:=hS rfl;obtain hS:=hS;repeat (obtain⟨_,hS⟩:=hS)));go_simp;rfl) ?_;simp only[Act.put,ae,af,ag]))
 (refine dA rfl rfl (by rfl) (fun K hK=>?_);go_simp)
 refine(dD a.ct b.ct _).mono ?_
 rw[HC0.out];rintro e w3 ⟨rfl,rfl⟩
 (refine hK _ _ (by exact⟨ca,cb⟩) ?_;clear hK K;(try simp only[Act.put,ae,af,ag]))
 (refine di rfl rfl (by rfl) (fun K hK=>?_);go_simp)
 refine(dD a.bg b.bg _).mono ?_
 rw[HC1.out];rintro e w3 ⟨rfl,rfl⟩
 (refine hK _ _ ?_;clear hK K;(try simp only[Act.put,ae,af,ag]))
 (refine di rfl rfl (by rfl) (fun K hK=>?_);go_simp)
 (refine hK _ _ ?_;clear hK K;(try simp only[Act.put,ae,af,ag]))
 (refine di rfl rfl (by rfl) (fun K hK=>?_);go_simp)
 refine(fS [c0,c1] _ _ (RRow.ints (l:=[c0,c1]) (t:=3) ?_ rfl ?_ (by simp))).mono ?_
 ·exact cW
 ·simp
 rw[HR.out];rintro e w8 ⟨rfl,rfl⟩
 (refine hK _ _ ?_;clear hK K;(try simp only[Act.put,ae,af,ag]))
 (iterate 1 (refine cX rfl (by decide) (by rfl) (fun w1 hS=>by(try(have hS:=hS rfl;obtain hS:=hS;repeat (obtain⟨_,hS⟩:=hS)));go_simp;rfl) ?_;simp only[Act.put,ae,af,ag]))
 refine du ?_
 go_wp2
 go_ret
 exact⟨rfl,by repeat (first | exact HGW.out | refine GrowF.alloc ?_ _ | refine GrowF.drew ?_)⟩
theorem stabLc (a b:Bkg) (w:World):Calls Tryz.prog 98 #[.agg #[.int .i64 a.ct,.int .i64 a.bg,.int .i64 a.en,.int .i64 a.tk],.agg #[.int .i64 b.ct,.int .i64 b.bg,.int .i64 b.en,.int .i64 b.tk]] w fun e w'=>e= .returned (.int .i64 (cmpB a b))∧GrowF w w':=by
 obtain⟨c0,hc0⟩:=cR (cmpI a.ct b.ct)
 obtain⟨c1,hc1⟩:=cR (cmpI a.bg b.bg)
 obtain⟨r,hr⟩:=cR (orL [c0,c1])
 rw[show cmpB a b=r from by unfold cmpB;rw[hc0,hc1,hr]];have HC0:=aa hc0;have HC1:=aa hc1;have HR:=aa hr;clear hr hc0 hc1;go_enter Tryz.func98,Tryz.ntmps98
 go_upto_region 1 with fail
 obtain⟨W,hW⟩:=cR ((w.alloc (.cells #[.int .i64 a.ct,.int .i64 a.bg,.int .i64 a.en,.int .i64 a.tk] 53)).alloc (.cells #[.int .i64 b.ct,.int .i64 b.bg,.int .i64 b.en,.int .i64 b.tk] 53))
 rw[hW];have hG:GrowF w W:=by rw[←hW];exact((GrowF.refl w).alloc _).alloc _
 have HGW:=aa hG;clear hG;have GA:W.heap[w.heap.size]? =some (.cells #[.int .i64 a.ct,.int .i64 a.bg,.int .i64 a.en,.int .i64 a.tk] 53 (0,0)):=by rw[←hW];exact(ak _ _ _ (by simp)).trans cW
 have GB:W.heap[w.heap.size+1]? =some (.cells #[.int .i64 b.ct,.int .i64 b.bg,.int .i64 b.en,.int .i64 b.tk] 53 (0,0)):=by rw[←hW];exact cY (by simp)
 have hB:Below w.heap.size w W:=by rw[←hW];exact cZ
 have zW:w.heap.size+1<W.heap.size:=by rw[←hW];simp
 clear hW;have ca:=fun o=>cU GA o
 have cb:=fun o=>cU GB o
 refine dd (fun V=>(∀o,V.cell? ⟨w.heap.size,o,none⟩=(#[.int .i64 a.ct,.int .i64 a.bg,.int .i64 a.en,.int .i64 a.tk])[o]?)∧(∀o,V.cell? ⟨w.heap.size+1,o,none⟩=(#[.int .i64 b.ct,.int .i64 b.bg,.int .i64 b.en,.int .i64 b.tk])[o]?)) [0,1,0,1,2,0,1,0,1,3,3,3,0] [0,1,2,3,5,6,7,8,4,9,10,11,12] (by kernel_rfl) (by kernel_rfl) ?_ ?_
 case refine_1=>exact⟨ca,cb⟩
 (iterate 8 (refine cX rfl (by decide) (by rfl) (fun w1 hS=>by(try(have hS:=hS rfl;obtain hS:=hS;repeat (obtain⟨_,hS⟩:=hS)));go_simp;rfl) ?_;simp only[Act.put,ae,af,ag]))
 (refine dA rfl rfl (by rfl) (fun K hK=>?_);go_simp)
 refine(dD a.ct b.ct _).mono ?_
 rw[HC0.out];rintro e w3 ⟨rfl,rfl⟩
 (refine hK _ _ (by exact⟨ca,cb⟩) ?_;clear hK K;(try simp only[Act.put,ae,af,ag]))
 (refine di rfl rfl (by rfl) (fun K hK=>?_);go_simp)
 refine(dD a.bg b.bg _).mono ?_
 rw[HC1.out];rintro e w3 ⟨rfl,rfl⟩
 (refine hK _ _ ?_;clear hK K;(try simp only[Act.put,ae,af,ag]))
 (refine di rfl rfl (by rfl) (fun K hK=>?_);go_simp)
 (refine hK _ _ ?_;clear hK K;(try simp only[Act.put,ae,af,ag]))
 (refine di rfl rfl (by rfl) (fun K hK=>?_);go_simp)
 refine(fS [c0,c1] _ _ (RRow.ints (l:=[c0,c1]) (t:=3) ?_ rfl ?_ (by simp))).mono ?_
 ·exact cW
 ·simp
 rw[HR.out];rintro e w8 ⟨rfl,rfl⟩
 (refine hK _ _ ?_;clear hK K;(try simp only[Act.put,ae,af,ag]))
 (iterate 1 (refine cX rfl (by decide) (by rfl) (fun w1 hS=>by(try(have hS:=hS rfl;obtain hS:=hS;repeat (obtain⟨_,hS⟩:=hS)));go_simp;rfl) ?_;simp only[Act.put,ae,af,ag]))
 refine du ?_
 go_wp2
 go_ret
 exact⟨rfl,by repeat (first | exact HGW.out | refine GrowF.alloc ?_ _ | refine GrowF.drew ?_)⟩
theorem ins0_b (p:Option Addr) (cap:Nat) (fv:Value) (w:World):Calls Tryz.prog 110 #[.slice p 0 cap,.int .i64 0,.int .i64 0,fv] w fun e w'=>e= .returned (.tuple #[])∧w'=w:=AnyF.insertionSortCmpFunc_none Tryz.laysF020_f110 p cap fv w
theorem stab0_b (p:Option Addr) (cap:Nat) (fv:Value) (w:World):Calls Tryz.prog 66 #[.slice p 0 cap,.int .i64 0,fv] w fun e w'=>e= .returned (.tuple #[])∧w'=w:=by
 go_enter Tryz.func66,Tryz.ntmps66
 go_wp2
 go_loopw [7,8] (fun av bv wr=>av= .int .i64 0∧bv= .int .i64 20∧wr=w) (fun _ _ _=>0)
 case atStart=>exact⟨rfl,rfl,rfl⟩
 case round=>
  obtain⟨rfl,rfl,rfl⟩:=hrel;go_wp2_with fail
  refine(ins0_b p cap fv _).mono ?_
  rintro e w2 ⟨rfl,rfl⟩;go_wp2
  go_loopw [6] (fun sv w3=>sv= .int .i64 20∧w3=w2) (fun _ _=>0)
  case atStart=>exact⟨rfl,rfl⟩
  case round=>
   obtain⟨rfl,rfl⟩:=hrel;go_wp2
   go_end0
   exact⟨rfl,rfl⟩
def StabPostB (M:List Bkg) (base:Nat) (u:Value) (w:World) (e:Ending) (w':World):Prop:=e= .returned (.tuple #[])∧∃M':List Bkg,M'.Perm M∧M'.Pairwise (fun x y=>ltOf cmpB y x=false)∧w'.ownsRow base 53 4 u M'.length (M'.flatMap bkgC)∧Below base w w'∧∀q,q<w.heap.size→u.ownBlock≠some q→w'.heap[q]? =w.heap[q]?
theorem o4 (gf:Nat) (eg:∀args w,(callFunc gf args).run Tryz.prog w= .ok (.enter gf args) w) (hcf:∀(x y:Bkg) (w:World),Calls Tryz.prog gf #[.agg (bkgC x).toArray,.agg (bkgC y).toArray] w fun e w'=>e= .returned (.int .i64 (cmpB x y))∧GrowF w w') (M:List Bkg) (u:Value) (base:Nat) (w:World) (ho:w.ownsRow base 53 4 u M.length (M.flatMap bkgC)) (hl:M.length<1000000000000):
  Calls Tryz.prog 23 #[u,.func (.func gf) #[] #[]] w (StabPostB M base u w):=by
 obtain⟨a,cap,rfl⟩:=dg ho
 cases hM:M with
 | nil=>
  subst hM;go_enter Tryz.func23,Tryz.ntmps23
  go_wp2_with fail
  refine(stab0_b a cap (.func (.func gf) #[] #[]) w).mono ?_
  rintro e w2 ⟨rfl,rfl⟩;go_wp2
  go_end0
  exact⟨rfl,[],List.Perm.refl _,List.Pairwise.nil,ho,ap _ _,fun q _ _=>rfl⟩
 | cons x r=>
  have hp:0<M.length:=by rw[hM];simp
  rw[←hM];clear hM;obtain⟨g,c2,he⟩:=fd ho hp;injection he with he1 he2 he3
  subst he1 he3;have HO:=aa ho;have R:RowK bkgC 4 w g 0 M.toArray:=iL dL (by omega) (fun x v hv=>by simp[bkgC]at hv;rcases hv with rfl | rfl | rfl | rfl<;>rfl) ho;have hC:CmpLays Tryz.prog gf #[] bkgC 4 cmpB g 0 M.toArray.size w:=fun _ _ _ _ x y=>hcf x y _
  have hSt:=stab_b g cap M.length M.toArray w R (by simp) hl gf cmpB eg hC swoB M.toArray w (by simp) (SWK.start R.hH);have HS:=aa hSt;clear hSt hC R ho;go_enter Tryz.func23,Tryz.ntmps23
  go_wp2_with fail
  refine HS.out.mono ?_
  rintro e w2 ⟨rfl,d',h1,h2,h3,h4⟩;have HX:=aa (cS h1 (cS h2 (cS h3 h4)));clear h1 h2 h3 h4;go_wp2
  go_end0
  obtain⟨h1,h2,h3,h4⟩:=HX.out;obtain⟨k1,k2,k3⟩:=l8 dL (by omega) HO.out h2 h1;have h5:d'.toList.length=M.length:=by simpa using h1
  refine⟨rfl,d'.toList,?_,?_,by rw[h5];exact k1,k2,fun q hq hne=>k3 q hq (fun e=>hne (by rw[e];rfl))⟩
  ·have:=jC (d:=M.toArray) (d':=d') (by simpa using h3)
   simpa using this
  ·exact jD (by rw[h1];exact h4)
theorem stabB (M:List Bkg) (u:Value) (base:Nat) (w:World) (ho:w.ownsRow base 53 4 u M.length (M.flatMap bkgC)) (hl:M.length<1000000000000):
  Calls Tryz.prog 23 #[u,.func (.func 24) #[] #[]] w (StabPostB M base u w):=
 o4 _ (enters_of Tryz.func24 (by kernel_rfl) rfl) (fun x y w=>stabBc x y w) M u base w ho hl
theorem stabL (M:List Bkg) (u:Value) (base:Nat) (w:World) (ho:w.ownsRow base 53 4 u M.length (M.flatMap bkgC)) (hl:M.length<1000000000000):
  Calls Tryz.prog 23 #[u,.func (.func 98) #[] #[]] w (StabPostB M base u w):=
 o4 _ (enters_of Tryz.func98 (by kernel_rfl) rfl) (fun x y w=>stabLc x y w) M u base w ho hl
end
end Go.Proofs.YtfnciigbbolckaaGreat
