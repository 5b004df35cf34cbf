/- Part 15 of the proof about mailboattop.TopOthers. No condition. -/
import Derived.Test.YtfnciigbbolckaaGreatQ00
import Derived.Test.YtfnciigbbolckaaGreatQ14
set_option linter.unusedVariables false
set_option linter.unusedSimpArgs false
set_option maxRecDepth 100000
set_option maxHeartbeats 64000000
namespace Go.Proofs.YtfnciigbbolckaaGreat
open Go Go.RowKit Iv
attribute [local go_sem] Oper.semAt_some
attribute [local go_sem] pw gu B_app pv B_get B_toList
section
open Go.Sort Go.Shelf
theorem sym_b (g cap N:Nat) (d0:Array Bkg) (w0:World) (R:RowK bkgC 4 w0 g 0 d0) (hN:d0.size=N) (hsz:N<1000000000000) (gf:Nat) (cf:Bkg→Bkg→Int) (eg:∀args w,(callFunc gf args).run Tryz.prog w= .ok (.enter gf args) w) (hC:CmpLays Tryz.prog gf #[] bkgC 4 cf g 0 d0.size w0) (hO:SWO (ltOf cf)):∀(M a m b:Nat) (d:Array Bkg) (w:World),b-a≤M→d.size=N→SWK bkgC 4 w0 g 0 d w→a<m→m<b→b≤N→SortedIn (ltOf cf) a m d→SortedIn (ltOf cf) m b d→
  Calls Tryz.prog 111 #[.slice (some ⟨g,0,none⟩) N cap,.int .i64 (a:Int),.int .i64 (m:Int),.int .i64 (b:Int),.func (.func gf) #[] #[]] w fun e w'=>e= .returned (.tuple #[])∧∃d':Array Bkg,d'.size=N∧SWK bkgC 4 w0 g 0 d' w'∧PermIn a b d d'∧SortedIn (ltOf cf) a b d':=by
 have HN:=aa hN;have HC:=aa hC;have HO:=aa hO;clear hN hC hO;intro M;induction M with
 | zero=>intro a m b d w h1 _ _ h2 h3;omega
 | succ M ih=>
 intro a m b d w hM hs S h1 h2 h3 s1 s2;have S0:Aside (SWK bkgC 4 w0 g 0 d w):=S;have HD:=aa hs;have HS1:=aa s1;have HS2:=aa s2;have IH:=aa ih;clear S hs s1 s2 ih;obtain⟨LA,hLA⟩:=cR (m-a)
 have vA:IntKind.i64.wrap ((m:Int)-(a:Int))=(LA:Int):=by rw[ax];omega
 obtain⟨LB,hLB⟩:=cR (b-m)
 have vB:IntKind.i64.wrap ((b:Int)-(m:Int))=(LB:Int):=by rw[ax];omega
 by_cases cA:LA=1
 ·obtain rfl:m=a+1:=by omega
  have eA:((LA:Int)==1)=true:=beq_iff_eq.2 (by omega);obtain⟨m,hm⟩:=cR (a+1)
  rw[hm]at vA vB HS1 HS2 h1 h2 ⊢;go_enter Tryz.func111,Tryz.ntmps111
  go_wp2
  as_aux_lemma=>
  go_loopw [10,11] (fun iv jv wr=>∃(i j:Nat),m≤i∧i≤j∧j≤b∧iv= .int .i64 (i:Int)∧jv= .int .i64 (j:Int)∧Aside (SWK bkgC 4 w0 g 0 d wr)∧Hid (m<i→cf d[i-1]! d[a]! <0)∧Hid (j<b→¬cf d[j]! d[a]! <0)) (fun iv jv _=>(intOf jv).toNat - (intOf iv).toNat)
  case atStart=>exact⟨m,b,aj _,by omega,aj _,rfl,rfl,S0,aa (fun h=>absurd h (by omega)),aa (fun h=>absurd h (by omega))⟩
  case round=>
   clear S0;obtain⟨i,j,i1,i2,i3,rfl,rfl,S1,HF1,HF2⟩:=hrel;by_cases hlt:i<j
   ·have k1:(i:Int)<(j:Int):=by omega
    obtain⟨h,hh⟩:=cR ((i+j) / 2)
    have vh:((i:Int)+(j:Int)) / 2=(h:Int):=by omega
    have vh2:IntKind.i64.wrap ((i:Int)+(j:Int))=(i:Int)+(j:Int):=by rw[ax];omega
    have bh0:(0:Int)≤(h:Int):=by omega
    have bh1:(h:Int)<(N:Int):=by omega
    have bh2:h<N:=by omega
    have ba0:(0:Int)≤(a:Int):=by omega
    have ba1:(a:Int)<(N:Int):=by omega
    have ba2:a<N:=by omega
    have HDK:Hid (d.size=N):=HD;go_upto_region 5 with fail
    obtain⟨x,hx⟩:∃z,z=d[h]! :=⟨_,rfl⟩
    obtain⟨y,hy⟩:∃z,z=d[a]! :=⟨_,rfl⟩
    have x0:wr.cell? ⟨g,h*4,none⟩=some (.int .i64 x.ct):=dh S1.out R HN.out HDK.out (i:=h) (j:=0) (by omega) (by rw[←hx];rfl);have x1:wr.cell? ⟨g,h*4+1,none⟩=some (.int .i64 x.bg):=dh S1.out R HN.out HDK.out (i:=h) (j:=1) (by omega) (by rw[←hx];rfl);have x2:wr.cell? ⟨g,h*4+2,none⟩=some (.int .i64 x.en):=dh S1.out R HN.out HDK.out (i:=h) (j:=2) (by omega) (by rw[←hx];rfl);have x3:wr.cell? ⟨g,h*4+3,none⟩=some (.int .i64 x.tk):=dh S1.out R HN.out HDK.out (i:=h) (j:=3) (by omega) (by rw[←hx];rfl);have y0:wr.cell? ⟨g,a*4,none⟩=some (.int .i64 y.ct):=dh S1.out R HN.out HDK.out (i:=a) (j:=0) (by omega) (by rw[←hy];rfl);have y1:wr.cell? ⟨g,a*4+1,none⟩=some (.int .i64 y.bg):=dh S1.out R HN.out HDK.out (i:=a) (j:=1) (by omega) (by rw[←hy];rfl);have y2:wr.cell? ⟨g,a*4+2,none⟩=some (.int .i64 y.en):=dh S1.out R HN.out HDK.out (i:=a) (j:=2) (by omega) (by rw[←hy];rfl);have y3:wr.cell? ⟨g,a*4+3,none⟩=some (.int .i64 y.tk):=dh S1.out R HN.out HDK.out (i:=a) (j:=3) (by omega) (by rw[←hy];rfl);have hcl:=ge S1.out.drew HC.out (HDK.out.trans HN.out.symm) x y;obtain⟨CC,hC⟩:=cR (cf x y)
    rw[hC]at hcl;have HCC:Hid (cf d[h]! d[a]! =CC):=aa (by rw[←hx,←hy];exact hC);have HCL:=aa hcl;clear hC hx hy hcl;refine dd (fun V=>V=wr.drew∧V.cell? ⟨g,h*4,none⟩=some (.int .i64 x.ct)∧V.cell? ⟨g,h*4+1,none⟩=some (.int .i64 x.bg)∧V.cell? ⟨g,h*4+2,none⟩=some (.int .i64 x.en)∧V.cell? ⟨g,h*4+3,none⟩=some (.int .i64 x.tk)∧V.cell? ⟨g,a*4,none⟩=some (.int .i64 y.ct)∧V.cell? ⟨g,a*4+1,none⟩=some (.int .i64 y.bg)∧V.cell? ⟨g,a*4+2,none⟩=some (.int .i64 y.en)∧V.cell? ⟨g,a*4+3,none⟩=some (.int .i64 y.tk)) [0,0,0,0,1,0,0,0,1,3,0] [0,1,2,3,4,5,6,7,8,9,10] (by kernel_rfl) (by kernel_rfl) ?_ ?_
    case refine_1=>exact⟨rfl,x0,x1,x2,x3,y0,y1,y2,y3⟩
    (iterate 9 (refine cX rfl (by decide) (by rfl) (fun w1 hS=>by(try(have hS:=hS rfl;obtain hS:=hS;repeat (obtain⟨_,hS⟩:=hS)));go_simp;rfl) ?_;simp only[Act.put,ae,af,ag]))
    (refine di rfl rfl (by rfl) (fun K hK=>?_);go_simp)
    refine HCL.out.mono ?_
    rintro e w2 ⟨rfl,hS2⟩;have S2:Aside (SWK bkgC 4 w0 g 0 d w2):=hS2;clear hS2
    (refine hK _ _ ?_;clear hK K;(try simp only[Act.put,ae,af,ag]))
    (iterate 1 (refine cX rfl (by decide) (by rfl) (fun w1 hS=>by(try(have hS:=hS rfl;obtain hS:=hS;repeat (obtain⟨_,hS⟩:=hS)));go_simp;rfl) ?_;simp only[Act.put,ae,af,ag]))
    refine du ?_
    clear HCL x0 x1 x2 x3 y0 y1 y2 y3;by_cases hC:CC<0
    ·have eC:decide (CC<0)=true:=decide_eq_true hC
     (try rw[show(!decide (CC<0))=false from by rw[eC];rfl])
     have HG:Hid (cf d[h+1-1]! d[a]! <0):=aa (by rw[bZ,HCC.out];exact hC);clear HF1;go_wp2
     go_roundw
     case rel=>exact⟨h+1,j,by omega,by omega,i3,by go_num,rfl,S2,aa (fun _=>HG.out),HF2⟩
     case measure=>simp[intOf];omega
    ·have eC:decide (CC<0)=false:=decide_eq_false hC
     (try rw[show(!decide (CC<0))=true from by rw[eC];rfl])
     have HG:Hid (¬cf d[h]! d[a]! <0):=aa (by rw[HCC.out];exact hC);clear HF2;go_wp2
     go_roundw
     case rel=>exact⟨i,h,i1,by omega,by omega,rfl,rfl,S2,HF1,aa (fun _=>HG.out)⟩
     case measure=>simp[intOf];omega
   ·obtain rfl:i=j:=by omega
    obtain⟨t,ht⟩:=cR (i-1)
    have vt:IntKind.i64.wrap ((i:Int)-1)=(t:Int):=by rw[ax];omega
    go_wp2
    as_aux_lemma=>
    go_loopw [13] (fun kv wr=>∃(k:Nat) (dk:Array Bkg),a≤k∧k≤t∧kv= .int .i64 (k:Int)∧Hid (dk.size=N)∧Aside (SWK bkgC 4 w0 g 0 dk wr)∧Hid (PermIn a b d dk)∧Hid (∀p,dk[p]! =d[upI a k p]!)) (fun kv _=>t-(intOf kv).toNat)
    case atStart=>exact⟨a,d,aj _,by omega,rfl,HD,S1,aa (permIn_refl d a b),aa (fun p=>by rw[mU])⟩
    case round=>
     clear S1;obtain⟨k,dk,k1,k2,rfl,HDK,S1,HPM,HU⟩:=hrel;by_cases hlt:k<t
     ·have k3:(k:Int)<(t:Int):=by omega
      obtain⟨q,hq⟩:=cR (k+1)
      have vq:IntKind.i64.wrap ((k:Int)+1)=(q:Int):=by rw[ax];omega
      have HU2:Hid (∀p,(swp dk k q)[p]! =d[upI a q p]!):=aa (by rw[←hq];exact oZ (by rw[HDK.out];omega) k1 HU.out);have HP2:Hid (PermIn a b d (swp dk k q)):=aa (permIn_trans _ _ _ a b HPM.out (swp_permIn dk a b k q (by omega) (by omega) (by omega) (by omega) (by rw[HDK.out];omega)));have HDK2:Hid ((swp dk k q).size=N):=aa (by rw[swp_size];exact HDK.out);have bk0:(0:Int)≤(k:Int):=by omega
      have bk1:(k:Int)<(N:Int):=by omega
      have bk2:k<N:=by omega
      have bq0:(0:Int)≤(q:Int):=by omega
      have bq1:(q:Int)<(N:Int):=by omega
      have bq2:q<N:=by omega
      go_upto_region 11 with fail
      obtain⟨x,hx⟩:∃z,z=dk[k]! :=⟨_,rfl⟩
      obtain⟨y,hy⟩:∃z,z=dk[q]! :=⟨_,rfl⟩
      have x0:wr.cell? ⟨g,k*4,none⟩=some (.int .i64 x.ct):=dh S1.out R HN.out HDK.out (i:=k) (j:=0) (by omega) (by rw[←hx];rfl);have x1:wr.cell? ⟨g,k*4+1,none⟩=some (.int .i64 x.bg):=dh S1.out R HN.out HDK.out (i:=k) (j:=1) (by omega) (by rw[←hx];rfl);have x2:wr.cell? ⟨g,k*4+2,none⟩=some (.int .i64 x.en):=dh S1.out R HN.out HDK.out (i:=k) (j:=2) (by omega) (by rw[←hx];rfl);have x3:wr.cell? ⟨g,k*4+3,none⟩=some (.int .i64 x.tk):=dh S1.out R HN.out HDK.out (i:=k) (j:=3) (by omega) (by rw[←hx];rfl);have y0:wr.cell? ⟨g,q*4,none⟩=some (.int .i64 y.ct):=dh S1.out R HN.out HDK.out (i:=q) (j:=0) (by omega) (by rw[←hy];rfl);have y1:wr.cell? ⟨g,q*4+1,none⟩=some (.int .i64 y.bg):=dh S1.out R HN.out HDK.out (i:=q) (j:=1) (by omega) (by rw[←hy];rfl);have y2:wr.cell? ⟨g,q*4+2,none⟩=some (.int .i64 y.en):=dh S1.out R HN.out HDK.out (i:=q) (j:=2) (by omega) (by rw[←hy];rfl);have y3:wr.cell? ⟨g,q*4+3,none⟩=some (.int .i64 y.tk):=dh S1.out R HN.out HDK.out (i:=q) (j:=3) (by omega) (by rw[←hy];rfl);have HT1:Hid (wr.drew.there g (k*4) 4):=aa (ep S1.out.drew R HN.out HDK.out (by omega));have HT2:Hid ((wr.drew.setCells g (k*4) (bkgC y)).there g (q*4) 4):=aa (World.there_setCells (ep S1.out.drew R HN.out HDK.out (by omega)) _ _ _);have S2:Aside (SWK bkgC 4 w0 g 0 (swp dk k q) ((wr.drew.setCells g (k*4) (bkgC y)).setCells g (q*4) (bkgC x))):=gg S1.out R HDK.out (by omega) (by omega) hx hy;clear hx hy S1;refine dd (fun V=>V.cell? ⟨g,k*4,none⟩=some (.int .i64 x.ct)∧V.cell? ⟨g,k*4+1,none⟩=some (.int .i64 x.bg)∧V.cell? ⟨g,k*4+2,none⟩=some (.int .i64 x.en)∧V.cell? ⟨g,k*4+3,none⟩=some (.int .i64 x.tk)∧V.cell? ⟨g,q*4,none⟩=some (.int .i64 y.ct)∧V.cell? ⟨g,q*4+1,none⟩=some (.int .i64 y.bg)∧V.cell? ⟨g,q*4+2,none⟩=some (.int .i64 y.en)∧V.cell? ⟨g,q*4+3,none⟩=some (.int .i64 y.tk)) [0,0,0,0,0,0,0,0,0,1,0,0,0,1,0,3,0,3] [0,1,2,3,4,5,6,7,8,9,10,11,12,13,14,15,16,17] (by kernel_rfl) (by kernel_rfl) ?_ ?_
      case refine_1=>exact⟨x0,x1,x2,x3,y0,y1,y2,y3⟩
      (iterate 15 (refine cX rfl (by decide) (by rfl) (fun w1 hS=>by(try(have hS:=hS rfl;obtain hS:=hS;repeat (obtain⟨_,hS⟩:=hS)));go_simp;rfl) ?_;simp only[Act.put,ae,af,ag]))
      refine di rfl rfl (by rfl) (fun K hK=>?_)
      refine wp_store_mid 53 _ _ rfl g (k*4) #[.int .i64 y.ct,.int .i64 y.bg,.int .i64 y.en,.int .i64 y.tk] rfl rfl HT1.out (by kernel_rfl) (by simp[Value.oneCell']) ?_
      refine hK _ _ ?_
      clear hK K;simp only[Act.put,ae,af,ag]
      (iterate 1 (refine cX rfl (by decide) (by rfl) (fun w1 hS=>by(try(have hS:=hS rfl;obtain hS:=hS;repeat (obtain⟨_,hS⟩:=hS)));go_simp;rfl) ?_;simp only[Act.put,ae,af,ag]))
      refine di rfl rfl (by rfl) (fun K hK=>?_)
      refine wp_store_mid 53 _ _ rfl g (q*4) #[.int .i64 x.ct,.int .i64 x.bg,.int .i64 x.en,.int .i64 x.tk] rfl rfl HT2.out (by kernel_rfl) (by simp[Value.oneCell']) ?_
      refine hK _ _ ?_
      clear hK K;simp only[Act.put,ae,af,ag];refine du ?_
      obtain⟨w2,hw2⟩:=cR ((wr.drew.setCells g (k*4) [.int .i64 y.ct,.int .i64 y.bg,.int .i64 y.en,.int .i64 y.tk]).setCells g (q*4) [.int .i64 x.ct,.int .i64 x.bg,.int .i64 x.en,.int .i64 x.tk])
      replace S2:Aside (SWK bkgC 4 w0 g 0 (swp dk k q) w2):=by rw[←hw2];exact S2
      rw[hw2];clear hw2 HT1 HT2 x0 x1 x2 x3 y0 y1 y2 y3;go_wp2
      go_roundw
      case rel=>exact⟨q,_,by omega,by omega,by go_num,HDK2,S2,HP2,HU2⟩
      case measure=>simp[intOf];omega
     ·obtain rfl:k=t:=by omega
      go_wp2
      refine bodyPost_ret (results_none rfl _ _ _) rfl ?_
      exact⟨rfl,dk,HDK.out,S1.out,HPM.out,lC (i:=i) ⟨by omega,i3⟩ HO.out (by rw[hm];exact HS2.out) (fun h=>decide_eq_true (HF1.out (by omega))) (fun h=>decide_eq_false (by have:=HF2.out h;omega)) (by rw[ht];exact HU.out)⟩
 have eA:((LA:Int)==1)=false:=beq_eq_false_iff_ne.2 (by omega);by_cases cB:LB=1
 ·have eB:((LB:Int)==1)=true:=beq_iff_eq.2 (by omega)
  go_enter Tryz.func111,Tryz.ntmps111
  go_wp2
  as_aux_lemma=>
  go_loopw [14,15] (fun iv jv wr=>∃(i j:Nat),a≤i∧i≤j∧j≤m∧iv= .int .i64 (i:Int)∧jv= .int .i64 (j:Int)∧Aside (SWK bkgC 4 w0 g 0 d wr)∧Hid (a<i→¬cf d[m]! d[i-1]! <0)∧Hid (j<m→cf d[m]! d[j]! <0)) (fun iv jv _=>(intOf jv).toNat - (intOf iv).toNat)
  case atStart=>exact⟨a,m,aj _,by omega,aj _,rfl,rfl,S0,aa (fun h=>absurd h (by omega)),aa (fun h=>absurd h (by omega))⟩
  case round=>
   clear S0;obtain⟨i,j,i1,i2,i3,rfl,rfl,S1,HF1,HF2⟩:=hrel;by_cases hlt:i<j
   ·have k1:(i:Int)<(j:Int):=by omega
    obtain⟨h,hh⟩:=cR ((i+j) / 2)
    have vh:((i:Int)+(j:Int)) / 2=(h:Int):=by omega
    have vh2:IntKind.i64.wrap ((i:Int)+(j:Int))=(i:Int)+(j:Int):=by rw[ax];omega
    have bh0:(0:Int)≤(h:Int):=by omega
    have bh1:(h:Int)<(N:Int):=by omega
    have bh2:h<N:=by omega
    have bm0:(0:Int)≤(m:Int):=by omega
    have bm1:(m:Int)<(N:Int):=by omega
    have bm2:m<N:=by omega
    have HDK:Hid (d.size=N):=HD;go_upto_region 17 with fail
    obtain⟨x,hx⟩:∃z,z=d[m]! :=⟨_,rfl⟩
    obtain⟨y,hy⟩:∃z,z=d[h]! :=⟨_,rfl⟩
    have x0:wr.cell? ⟨g,m*4,none⟩=some (.int .i64 x.ct):=dh S1.out R HN.out HDK.out (i:=m) (j:=0) (by omega) (by rw[←hx];rfl);have x1:wr.cell? ⟨g,m*4+1,none⟩=some (.int .i64 x.bg):=dh S1.out R HN.out HDK.out (i:=m) (j:=1) (by omega) (by rw[←hx];rfl);have x2:wr.cell? ⟨g,m*4+2,none⟩=some (.int .i64 x.en):=dh S1.out R HN.out HDK.out (i:=m) (j:=2) (by omega) (by rw[←hx];rfl);have x3:wr.cell? ⟨g,m*4+3,none⟩=some (.int .i64 x.tk):=dh S1.out R HN.out HDK.out (i:=m) (j:=3) (by omega) (by rw[←hx];rfl);have y0:wr.cell? ⟨g,h*4,none⟩=some (.int .i64 y.ct):=dh S1.out R HN.out HDK.out (i:=h) (j:=0) (by omega) (by rw[←hy];rfl);have y1:wr.cell? ⟨g,h*4+1,none⟩=some (.int .i64 y.bg):=dh S1.out R HN.out HDK.out (i:=h) (j:=1) (by omega) (by rw[←hy];rfl);have y2:wr.cell? ⟨g,h*4+2,none⟩=some (.int .i64 y.en):=dh S1.out R HN.out HDK.out (i:=h) (j:=2) (by omega) (by rw[←hy];rfl);have y3:wr.cell? ⟨g,h*4+3,none⟩=some (.int .i64 y.tk):=dh S1.out R HN.out HDK.out (i:=h) (j:=3) (by omega) (by rw[←hy];rfl);have hcl:=ge S1.out.drew HC.out (HDK.out.trans HN.out.symm) x y;obtain⟨CC,hC⟩:=cR (cf x y)
    rw[hC]at hcl;have HCC:Hid (cf d[m]! d[h]! =CC):=aa (by rw[←hx,←hy];exact hC);have HCL:=aa hcl;clear hC hx hy hcl;refine dd (fun V=>V=wr.drew∧V.cell? ⟨g,m*4,none⟩=some (.int .i64 x.ct)∧V.cell? ⟨g,m*4+1,none⟩=some (.int .i64 x.bg)∧V.cell? ⟨g,m*4+2,none⟩=some (.int .i64 x.en)∧V.cell? ⟨g,m*4+3,none⟩=some (.int .i64 x.tk)∧V.cell? ⟨g,h*4,none⟩=some (.int .i64 y.ct)∧V.cell? ⟨g,h*4+1,none⟩=some (.int .i64 y.bg)∧V.cell? ⟨g,h*4+2,none⟩=some (.int .i64 y.en)∧V.cell? ⟨g,h*4+3,none⟩=some (.int .i64 y.tk)) [0,0,0,0,1,0,0,0,1,3,0,0] [0,1,2,3,4,5,6,7,8,9,10,11] (by kernel_rfl) (by kernel_rfl) ?_ ?_
    case refine_1=>exact⟨rfl,x0,x1,x2,x3,y0,y1,y2,y3⟩
    (iterate 9 (refine cX rfl (by decide) (by rfl) (fun w1 hS=>by(try(have hS:=hS rfl;obtain hS:=hS;repeat (obtain⟨_,hS⟩:=hS)));go_simp;rfl) ?_;simp only[Act.put,ae,af,ag]))
    (refine di rfl rfl (by rfl) (fun K hK=>?_);go_simp)
    refine HCL.out.mono ?_
    rintro e w2 ⟨rfl,hS2⟩;have S2:Aside (SWK bkgC 4 w0 g 0 d w2):=hS2;clear hS2
    (refine hK _ _ ?_;clear hK K;(try simp only[Act.put,ae,af,ag]))
    (iterate 2 (refine cX rfl (by decide) (by rfl) (fun w1 hS=>by(try(have hS:=hS rfl;obtain hS:=hS;repeat (obtain⟨_,hS⟩:=hS)));go_simp;rfl) ?_;simp only[Act.put,ae,af,ag]))
    refine du ?_
    clear HCL x0 x1 x2 x3 y0 y1 y2 y3;by_cases hC:CC<0
    ·have eC:decide (CC<0)=true:=decide_eq_true hC
     (try rw[show(!decide (CC<0))=false from by rw[eC];rfl])
     have HG:Hid (cf d[m]! d[h]! <0):=aa (by rw[HCC.out];exact hC);clear HF2;go_wp2
     go_roundw
     case rel=>exact⟨i,h,i1,by omega,by omega,rfl,rfl,S2,HF1,aa (fun _=>HG.out)⟩
     case measure=>simp[intOf];omega
    ·have eC:decide (CC<0)=false:=decide_eq_false hC
     (try rw[show(!decide (CC<0))=true from by rw[eC];rfl])
     have HG:Hid (¬cf d[m]! d[h+1-1]! <0):=aa (by rw[bZ,HCC.out];exact hC);clear HF1;go_wp2
     go_roundw
     case rel=>exact⟨h+1,j,by omega,by omega,i3,by go_num,rfl,S2,aa (fun _=>HG.out),HF2⟩
     case measure=>simp[intOf];omega
   ·obtain rfl:i=j:=by omega
    go_wp2
    as_aux_lemma=>
    go_loopw [17] (fun kv wr=>∃(k:Nat) (dk:Array Bkg),i≤k∧k≤m∧kv= .int .i64 (k:Int)∧Hid (dk.size=N)∧Aside (SWK bkgC 4 w0 g 0 dk wr)∧Hid (PermIn a b d dk)∧Hid (∀p,dk[p]! =d[dnI m k p]!)) (fun kv _=>(intOf kv).toNat)
    case atStart=>exact⟨m,d,i3,aj _,rfl,HD,S1,aa (permIn_refl d a b),aa (fun p=>by rw[mV])⟩
    case round=>
     clear S1;obtain⟨k,dk,k1,k2,rfl,HDK,S1,HPM,HU⟩:=hrel;by_cases hlt:i<k
     ·have k3:(i:Int)<(k:Int):=by omega
      obtain⟨q,hq⟩:=cR (k-1)
      have vq:IntKind.i64.wrap ((k:Int)-1)=(q:Int):=by rw[ax];omega
      have HU2:Hid (∀p,(swp dk k q)[p]! =d[dnI m q p]!):=aa (by rw[←hq];exact o0 (by rw[HDK.out];omega) (by omega) k2 HU.out);have HP2:Hid (PermIn a b d (swp dk k q)):=aa (permIn_trans _ _ _ a b HPM.out (swp_permIn dk a b k q (by omega) (by omega) (by omega) (by omega) (by rw[HDK.out];omega)));have HDK2:Hid ((swp dk k q).size=N):=aa (by rw[swp_size];exact HDK.out);have bk0:(0:Int)≤(k:Int):=by omega
      have bk1:(k:Int)<(N:Int):=by omega
      have bk2:k<N:=by omega
      have bq0:(0:Int)≤(q:Int):=by omega
      have bq1:(q:Int)<(N:Int):=by omega
      have bq2:q<N:=by omega
      go_upto_region 23 with fail
      obtain⟨x,hx⟩:∃z,z=dk[k]! :=⟨_,rfl⟩
      obtain⟨y,hy⟩:∃z,z=dk[q]! :=⟨_,rfl⟩
      have x0:wr.cell? ⟨g,k*4,none⟩=some (.int .i64 x.ct):=dh S1.out R HN.out HDK.out (i:=k) (j:=0) (by omega) (by rw[←hx];rfl);have x1:wr.cell? ⟨g,k*4+1,none⟩=some (.int .i64 x.bg):=dh S1.out R HN.out HDK.out (i:=k) (j:=1) (by omega) (by rw[←hx];rfl);have x2:wr.cell? ⟨g,k*4+2,none⟩=some (.int .i64 x.en):=dh S1.out R HN.out HDK.out (i:=k) (j:=2) (by omega) (by rw[←hx];rfl);have x3:wr.cell? ⟨g,k*4+3,none⟩=some (.int .i64 x.tk):=dh S1.out R HN.out HDK.out (i:=k) (j:=3) (by omega) (by rw[←hx];rfl);have y0:wr.cell? ⟨g,q*4,none⟩=some (.int .i64 y.ct):=dh S1.out R HN.out HDK.out (i:=q) (j:=0) (by omega) (by rw[←hy];rfl);have y1:wr.cell? ⟨g,q*4+1,none⟩=some (.int .i64 y.bg):=dh S1.out R HN.out HDK.out (i:=q) (j:=1) (by omega) (by rw[←hy];rfl);have y2:wr.cell? ⟨g,q*4+2,none⟩=some (.int .i64 y.en):=dh S1.out R HN.out HDK.out (i:=q) (j:=2) (by omega) (by rw[←hy];rfl);have y3:wr.cell? ⟨g,q*4+3,none⟩=some (.int .i64 y.tk):=dh S1.out R HN.out HDK.out (i:=q) (j:=3) (by omega) (by rw[←hy];rfl);have HT1:Hid (wr.drew.there g (k*4) 4):=aa (ep S1.out.drew R HN.out HDK.out (by omega));have HT2:Hid ((wr.drew.setCells g (k*4) (bkgC y)).there g (q*4) 4):=aa (World.there_setCells (ep S1.out.drew R HN.out HDK.out (by omega)) _ _ _);have S2:Aside (SWK bkgC 4 w0 g 0 (swp dk k q) ((wr.drew.setCells g (k*4) (bkgC y)).setCells g (q*4) (bkgC x))):=gg S1.out R HDK.out (by omega) (by omega) hx hy;clear hx hy S1;refine dd (fun V=>V.cell? ⟨g,k*4,none⟩=some (.int .i64 x.ct)∧V.cell? ⟨g,k*4+1,none⟩=some (.int .i64 x.bg)∧V.cell? ⟨g,k*4+2,none⟩=some (.int .i64 x.en)∧V.cell? ⟨g,k*4+3,none⟩=some (.int .i64 x.tk)∧V.cell? ⟨g,q*4,none⟩=some (.int .i64 y.ct)∧V.cell? ⟨g,q*4+1,none⟩=some (.int .i64 y.bg)∧V.cell? ⟨g,q*4+2,none⟩=some (.int .i64 y.en)∧V.cell? ⟨g,q*4+3,none⟩=some (.int .i64 y.tk)) [0,0,0,0,0,0,0,0,0,1,0,0,0,1,0,3,0,3] [0,1,2,3,4,5,6,7,8,9,10,11,12,13,14,15,16,17] (by kernel_rfl) (by kernel_rfl) ?_ ?_
      case refine_1=>exact⟨x0,x1,x2,x3,y0,y1,y2,y3⟩
      (iterate 15 (refine cX rfl (by decide) (by rfl) (fun w1 hS=>by(try(have hS:=hS rfl;obtain hS:=hS;repeat (obtain⟨_,hS⟩:=hS)));go_simp;rfl) ?_;simp only[Act.put,ae,af,ag]))
      refine di rfl rfl (by rfl) (fun K hK=>?_)
      refine wp_store_mid 53 _ _ rfl g (k*4) #[.int .i64 y.ct,.int .i64 y.bg,.int .i64 y.en,.int .i64 y.tk] rfl rfl HT1.out (by kernel_rfl) (by simp[Value.oneCell']) ?_
      refine hK _ _ ?_
      clear hK K;simp only[Act.put,ae,af,ag]
      (iterate 1 (refine cX rfl (by decide) (by rfl) (fun w1 hS=>by(try(have hS:=hS rfl;obtain hS:=hS;repeat (obtain⟨_,hS⟩:=hS)));go_simp;rfl) ?_;simp only[Act.put,ae,af,ag]))
      refine di rfl rfl (by rfl) (fun K hK=>?_)
      refine wp_store_mid 53 _ _ rfl g (q*4) #[.int .i64 x.ct,.int .i64 x.bg,.int .i64 x.en,.int .i64 x.tk] rfl rfl HT2.out (by kernel_rfl) (by simp[Value.oneCell']) ?_
      refine hK _ _ ?_
      clear hK K;simp only[Act.put,ae,af,ag];refine du ?_
      obtain⟨w2,hw2⟩:=cR ((wr.drew.setCells g (k*4) [.int .i64 y.ct,.int .i64 y.bg,.int .i64 y.en,.int .i64 y.tk]).setCells g (q*4) [.int .i64 x.ct,.int .i64 x.bg,.int .i64 x.en,.int .i64 x.tk])
      replace S2:Aside (SWK bkgC 4 w0 g 0 (swp dk k q) w2):=by rw[←hw2];exact S2
      rw[hw2];clear hw2 HT1 HT2 x0 x1 x2 x3 y0 y1 y2 y3;go_wp2
      go_roundw
      case rel=>exact⟨q,_,by omega,by omega,by go_num,HDK2,S2,HP2,HU2⟩
      case measure=>simp[intOf];omega
     ·obtain rfl:k=i:=by omega
      go_wp2
      refine bodyPost_ret (results_none rfl _ _ _) rfl ?_
      obtain rfl:b=m+1:=by omega
      exact⟨rfl,dk,HDK.out,S1.out,HPM.out,lD (i:=k) ⟨i1,i3⟩ HO.out HS1.out (fun h=>decide_eq_false (by have:=HF1.out h;omega)) (fun h=>decide_eq_true (HF2.out h)) HU.out⟩
 have eB:((LB:Int)==1)=false:=beq_eq_false_iff_ne.2 (by omega);obtain⟨mid,hmid⟩:=cR ((a+b) / 2)
 have vmid:((a:Int)+(b:Int)) / 2=(mid:Int):=by omega
 have vmid2:IntKind.i64.wrap ((a:Int)+(b:Int))=(a:Int)+(b:Int):=by rw[ax];omega
 obtain⟨n,hn⟩:=cR (mid+m)
 have vn:IntKind.i64.wrap ((mid:Int)+(m:Int))=(n:Int):=by rw[ax];omega
 obtain⟨P,hP⟩:=cR (n-1)
 have vP:IntKind.i64.wrap ((n:Int)-1)=(P:Int):=by rw[ax];omega
 have ST:∃(A B:Nat),A≤B∧a≤A∧n≤A+b∧B≤m∧B≤mid∧(A=a∨A+b=n)∧(B=m∨B=mid)∧((m:Int)>(mid:Int)→IntKind.i64.wrap ((n:Int)-(b:Int))=(A:Int)∧B=mid)∧(¬(m:Int)>(mid:Int)→A=a∧B=m):=by
  by_cases cm:mid<m
  ·exact⟨n-b,mid,by omega,by omega,by omega,by omega,by omega,.inr (by omega),.inr rfl,fun _=>⟨by rw[ax];omega,rfl⟩,fun h=>absurd h (by omega)⟩
  ·exact⟨a,m,by omega,by omega,by omega,by omega,by omega,.inl rfl,.inl rfl,fun h=>absurd h (by omega),fun _=>⟨rfl,rfl⟩⟩
 obtain⟨A,B,q1,q2,q3,q4,q5,q6,q7,q8,q9⟩:=ST;go_enter Tryz.func111,Tryz.ntmps111
 go_upto_if 140 with fail
 go_cut [20,21] (fun s20 s21 wx=>w=wx∧s20= .int .i64 (A:Int)∧s21= .int .i64 (B:Int))
 case first=>
  by_cases cm:(m:Int)>(mid:Int)
  ·obtain⟨e1,e2⟩:=q8 cm
   have HE2:=aa e2;clear q8 q9 e2;have cm2:(mid:Int)<(m:Int):=cm;go_wp2_with fail
   go_meet
   exact⟨rfl,rfl,by rw[HE2.out]⟩
  ·obtain⟨e1,e2⟩:=q9 cm
   have HE1:=aa e1;have HE2:=aa e2;clear q8 q9 e1 e2;have cm2:¬(mid:Int)<(m:Int):=cm;go_wp2_with fail
   go_meet
   exact⟨rfl,by rw[HE1.out],by rw[HE2.out]⟩
 case rest=>
  obtain⟨rfl,rfl,rfl⟩:=hcut;clear q8 q9;go_wp2
  as_aux_lemma=>
  go_loopw [20,21] (fun iv jv wr=>∃(i j:Nat),A≤i∧i≤j∧j≤B∧iv= .int .i64 (i:Int)∧jv= .int .i64 (j:Int)∧Aside (SWK bkgC 4 w0 g 0 d wr)∧Hid (A<i→¬cf d[n-i]! d[i-1]! <0)∧Hid (j<B→cf d[n-1-j]! d[j]! <0)) (fun iv jv _=>(intOf jv).toNat - (intOf iv).toNat)
  case atStart=>exact⟨A,B,aj _,q1,aj _,by first | rfl | go_num,by first | rfl | go_num,S0,aa (fun h=>absurd h (by omega)),aa (fun h=>absurd h (by omega))⟩
  case round=>
   clear S0;obtain⟨i,j,i1,i2,i3,rfl,rfl,S1,HF1,HF2⟩:=hrel;by_cases hlt:i<j
   ·have k1:(i:Int)<(j:Int):=by omega
    obtain⟨h,hh⟩:=cR ((i+j) / 2)
    have vh:((i:Int)+(j:Int)) / 2=(h:Int):=by omega
    have vh2:IntKind.i64.wrap ((i:Int)+(j:Int))=(i:Int)+(j:Int):=by rw[ax];omega
    obtain⟨u,hu⟩:=cR (P-h)
    have vu:IntKind.i64.wrap ((P:Int)-(h:Int))=(u:Int):=by rw[ax];omega
    have bh0:(0:Int)≤(h:Int):=by omega
    have bh1:(h:Int)<(N:Int):=by omega
    have bh2:h<N:=by omega
    have bu0:(0:Int)≤(u:Int):=by omega
    have bu1:(u:Int)<(N:Int):=by omega
    have bu2:u<N:=by omega
    have HDK:Hid (d.size=N):=HD;go_upto_region 35 with fail
    obtain⟨x,hx⟩:∃z,z=d[u]! :=⟨_,rfl⟩
    obtain⟨y,hy⟩:∃z,z=d[h]! :=⟨_,rfl⟩
    have x0:wr.cell? ⟨g,u*4,none⟩=some (.int .i64 x.ct):=dh S1.out R HN.out HDK.out (i:=u) (j:=0) (by omega) (by rw[←hx];rfl);have x1:wr.cell? ⟨g,u*4+1,none⟩=some (.int .i64 x.bg):=dh S1.out R HN.out HDK.out (i:=u) (j:=1) (by omega) (by rw[←hx];rfl);have x2:wr.cell? ⟨g,u*4+2,none⟩=some (.int .i64 x.en):=dh S1.out R HN.out HDK.out (i:=u) (j:=2) (by omega) (by rw[←hx];rfl);have x3:wr.cell? ⟨g,u*4+3,none⟩=some (.int .i64 x.tk):=dh S1.out R HN.out HDK.out (i:=u) (j:=3) (by omega) (by rw[←hx];rfl);have y0:wr.cell? ⟨g,h*4,none⟩=some (.int .i64 y.ct):=dh S1.out R HN.out HDK.out (i:=h) (j:=0) (by omega) (by rw[←hy];rfl);have y1:wr.cell? ⟨g,h*4+1,none⟩=some (.int .i64 y.bg):=dh S1.out R HN.out HDK.out (i:=h) (j:=1) (by omega) (by rw[←hy];rfl);have y2:wr.cell? ⟨g,h*4+2,none⟩=some (.int .i64 y.en):=dh S1.out R HN.out HDK.out (i:=h) (j:=2) (by omega) (by rw[←hy];rfl);have y3:wr.cell? ⟨g,h*4+3,none⟩=some (.int .i64 y.tk):=dh S1.out R HN.out HDK.out (i:=h) (j:=3) (by omega) (by rw[←hy];rfl);have hcl:=ge S1.out.drew HC.out (HDK.out.trans HN.out.symm) x y;obtain⟨CC,hC⟩:=cR (cf x y)
    rw[hC]at hcl;have HCC:Hid (cf d[u]! d[h]! =CC):=aa (by rw[←hx,←hy];exact hC);have HCL:=aa hcl;clear hC hx hy hcl;refine dd (fun V=>V=wr.drew∧V.cell? ⟨g,u*4,none⟩=some (.int .i64 x.ct)∧V.cell? ⟨g,u*4+1,none⟩=some (.int .i64 x.bg)∧V.cell? ⟨g,u*4+2,none⟩=some (.int .i64 x.en)∧V.cell? ⟨g,u*4+3,none⟩=some (.int .i64 x.tk)∧V.cell? ⟨g,h*4,none⟩=some (.int .i64 y.ct)∧V.cell? ⟨g,h*4+1,none⟩=some (.int .i64 y.bg)∧V.cell? ⟨g,h*4+2,none⟩=some (.int .i64 y.en)∧V.cell? ⟨g,h*4+3,none⟩=some (.int .i64 y.tk)) [0,0,0,0,0,0,1,0,0,0,1,3,0,0] [0,1,2,3,4,5,6,7,8,9,10,11,12,13] (by kernel_rfl) (by kernel_rfl) ?_ ?_
    case refine_1=>exact⟨rfl,x0,x1,x2,x3,y0,y1,y2,y3⟩
    (iterate 11 (refine cX rfl (by decide) (by rfl) (fun w1 hS=>by(try(have hS:=hS rfl;obtain hS:=hS;repeat (obtain⟨_,hS⟩:=hS)));go_simp;rfl) ?_;simp only[Act.put,ae,af,ag]))
    (refine di rfl rfl (by rfl) (fun K hK=>?_);go_simp)
    refine HCL.out.mono ?_
    rintro e w2 ⟨rfl,hS2⟩;have S2:Aside (SWK bkgC 4 w0 g 0 d w2):=hS2;clear hS2
    (refine hK _ _ ?_;clear hK K;(try simp only[Act.put,ae,af,ag]))
    (iterate 2 (refine cX rfl (by decide) (by rfl) (fun w1 hS=>by(try(have hS:=hS rfl;obtain hS:=hS;repeat (obtain⟨_,hS⟩:=hS)));go_simp;rfl) ?_;simp only[Act.put,ae,af,ag]))
    refine du ?_
    clear HCL x0 x1 x2 x3 y0 y1 y2 y3;by_cases hC:CC<0
    ·have eC:decide (CC<0)=true:=decide_eq_true hC
     (try rw[show(!decide (CC<0))=false from by rw[eC];rfl])
     have HG:Hid (cf d[n-1-h]! d[h]! <0):=aa (by rw[fg d (show n-1-h=u by omega),HCC.out];exact hC);clear HF2;go_wp2
     go_roundw
     case rel=>exact⟨i,h,i1,by omega,by omega,rfl,rfl,S2,HF1,aa (fun _=>HG.out)⟩
     case measure=>simp[intOf];omega
    ·have eC:decide (CC<0)=false:=decide_eq_false hC
     (try rw[show(!decide (CC<0))=true from by rw[eC];rfl])
     have HG:Hid (¬cf d[n-(h+1)]! d[h+1-1]! <0):=aa (by rw[bZ,fg d (show n-(h+1)=u by omega),HCC.out];exact hC);clear HF1;go_wp2
     go_roundw
     case rel=>exact⟨h+1,j,by omega,by omega,i3,by go_num,rfl,S2,aa (fun _=>HG.out),HF2⟩
     case measure=>simp[intOf];omega
   ·obtain rfl:i=j:=by omega
    as_aux_lemma=>
    obtain⟨en,hen⟩:=cR (n-i)
    have ven:IntKind.i64.wrap ((n:Int)-(i:Int))=(en:Int):=by rw[ax];omega
    have HR:Hid (a≤i∧i≤m∧m≤en∧en≤b∧mid=i+(en-m)):=aa ⟨by omega,by omega,by omega,by omega,by omega⟩;have HA:Hid (a<i→en<b→ltOf cf d[en]! d[i-1]! =false):=aa (fun x y=>decide_eq_false (by have:=HF1.out (by omega);rwa [hen]at this));have HB:Hid (i<m→m<en→ltOf cf d[en-1]! d[i]! =true):=aa (fun x y=>decide_eq_true (by have:=HF2.out (by omega);rwa [fg d (show n-1-i=en-1 by omega)]at this));clear HF1 HF2 q6 q7;go_upto_region 39 with fail
    go_cut [185] (fun s185 wx=>wr=wx∧∃f:Bool,s185= .bool f∧(f=true↔i<m∧m<en))
    case first=>
     by_cases z1:i<m
     ·have z1i:(i:Int)<(m:Int):=by omega
      by_cases z2:m<en
      ·have z2i:(m:Int)<(en:Int):=by omega
       go_wp2_with fail
       all_goals(go_meet;exact⟨rfl,_,rfl,⟨fun _=>⟨z1,z2⟩,fun _=>rfl⟩⟩)
      ·have z2i:¬(m:Int)<(en:Int):=by omega
       go_wp2_with fail
       all_goals(go_meet;exact⟨rfl,_,rfl,⟨fun h=>(by cases h),fun h=>absurd h.2 z2⟩⟩)
     ·have z1i:¬(i:Int)<(m:Int):=by omega
      go_wp2_with fail
      all_goals(go_meet;exact⟨rfl,_,rfl,⟨fun h=>(by cases h),fun h=>absurd h.1 z1⟩⟩)
    case rest=>
     as_aux_lemma=>
     obtain⟨rfl,f,rfl,hf⟩:=hcut;go_upto_if 185 with fail
     go_cut [24] (fun s24 wx=>s24= .int .i64 (en:Int)∧∃d1:Array Bkg,Hid (d1.size=N)∧Aside (SWK bkgC 4 w0 g 0 d1 wx)∧Hid (PermIn a b d d1)∧Hid (∀k,d1[k]! =d[rotI i m en k]!))
     case first=>
      cases f with
      | true=>
       obtain⟨y1,y2⟩:=hf.1 rfl;go_wp2_with fail
       refine(rot_b g cap N d0 w0 R HN.out hsz (.func (.func gf) #[] #[]) d i m en _ HD.out S1.out y1 y2 (by omega)).mono ?_
       rintro e w2 ⟨rfl,d1,e1,hS2,e2,e3⟩;have HX:=aa (cS e1 (cS hS2 (cS (permIn_mono d d1 i en a b (by omega) (by omega) (by rw[HD.out];omega) e2) e3)));clear e1 e2 e3 hS2;go_wp2_with fail
       go_meet
       exact⟨rfl,d1,aa HX.out.1,HX.out.2.1,aa HX.out.2.2.1,aa HX.out.2.2.2⟩
      | false=>
       go_wp2_with fail
       go_meet
       have r5:¬i<m∨¬m<en:=by
        by_cases y1:i<m
        ·by_cases y2:m<en
         ·exact absurd (hf.2 ⟨y1,y2⟩) (by decide)
         ·exact .inr y2
        ·exact .inl y1
       exact⟨rfl,d,HD,S1,aa (permIn_refl d a b),aa (fun k=>by rw[lz r5 (by omega) (by omega)])⟩
     case rest=>
      obtain⟨rfl,d1,HD1,S2,HP1,HE1⟩:=hcut;as_aux_lemma=>
      clear hf f S1;have HRR:=aa (mT HR.out HS1.out HS2.out HE1.out);have HCX:=aa (lA HO.out HR.out HS1.out HS2.out HE1.out HA.out HB.out);go_upto_region 41 with fail
      go_cut [199] (fun s199 wx=>wc=wx∧∃f:Bool,s199= .bool f∧(f=true↔a<i∧i<mid))
      case first=>
       by_cases z1:a<i
       ·have z1i:(a:Int)<(i:Int):=by omega
        by_cases z2:i<mid
        ·have z2i:(i:Int)<(mid:Int):=by omega
         go_wp2_with fail
         all_goals(go_meet;exact⟨rfl,_,rfl,⟨fun _=>⟨z1,z2⟩,fun _=>rfl⟩⟩)
        ·have z2i:¬(i:Int)<(mid:Int):=by omega
         go_wp2_with fail
         all_goals(go_meet;exact⟨rfl,_,rfl,⟨fun h=>(by cases h),fun h=>absurd h.2 z2⟩⟩)
       ·have z1i:¬(a:Int)<(i:Int):=by omega
        go_wp2_with fail
        all_goals(go_meet;exact⟨rfl,_,rfl,⟨fun h=>(by cases h),fun h=>absurd h.1 z1⟩⟩)
      case rest=>
       as_aux_lemma=>
       obtain⟨rfl,f,rfl,hf⟩:=hcut;go_upto_if 199 with fail
       go_cut [24] (fun s24 wx=>s24= .int .i64 (en:Int)∧∃d2:Array Bkg,Hid (d2.size=N)∧Aside (SWK bkgC 4 w0 g 0 d2 wx)∧Hid (PermIn a mid d1 d2)∧Hid (SortedIn (ltOf cf) a mid d2))
       case first=>
        cases f with
        | true=>
         obtain⟨y1,y2⟩:=hf.1 rfl;go_wp2_with fail
         refine(IH.out a i mid d1 _ (by omega) HD1.out S2.out y1 y2 (by omega) HRR.out.1 HRR.out.2.1).mono ?_
         rintro e w2 ⟨rfl,d2,e1,hS2,e2,e3⟩;have HX:=aa (cS e1 (cS hS2 (cS e2 e3)));clear e1 e2 e3 hS2;go_wp2_with fail
         go_meet
         exact⟨rfl,d2,aa HX.out.1,HX.out.2.1,aa HX.out.2.2.1,aa HX.out.2.2.2⟩
        | false=>
         go_wp2_with fail
         go_meet
         refine⟨rfl,d1,HD1,S2,aa (permIn_refl d1 a mid),aa ?_⟩
         have h5:=HR.out;by_cases y1:a<i
         ·by_cases y2:i<mid
          ·exact absurd (hf.2 ⟨y1,y2⟩) (by decide)
          ·exact eJ HRR.out.1 (aj _) (by omega)
         ·exact eJ HRR.out.2.1 (by omega) (aj _)
       case rest=>
        obtain⟨rfl,d2,HD2,S3,HP2,HQ2⟩:=hcut;as_aux_lemma=>
        clear hf f S2;have HR3:Hid (SortedIn (ltOf cf) mid en d2∧SortedIn (ltOf cf) en b d2):=aa ⟨eK HRR.out.2.2.1 (fun k x _=>HP2.out.2.1 k (.inr x)),eK HRR.out.2.2.2 (fun k x _=>HP2.out.2.1 k (.inr (by have:=HR.out;omega)))⟩;go_upto_region 43 with fail
        go_cut [213] (fun s213 wx=>wc=wx∧∃f:Bool,s213= .bool f∧(f=true↔mid<en∧en<b))
        case first=>
         by_cases z1:mid<en
         ·have z1i:(mid:Int)<(en:Int):=by omega
          by_cases z2:en<b
          ·have z2i:(en:Int)<(b:Int):=by omega
           go_wp2_with fail
           all_goals(go_meet;exact⟨rfl,_,rfl,⟨fun _=>⟨z1,z2⟩,fun _=>rfl⟩⟩)
          ·have z2i:¬(en:Int)<(b:Int):=by omega
           go_wp2_with fail
           all_goals(go_meet;exact⟨rfl,_,rfl,⟨fun h=>(by cases h),fun h=>absurd h.2 z2⟩⟩)
         ·have z1i:¬(mid:Int)<(en:Int):=by omega
          go_wp2_with fail
          all_goals(go_meet;exact⟨rfl,_,rfl,⟨fun h=>(by cases h),fun h=>absurd h.1 z1⟩⟩)
        case rest=>
         as_aux_lemma=>
         obtain⟨rfl,f,rfl,hf⟩:=hcut;go_upto_if 213 with fail
         cases f with
         | true=>
          obtain⟨y1,y2⟩:=hf.1 rfl;go_wp2_with fail
          refine(IH.out mid en b d2 _ (by omega) HD2.out S3.out y1 y2 h3 HR3.out.1 HR3.out.2).mono ?_
          rintro e w2 ⟨rfl,d3,e1,hS2,e2,e3⟩;have HX:=aa (cS e1 (cS hS2 (cS e2 e3)));clear e1 e2 e3 hS2;go_wp2
          go_end0
          have h5:=HR.out;exact⟨rfl,d3,HX.out.1,HX.out.2.1,permIn_trans _ _ _ a b HP1.out (permIn_trans _ _ _ a b (permIn_mono d1 d2 a mid a b (aj _) (by omega) (by rw[HD1.out];exact h3) HP2.out) (permIn_mono d2 d3 mid b a b (by omega) (aj _) (by rw[HD2.out];exact h3) HX.out.2.2.1)),gp ⟨by omega,by omega⟩ (by rw[HD1.out];exact h3) HCX.out HP2.out HQ2.out HX.out.2.2.1 HX.out.2.2.2⟩
         | false=>
          go_wp2
          go_end0
          have h5:=HR.out;have hq:SortedIn (ltOf cf) mid b d2:=by
           by_cases y1:mid<en
           ·by_cases y2:en<b
            ·exact absurd (hf.2 ⟨y1,y2⟩) (by decide)
            ·exact eJ HR3.out.1 (aj _) (by omega)
           ·exact eJ HR3.out.2 (by omega) (aj _)
          exact⟨rfl,d2,HD2.out,S3.out,permIn_trans _ _ _ a b HP1.out (permIn_mono d1 d2 a mid a b (aj _) (by omega) (by rw[HD1.out];exact h3) HP2.out),gp ⟨by omega,by omega⟩ (by rw[HD1.out];exact h3) HCX.out HP2.out HQ2.out (permIn_refl d2 mid b) hq⟩
end
end Go.Proofs.YtfnciigbbolckaaGreat
