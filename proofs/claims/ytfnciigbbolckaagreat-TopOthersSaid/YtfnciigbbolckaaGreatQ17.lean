/- Part 17 of the proof about mailboattop.TopOthers. No condition. -/
import Derived.Test.YtfnciigbbolckaaGreatQ00
import Derived.Test.YtfnciigbbolckaaGreatQ14
set_option linter.unusedVariables false
set_option linter.unusedSimpArgs false
set_option maxRecDepth 100000
set_option maxHeartbeats 64000000
namespace Go.Proofs.YtfnciigbbolckaaGreat
open Go Go.RowKit Iv
attribute [local go_sem] Oper.semAt_some
attribute [local go_sem] pw gu B_app pv B_get B_toList
section
open Go.Sort Go.Shelf
theorem swr_h (g cap N:Nat) (d0:Array Hld) (w0:World) (R:RowK hldC 5 w0 g 0 d0) (hN:d0.size=N) (hsz:N<1000000000000) (fv:Value) (d:Array Hld) (a b n:Nat) (w:World) (hs:d.size=N) (S:SWK hldC 5 w0 g 0 d w) (h1:a+n≤b) (h2:b+n≤N):
  Calls Tryz.prog 212 #[.slice (some ⟨g,0,none⟩) N cap,.int .i64 (a:Int),.int .i64 (b:Int),.int .i64 (n:Int),fv] w fun e w'=>e= .returned (.tuple #[])∧SWK hldC 5 w0 g 0 (swR d a b n) w':=by
 have S0:Aside (SWK hldC 5 w0 g 0 d w):=S;have HN:=aa hN;have HD:=aa hs;clear S hN hs;go_enter Tryz.func212,Tryz.ntmps212
 go_wp2
 go_loopw [10] (fun iv wr=>∃(i:Nat),i≤n∧iv= .int .i64 (i:Int)∧Aside (SWK hldC 5 w0 g 0 (swR d a b i) wr)) (fun iv _=>n-(intOf iv).toNat)
 case atStart=>exact⟨0,aE _,rfl,S0⟩
 case round=>
  clear S0;obtain⟨i,hi,rfl,S1⟩:=hrel;by_cases hlt:i<n
  ·have k1:(i:Int)<(n:Int):=by omega
   obtain⟨dk,hdk⟩:=cR (swR d a b i)
   rw[hdk]at S1;have HDK:Hid (dk.size=N):=aa (by rw[←hdk,eI];exact HD.out);have HSW:Hid (swR d a b (i+1)=swp dk (a+i) (b+i)):=aa (by rw[←hdk];rfl);obtain⟨p,hp⟩:=cR (a+i)
   obtain⟨q,hq⟩:=cR (b+i)
   rw[hp,hq]at HSW;have v1:IntKind.i64.wrap ((a:Int)+(i:Int))=(p:Int):=by rw[ax];omega
   have v2:IntKind.i64.wrap ((b:Int)+(i:Int))=(q:Int):=by rw[ax];omega
   have p0:(0:Int)≤(p:Int):=by omega
   have p1:(p:Int)<(N:Int):=by omega
   have q0:(0:Int)≤(q:Int):=by omega
   have q1:(q:Int)<(N:Int):=by omega
   have p2:p<N:=by omega
   have q2:q<N:=by omega
   clear hdk hp hq;go_upto_region 3 with fail
   obtain⟨x,hx⟩:∃z,z=dk[p]! :=⟨_,rfl⟩
   obtain⟨y,hy⟩:∃z,z=dk[q]! :=⟨_,rfl⟩
   have x0:wr.cell? ⟨g,p*5,none⟩=some (.int .i64 x.nd):=dh S1.out R HN.out HDK.out (i:=p) (j:=0) (by omega) (by rw[←hx];rfl);have x1:wr.cell? ⟨g,p*5+1,none⟩=some (.int .i64 x.fr):=dh S1.out R HN.out HDK.out (i:=p) (j:=1) (by omega) (by rw[←hx];rfl);have x2:wr.cell? ⟨g,p*5+2,none⟩=some (.int .i64 x.tt):=dh S1.out R HN.out HDK.out (i:=p) (j:=2) (by omega) (by rw[←hx];rfl);have x3:wr.cell? ⟨g,p*5+3,none⟩=some (.int .i64 x.sz):=dh S1.out R HN.out HDK.out (i:=p) (j:=3) (by omega) (by rw[←hx];rfl);have x4:wr.cell? ⟨g,p*5+4,none⟩=some (.int .i64 x.tk):=dh S1.out R HN.out HDK.out (i:=p) (j:=4) (by omega) (by rw[←hx];rfl);have y0:wr.cell? ⟨g,q*5,none⟩=some (.int .i64 y.nd):=dh S1.out R HN.out HDK.out (i:=q) (j:=0) (by omega) (by rw[←hy];rfl);have y1:wr.cell? ⟨g,q*5+1,none⟩=some (.int .i64 y.fr):=dh S1.out R HN.out HDK.out (i:=q) (j:=1) (by omega) (by rw[←hy];rfl);have y2:wr.cell? ⟨g,q*5+2,none⟩=some (.int .i64 y.tt):=dh S1.out R HN.out HDK.out (i:=q) (j:=2) (by omega) (by rw[←hy];rfl);have y3:wr.cell? ⟨g,q*5+3,none⟩=some (.int .i64 y.sz):=dh S1.out R HN.out HDK.out (i:=q) (j:=3) (by omega) (by rw[←hy];rfl);have y4:wr.cell? ⟨g,q*5+4,none⟩=some (.int .i64 y.tk):=dh S1.out R HN.out HDK.out (i:=q) (j:=4) (by omega) (by rw[←hy];rfl);have HT1:Hid (wr.drew.there g (p*5) 5):=aa (ep S1.out.drew R HN.out HDK.out (by omega));have HT2:Hid ((wr.drew.setCells g (p*5) (hldC y)).there g (q*5) 5):=aa (World.there_setCells (ep S1.out.drew R HN.out HDK.out (by omega)) _ _ _);have S2:Aside (SWK hldC 5 w0 g 0 (swp dk p q) ((wr.drew.setCells g (p*5) (hldC y)).setCells g (q*5) (hldC x))):=gg S1.out R HDK.out (by omega) (by omega) hx hy;clear hx hy S1
   refine dd (fun V=>V.cell? ⟨g,p*5,none⟩=some (.int .i64 x.nd)∧V.cell? ⟨g,p*5+1,none⟩=some (.int .i64 x.fr)∧V.cell? ⟨g,p*5+2,none⟩=some (.int .i64 x.tt)∧V.cell? ⟨g,p*5+3,none⟩=some (.int .i64 x.sz)∧V.cell? ⟨g,p*5+4,none⟩=some (.int .i64 x.tk)∧V.cell? ⟨g,q*5,none⟩=some (.int .i64 y.nd)∧V.cell? ⟨g,q*5+1,none⟩=some (.int .i64 y.fr)∧V.cell? ⟨g,q*5+2,none⟩=some (.int .i64 y.tt)∧V.cell? ⟨g,q*5+3,none⟩=some (.int .i64 y.sz)∧V.cell? ⟨g,q*5+4,none⟩=some (.int .i64 y.tk)) [0,0,0,0,0,0,0,0,0,0,0,0,0,1,0,0,0,0,0,1,0,3,0,3] [0,1,2,3,4,5,6,7,8,9,10,11,12,13,14,15,16,17,18,19,20,21,22,23] (by kernel_rfl) (by kernel_rfl) ?_ ?_
   case refine_1=>exact⟨x0,x1,x2,x3,x4,y0,y1,y2,y3,y4⟩
   (iterate 21 (refine cX rfl (by decide) (by rfl) (fun w1 hS=>by(try(have hS:=hS rfl;obtain hS:=hS;repeat (obtain⟨_,hS⟩:=hS)));go_simp;rfl) ?_;simp only[Act.put,ae,af,ag]))
   refine di rfl rfl (by rfl) (fun K hK=>?_)
   refine wp_store_mid 75 _ _ rfl g (p*5) #[.int .i64 y.nd,.int .i64 y.fr,.int .i64 y.tt,.int .i64 y.sz,.int .i64 y.tk] rfl rfl HT1.out (by kernel_rfl) (by simp[Value.oneCell']) ?_
   refine hK _ _ ?_
   clear hK K;simp only[Act.put,ae,af,ag]
   (iterate 1 (refine cX rfl (by decide) (by rfl) (fun w1 hS=>by(try(have hS:=hS rfl;obtain hS:=hS;repeat (obtain⟨_,hS⟩:=hS)));go_simp;rfl) ?_;simp only[Act.put,ae,af,ag]))
   refine di rfl rfl (by rfl) (fun K hK=>?_)
   refine wp_store_mid 75 _ _ rfl g (q*5) #[.int .i64 x.nd,.int .i64 x.fr,.int .i64 x.tt,.int .i64 x.sz,.int .i64 x.tk] rfl rfl HT2.out (by kernel_rfl) (by simp[Value.oneCell']) ?_
   refine hK _ _ ?_
   clear hK K;simp only[Act.put,ae,af,ag];refine du ?_
   obtain⟨w2,hw2⟩:=cR ((wr.drew.setCells g (p*5) [.int .i64 y.nd,.int .i64 y.fr,.int .i64 y.tt,.int .i64 y.sz,.int .i64 y.tk]).setCells g (q*5) [.int .i64 x.nd,.int .i64 x.fr,.int .i64 x.tt,.int .i64 x.sz,.int .i64 x.tk])
   replace S2:Aside (SWK hldC 5 w0 g 0 (swp dk p q) w2):=by rw[←hw2];exact S2
   rw[hw2];clear hw2 HT1 HT2 x0 x1 x2 x3 x4 y0 y1 y2 y3 y4;go_wp2
   go_roundw
   case rel=>exact⟨i+1,by omega,by go_num,by rw[HSW.out];exact S2⟩
   case measure=>simp[intOf];omega
  ·obtain rfl:i=n:=by omega
   go_wp2
   go_end0
   exact⟨rfl,S1.out⟩
theorem rot_h (g cap N:Nat) (d0:Array Hld) (w0:World) (R:RowK hldC 5 w0 g 0 d0) (hN:d0.size=N) (hsz:N<1000000000000) (fv:Value) (d:Array Hld) (a m b:Nat) (w:World) (hs:d.size=N) (S:SWK hldC 5 w0 g 0 d w) (h1:a<m) (h2:m<b) (h3:b≤N):
  Calls Tryz.prog 202 #[.slice (some ⟨g,0,none⟩) N cap,.int .i64 (a:Int),.int .i64 (m:Int),.int .i64 (b:Int),fv] w fun e w'=>e= .returned (.tuple #[])∧∃d':Array Hld,d'.size=N∧SWK hldC 5 w0 g 0 d' w'∧PermIn a b d d'∧∀k,d'[k]! =d[rotI a m b k]! :=by
 have S0:Aside (SWK hldC 5 w0 g 0 d w):=S;have HN:=aa hN;have HD:=aa hs;clear S hN hs;obtain⟨I,hI⟩:=cR (m-a)
 obtain⟨J,hJ⟩:=cR (b-m)
 have v1:IntKind.i64.wrap ((m:Int)-(a:Int))=(I:Int):=by rw[ax];omega
 have v2:IntKind.i64.wrap ((b:Int)-(m:Int))=(J:Int):=by rw[ax];omega
 go_enter Tryz.func202,Tryz.ntmps202
 go_wp2
 go_loopw [10,11] (fun iv jv wr=>∃(i j:Nat) (dk:Array Hld),1≤i∧i≤I∧1≤j∧j≤J∧iv= .int .i64 (i:Int)∧jv= .int .i64 (j:Int)∧Hid (dk.size=N)∧Aside (SWK hldC 5 w0 g 0 dk wr)∧Hid (PermIn a b d dk)∧Hid (∀k,d[rotI a m b k]! =dk[rotI (m-i) m (m+j) k]!)) (fun iv jv _=>(intOf iv).toNat+(intOf jv).toNat)
 case atStart=>exact⟨I,J,d,by omega,aj _,by omega,aj _,rfl,rfl,HD,S0,aa (permIn_refl d a b),aa (fun k=>by rw[show m-I=a by omega,show m+J=b by omega])⟩
 case round=>
  clear S0;obtain⟨i,j,dk,i1,i2,j1,j2,rfl,rfl,HDK,S1,HPM,HE⟩:=hrel;obtain⟨p,hp⟩:=cR (m-i)
  have v3:IntKind.i64.wrap ((m:Int)-(i:Int))=(p:Int):=by rw[ax];omega
  by_cases hij:i=j
  ·subst hij
   have HF:Hid (∀k,(swR dk p m i)[k]! =d[rotI a m b k]!):=aa (fun k=>by rw[HE.out,←hp];exact rot_eq dk m i k (by omega) (by rw[HDK.out];omega));go_wp2_with fail
   refine(swr_h g cap N d0 w0 R HN.out hsz fv dk p m i _ HDK.out S1.out (by omega) (by omega)).mono ?_
   rintro e w2 ⟨rfl,hS2⟩;have S2:Aside (SWK hldC 5 w0 g 0 _ w2):=hS2;have HDK2:Hid ((swR dk p m i).size=N):=aa (by rw[eI];exact HDK.out);have HP2:Hid (PermIn a b d (swR dk p m i)):=aa (permIn_trans _ _ _ a b HPM.out (fQ dk a b p m (by omega) (by rw[HDK.out];omega) i (by omega) (by omega)));clear S1 hS2;go_wp2
   go_end0
   exact⟨rfl,_,HDK2.out,S2.out,HP2.out,HF.out⟩
  ·have hb:((i:Int)==(j:Int))=false:=beq_eq_false_iff_ne.2 (by omega)
   have hne:¬(i:Int)=(j:Int):=by omega
   by_cases hlt:j<i
   ·have k1:(j:Int)<(i:Int):=by omega
    obtain⟨q,hq⟩:=cR (i-j)
    have v4:IntKind.i64.wrap ((i:Int)-(j:Int))=(q:Int):=by rw[ax];omega
    have HF:Hid (∀k,d[rotI a m b k]! =(swR dk p m j)[rotI (m-q) m (m+j) k]!):=aa (fun k=>by rw[HE.out,←hp,←hq];exact(rot_gt dk m i j k hlt (by omega) (by rw[HDK.out];omega)).symm);go_wp2_with fail
    refine(swr_h g cap N d0 w0 R HN.out hsz fv dk p m j _ HDK.out S1.out (by omega) (by omega)).mono ?_
    rintro e w2 ⟨rfl,hS2⟩;have S2:Aside (SWK hldC 5 w0 g 0 _ w2):=hS2;have HDK2:Hid ((swR dk p m j).size=N):=aa (by rw[eI];exact HDK.out);have HP2:Hid (PermIn a b d (swR dk p m j)):=aa (permIn_trans _ _ _ a b HPM.out (fQ dk a b p m (by omega) (by rw[HDK.out];omega) j (by omega) (by omega)));clear S1 hS2;go_wp2
    go_roundw
    case rel=>exact⟨q,j,_,by omega,by omega,j1,j2,rfl,rfl,HDK2,S2,HP2,HF⟩
    case measure=>simp[intOf];omega
   ·have k1:¬(j:Int)<(i:Int):=by omega
    obtain⟨q,hq⟩:=cR (j-i)
    obtain⟨s,hs⟩:=cR (m+j)
    obtain⟨r,hr⟩:=cR (s-i)
    have v4:IntKind.i64.wrap ((j:Int)-(i:Int))=(q:Int):=by rw[ax];omega
    have v5:IntKind.i64.wrap ((m:Int)+(j:Int))=(s:Int):=by rw[ax];omega
    have v6:IntKind.i64.wrap ((s:Int)-(i:Int))=(r:Int):=by rw[ax];omega
    have HF:Hid (∀k,d[rotI a m b k]! =(swR dk p r i)[rotI (m-i) m (m+q) k]!):=aa (fun k=>by rw[HE.out,←hp,←hq,←hr,←hs];exact(rot_lt dk m i j k (by omega) (by omega) (by rw[HDK.out];omega)).symm);go_wp2_with fail
    refine(swr_h g cap N d0 w0 R HN.out hsz fv dk p r i _ HDK.out S1.out (by omega) (by omega)).mono ?_
    rintro e w2 ⟨rfl,hS2⟩;have S2:Aside (SWK hldC 5 w0 g 0 _ w2):=hS2;have HDK2:Hid ((swR dk p r i).size=N):=aa (by rw[eI];exact HDK.out);have HP2:Hid (PermIn a b d (swR dk p r i)):=aa (permIn_trans _ _ _ a b HPM.out (fQ dk a b p r (by omega) (by rw[HDK.out];omega) i (by omega) (by omega)));clear S1 hS2;go_wp2
    go_roundw
    case rel=>exact⟨i,q,_,i1,i2,by omega,by omega,rfl,rfl,HDK2,S2,HP2,HF⟩
    case measure=>simp[intOf];omega
end
end Go.Proofs.YtfnciigbbolckaaGreat
