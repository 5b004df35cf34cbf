/- Part 7 of the proof about mailboattop.TopOthers. No condition. -/
import Derived.Test.YtfnciigbbolckaaGreatQ00
import Derived.Test.YtfnciigbbolckaaGreatQ05
import Derived.Test.YtfnciigbbolckaaGreatQ06
set_option linter.unusedVariables false
set_option linter.unusedSimpArgs false
set_option maxRecDepth 100000
set_option maxHeartbeats 64000000
namespace Go.Proofs.YtfnciigbbolckaaGreat
open Go Go.RowKit Iv
attribute [local go_sem] Oper.semAt_some
attribute [local go_sem] pw gu B_app pv B_get B_toList
section
structure Hp where
 ct:Int
 bg:Int
 en:Int
 ar:Int
structure Rq where
 src:Int
 dst:Int
 sz:Int
 rd:Int
 D:Int
 pr:Int
 cu:Bool
structure Tk where
 no:Int
 q:Rq
 hs:List Hp
 st:Int
 un:Int
def conOf (cs:List Con) (i:Int):Con:=cs.getD i.toNat ⟨0,0,0,0,0,0,0⟩
def lvH (cs:List Con) (q:Rq) (h:Hp):Int:=leaveS q.cu h.en (conOf cs h.ct).rg
def nodeE (cs:List Con):Int→List Hp→Int
 | n,[]=>n
 | _,h::r=>nodeE cs (conOf cs h.ct).tt r
def timeE:Int→List Hp→Int
 | t,[]=>t
 | _,h::r=>timeE h.ar r
def fromE:Int→List Hp→Int
 | t,[]=>t
 | _,h::r=>fromE h.bg r
theorem fl (cs:List Con):∀(a b:List Hp) (n:Int),nodeE cs n (a++b)=nodeE cs (nodeE cs n a) b
 | [],_,_=>rfl
 | _::a,b,_=>fl cs a b _
theorem f7:∀(a b:List Hp) (n:Int),timeE n (a++b)=timeE (timeE n a) b
 | [],_,_=>rfl
 | _::a,b,_=>f7 a b _
theorem jc:∀(a b:List Hp) (n:Int),fromE n (a++b)=fromE (fromE n a) b
 | [],_,_=>rfl
 | _::a,b,_=>jc a b _
structure HopOK (cs:List Con) (q:Rq) (n t:Int) (h:Hp):Prop where
 c0:0≤h.ct
 c1:h.ct<cs.length
 fr:(conOf cs h.ct).fr=n
 nd:n≠q.dst
 tm:t≤h.bg
 st:(conOf cs h.ct).st≤h.bg
 fit:h.bg≤(conOf cs h.ct).en - durS (conOf cs h.ct) q.sz.toNat
 en:h.en=h.bg+durS (conOf cs h.ct) q.sz.toNat
 ar:h.ar=h.en+(conOf cs h.ct).rg
def WayOK (cs:List Con) (q:Rq):Int→Int→List Hp→Prop
 | _,_,[]=>True
 | n,t,h::r=>HopOK cs q n t h∧WayOK cs q (conOf cs h.ct).tt h.ar r
theorem jM (cs:List Con) (q:Rq):∀(a b:List Hp) (n t:Int),WayOK cs q n t (a++b)↔WayOK cs q n t a∧WayOK cs q (nodeE cs n a) (timeE t a) b
 | [],_,_,_=>by simp[WayOK,nodeE,timeE]
 | h::a,b,n,t=>by
  rw[a8];simp only[WayOK,nodeE,timeE];rw[jM cs q a b];exact(and_assoc).symm
def hopsH (cs:List Con) (q:Rq) (no:Int):Int→Int→List Hp→List Hld
 | _,_,[]=>[]
 | n,f,h::r=>(if f<lvH cs q h then[⟨n,f,lvH cs q h,q.sz,no⟩]else[])++hopsH cs q no (conOf cs h.ct).tt h.bg r
def endH (q:Rq) (no un n f:Int):List Hld:=if n≠q.dst∧f<un then[⟨n,f,un,q.sz,no⟩]else[]
theorem gP (cs:List Con) (q:Rq) (no:Int):∀(a b:List Hp) (n f:Int),hopsH cs q no n f (a++b)=hopsH cs q no n f a++hopsH cs q no (nodeE cs n a) (fromE f a) b
 | [],_,_,_=>rfl
 | h::a,b,n,f=>by
  rw[a8];simp only[hopsH,nodeE,fromE];rw[gP cs q no a b,aY]
def hldsT (cs:List Con) (t:Tk):List Hld:=hopsH cs t.q t.no t.q.src t.q.rd t.hs++endH t.q t.no t.un (nodeE cs t.q.src t.hs) (fromE t.q.rd t.hs)
def bksL (no:Int) (hs:List Hp):List Bkg:=hs.map fun h=>⟨h.ct,h.bg,h.en,no⟩
def allB (ts:List Tk):List Bkg:=ts.flatMap fun t=>bksL t.no t.hs
def allH (cs:List Con) (ts:List Tk):List Hld:=ts.flatMap (hldsT cs)
def disB (a b:Bkg):Prop:=a.ct=b.ct→a.en≤b.bg∨b.en≤a.bg
theorem disB.symm {a b:Bkg} (h:disB a b):disB b a:=fun e=>(h e.symm).symm
def BkSet (cs:List Con) (B:List Bkg):Prop:=B.length≤512∧(∀b∈B,bVal cs b)∧B.Pairwise disB
def HdSet (qs:List Int) (H:List Hld):Prop:=H.length≤512∧(∀h∈H,hValN qs.length h)∧LevOK qs H
def ReqO (n:Nat) (q:Rq):Prop:=ReqOK n q.src q.dst q.sz q.rd q.D q.pr
structure TkW (qs:List Int) (cs:List Con) (t:Tk):Prop where
 n0:1≤t.no
 n1:t.no≤1152921504606846976
 rq:ReqO qs.length t.q
 way:WayOK cs t.q t.q.src t.q.rd t.hs
 st:(t.st=1∧t.hs≠[]∧nodeE cs t.q.src t.hs=t.q.dst∧timeE t.q.rd t.hs≤t.q.D∧t.un=0)∨(t.st=2∧nodeE cs t.q.src t.hs≠t.q.dst∧0≤t.un∧t.un≤1099511627776)
def kp (vs:List Int) (now:Int) (b:Bkg):Bool:= !(vs.contains b.tk&&decide (b.bg>now))
def begun (now:Int) (hs:List Hp):Nat:=(hs.takeWhile fun h=>decide (h.bg≤now)).length
structure XInv (qs:List Int) (cs:List Con) (now:Int) (ts:List Tk) (vs:List Int):Prop where
 num:ts.Pairwise (fun a b=>a.no<b.no)
 len:ts.length≤64
 tk:∀t∈ts,TkW qs cs t
 dis:((allB ts).filter (kp vs now)).Pairwise disB
 lev:LevOK qs (allH cs ts)
 nod:vs.Nodup
 vic:∀v∈vs,∃t∈ts,t.no=v∧t.st=1∧begun now t.hs<t.hs.length
structure LedOK (qs:List Int) (cs:List Con) (ts:List Tk):Prop where
 pl:PlanOK qs cs
 num:ts.Pairwise (fun a b=>a.no<b.no)
 len:ts.length≤64
 tk:∀t∈ts,TkW qs cs t
 dis:(allB ts).Pairwise disB
 lev:LevOK qs (allH cs ts)
 nb:(allB ts).length≤512
 nh:(allH cs ts).length≤512
structure EOK (qs:List Int) (cs:List Con) (q:Rq) (B:List Bkg) (H:List Hld) (hs:List Hp):Prop where
 rq:ReqO qs.length q
 ne:hs≠[]
 len:hs.length≤1000
 way:WayOK cs q q.src q.rd hs
 fin:nodeE cs q.src hs=q.dst
 dl:timeE q.rd hs≤q.D
 dis:∀h∈hs,∀b∈B,b.ct=h.ct→h.en≤b.bg∨b.en≤h.bg
 lev:LevOK qs (H++hopsH cs q 0 q.src q.rd hs)
theorem fK {cs:List Con} {i:Int} (h0:0≤i) (h1:i<cs.length):∃c,cs[i.toNat]? =some c∧conOf cs i=c:=by
 obtain⟨n,rfl⟩:=bh h0;have hn:n<cs.length:=by omega
 exact⟨cs[n],by simp[hn],by unfold conOf;simp[hn]⟩
theorem PlanOK.cf {qs:List Int} {cs:List Con} (h:PlanOK qs cs) {i:Int} (h0:0≤i) (h1:i<cs.length):CF (conOf cs i)∧(conOf cs i).tt<qs.length:=by
 obtain⟨c,hc,e⟩:=fK h0 h1;rw[e];exact⟨ee (h.2.2 _ _ hc).1,(h.2.2 _ _ hc).2.2.1⟩
theorem HopOK.facts {qs:List Int} {cs:List Con} (hp:PlanOK qs cs) {q:Rq} (hq:ReqO qs.length q) {n t:Int} {h:Hp} (hh:HopOK cs q n t h):h.bg<h.en∧h.en<h.ar∧h.en≤(conOf cs h.ct).en∧h.ar≤1099511627776∧lvH cs q h≤1099511627776∧h.en≤lvH cs q h∧0≤h.bg:=by
 obtain⟨c0,c1,fr,nd,tm,st,fit,en,ar⟩:=hh;obtain⟨cf,_⟩:=hp.cf c0 c1;obtain⟨_,_,⟨s1,s2,_⟩,_⟩:=hq;have hd:=fM cf (s:=q.sz.toNat) (by omega) (by omega);have r0:=cf.rg0;have r1:=cf.en1;have r2:=cf.st0;refine⟨by omega,by omega,by omega,by omega,?_,?_,by omega⟩<;>unfold lvH leaveS<;>split<;>omega
theorem gR {qs:List Int} {cs:List Con} (hp:PlanOK qs cs) {q:Rq} (hq:ReqO qs.length q):∀{hs:List Hp} {n t:Int},WayOK cs q n t hs→(∀h∈hs,t≤h.bg)∧hs.Pairwise (fun a b=>a.ar≤b.bg)∧t≤timeE t hs∧(∀h∈hs,h.ar≤timeE t hs)
 | [],_,t,_=>⟨(fun _ h=>by cases h),List.Pairwise.nil,aR _,(fun _ h=>by cases h)⟩
 | h::r,n,t,hw=>by
  obtain⟨h1,h2⟩:=hw;obtain⟨i1,i2,i3,i4⟩:=gR hp hq h2;have hf:=h1.facts hp hq;have ht:=h1.tm;refine⟨fun x hx=>?_,List.Pairwise.cons (fun x hx=>i1 x hx) i2,?_,fun x hx=>?_⟩
  ·rcases aG.1 hx with rfl | hx
   ·exact ht
   ·have:=i1 x hx;omega
  ·show t≤timeE h.ar r
   omega
  ·show x.ar≤timeE h.ar r
   rcases aG.1 hx with rfl | hx
   ·exact i3
   ·exact i4 x hx
theorem iy {cs:List Con} {q:Rq}:∀{hs:List Hp} {n t:Int},WayOK cs q n t hs→∀h∈hs,∃n t,HopOK cs q n t h
 | [],_,_,_,h,hm=>by cases hm
 | x::r,n,t,hw,h,hm=>by
  rcases aG.1 hm with rfl | hm
  ·exact⟨_,_,hw.1⟩
  ·exact iy hw.2 h hm
theorem oO {qs:List Int} {cs:List Con} (hp:PlanOK qs cs) {q:Rq} (hq:ReqO qs.length q) {hs:List Hp} {n t no:Int} (hw:WayOK cs q n t hs) (h0:0≤no) (h1:no≤1152921504606846976):∀b∈bksL no hs,bVal cs b:=by
 intro b hb;obtain⟨h,hm,rfl⟩:=bu.1 hb;obtain⟨n',t',hh⟩:=iy hw h hm;have hf:=hh.facts hp hq;refine⟨⟨hh.c0,hh.c1⟩,⟨h0,h1⟩,fun c hc=>?_⟩
 obtain⟨c',hc',e⟩:=fK hh.c0 hh.c1;have:c=c':=by rw[hc']at hc;exact(Option.some.inj hc).symm
 subst this;have s:=hh.st;rw[e]at s hf;exact⟨s,hf.1,hf.2.2.1⟩
theorem oP {qs:List Int} {cs:List Con} (hp:PlanOK qs cs) {q:Rq} (hq:ReqO qs.length q) {hs:List Hp} {n t no:Int} (hw:WayOK cs q n t hs):(bksL no hs).Pairwise disB:=by
 obtain⟨_,h2,_⟩:=gR hp hq hw;unfold bksL;rw[List.pairwise_map];refine h2.imp_of_mem ?_
 intro a b ha hb hab _;obtain⟨n',t',hh⟩:=iy hw a ha;have hf:=hh.facts hp hq;exact .inl (by show a.en≤b.bg;omega)
theorem jd {qs:List Int} {cs:List Con} (hp:PlanOK qs cs) {q:Rq} (hq:ReqO qs.length q) {no:Int} (h0:0≤no) (h1:no≤1152921504606846976):∀{hs:List Hp} {n t f:Int},WayOK cs q n t hs→0≤n→n<qs.length→0≤f→f≤t→∀h∈hopsH cs q no n f hs,hValN qs.length h
 | [],_,_,_,_,_,_,_,_,h,hm=>by cases hm
 | x::r,n,t,f,hw,n0,n1,f0,f1,h,hm=>by
  obtain⟨k1,k2⟩:=hw;have hf:=k1.facts hp hq;have hs:1≤q.sz∧q.sz≤65536:=⟨hq.2.2.1.1,hq.2.2.1.2.1⟩
  obtain⟨cf,ctt⟩:=hp.cf k1.c0 k1.c1;unfold hopsH at hm;rcases aA.1 hm with hm | hm
  ·split at hm
   ·rename_i hlt
    rw[aH.1 hm];exact⟨⟨n0,n1⟩,⟨f0,hlt,hf.2.2.2.2.1⟩,hs,h0,h1⟩
   ·cases hm
  ·exact jd hp hq h0 h1 k2 cf.tt0 ctt hf.2.2.2.2.2.2 (by omega) h hm
theorem lu {qs:List Int} {cs:List Con} (hp:PlanOK qs cs) {q:Rq}:∀{hs:List Hp} {n t:Int},WayOK cs q n t hs→0≤n→n<qs.length→0≤nodeE cs n hs∧nodeE cs n hs<qs.length
 | [],_,_,_,n0,n1=>⟨n0,n1⟩
 | x::r,n,t,hw,n0,n1=>by
  obtain⟨cf,ctt⟩:=hp.cf hw.1.c0 hw.1.c1;exact lu (n:=(conOf cs x.ct).tt) (t:=x.ar) hp hw.2 cf.tt0 ctt
theorem gS {qs:List Int} {cs:List Con} (hp:PlanOK qs cs) {q:Rq} (hq:ReqO qs.length q):∀{hs:List Hp} {n t f:Int},WayOK cs q n t hs→f≤t→0≤f→0≤fromE f hs∧fromE f hs≤timeE t hs
 | [],_,_,_,_,h,h0=>⟨h0,h⟩
 | x::r,n,t,f,hw,h,h0=>by
  have hf:=hw.1.facts hp hq;exact gS hp hq (t:=x.ar) (f:=x.bg) hw.2 (by omega) (by omega)
theorem mH {qs:List Int} {cs:List Con} (hp:PlanOK qs cs) {q:Rq} (hq:ReqO qs.length q):∀{hs:List Hp} {n t:Int},WayOK cs q n t hs→t≤1099511627776→timeE t hs≤1099511627776
 | [],_,_,_,h=>h
 | x::r,n,t,hw,h=>by
  have hf:=hw.1.facts hp hq;exact mH hp hq (t:=x.ar) hw.2 (by omega)
theorem je {qs:List Int} {cs:List Con} (hp:PlanOK qs cs) {t:Tk} (h:TkW qs cs t):∀x∈hldsT cs t,hValN qs.length x:=by
 have hq:=h.rq;obtain⟨⟨s0,s1,_,_⟩,hne,⟨z1,z2,r0,r1,d1⟩,_⟩:=id hq;have n0:=h.n0;intro x hx;unfold hldsT at hx;rcases aA.1 hx with hx | hx
 ·exact jd hp hq (by omega) h.n1 h.way s0 s1 r0 (aR _) x hx
 ·unfold endH at hx
  split at hx
  ·rename_i hc
   rw[aH.1 hx];have hb:=lu hp h.way s0 s1;have hf:=gS hp hq h.way (aR _) r0;refine⟨hb,⟨hf.1,hc.2,?_⟩,⟨z1,z2⟩,(by show 0≤t.no;omega),h.n1⟩
   rcases h.st with⟨_,_,_,_,e⟩ | ⟨_,_,_,e⟩
   ·show t.un≤_;omega
   ·exact e
  ·cases hx
theorem ka {qs:List Int} {cs:List Con} (hp:PlanOK qs cs) {ts:List Tk} (h:∀t∈ts,TkW qs cs t):∀b∈allB ts,bVal cs b:=by
 intro b hb;obtain⟨t,ht,hb⟩:=cw.1 hb;have:=h t ht;exact oO hp this.rq this.way (by have:=this.n0;omega) this.n1 b hb
theorem ke {qs:List Int} {cs:List Con} (hp:PlanOK qs cs) {ts:List Tk} (h:∀t∈ts,TkW qs cs t):∀x∈allH cs ts,hValN qs.length x:=by
 intro b hb;obtain⟨t,ht,hb⟩:=cw.1 hb;exact je hp (h t ht) b hb
theorem LevOK.perm {qs:List Int} {H H':List Hld} (h:LevOK qs H) (hp:H.Perm H'):LevOK qs H':=fun n q hn t=>by rw[←iw hp];exact h n q hn t
theorem fO {B B':List Bkg} (h:B.Perm B'):B.Pairwise disB↔B'.Pairwise disB:=h.pairwise_iff (fun h=>disB.symm h)
theorem dY (cs:List Con) (q:Rq) (no n f:Int) (h:Hp) (r:List Hp):hopsH cs q no n f (h::r)=(if f<lvH cs q h then[⟨n,f,lvH cs q h,q.sz,no⟩]else[])++hopsH cs q no (conOf cs h.ct).tt h.bg r:=rfl
theorem iz (a b:List Tk):allB (a++b)=allB a++allB b:=aV
theorem fm (t:Tk) (b:List Tk):allB (t::b)=bksL t.no t.hs++allB b:=cG
theorem fD (cs:List Con) (a b:List Tk):allH cs (a++b)=allH cs a++allH cs b:=aV
theorem fp (cs:List Con) (t:Tk) (b:List Tk):allH cs (t::b)=hldsT cs t++allH cs b:=cG
theorem kg (no:Int) (a b:List Hp):bksL no (a++b)=bksL no a++bksL no b:=bL
theorem oQ {no:Int} {hs:List Hp} {b:Bkg} (h:b∈bksL no hs):b.tk=no:=by
 obtain⟨x,_,rfl⟩:=bu.1 h;rfl
theorem oS {ts:List Tk} {b:Bkg} (h:b∈allB ts):∃t∈ts,b.tk=t.no∧b∈bksL t.no t.hs:=by
 obtain⟨t,ht,hb⟩:=cw.1 h;exact⟨t,ht,oQ hb,hb⟩
theorem jN (cs:List Con) (A C:List Tk) (t:Tk) (n x:Int):lev (allH cs (A++t::C)) n x=lev (allH cs (A++C)) n x+lev (hldsT cs t) n x:=by
 rw[fD,fp,fD,dJ,dJ,dJ];omega
theorem midB (A C:List Tk) (t:Tk) (p:Bkg→Bool):((allB (A++t::C)).filter p).Perm ((bksL t.no t.hs).filter p++(allB (A++C)).filter p):=by
 rw[iz,fm,iz,aW,aW,aW];exact List.perm_append_comm_assoc _ _ _
theorem kp_other {vs:List Int} {v now:Int} {b:Bkg} (h:b.tk≠v):kp (v::vs) now b=kp vs now b:=by
 unfold kp;rw[List.contains_cons];have:(b.tk==v)=false:=by simpa using h
 rw[this,Bool.false_or]
theorem mI {vs:List Int} {now:Int} {b:Bkg} (h:b.bg≤now):kp vs now b=true:=by
 unfold kp;rw[show decide (b.bg>now)=false from decide_eq_false (by omega)];simp
theorem kp_notin {vs:List Int} {now:Int} {b:Bkg} (h:b.tk ∉ vs):kp vs now b=true:=by
 unfold kp;have:vs.contains b.tk=false:=by simpa using h
 rw[this];simp
theorem eE {α:Type} {p:α→Bool}:∀{l:List α},(∀x∈l,p x=true)→l.filter p=l:=fun h=>List.filter_eq_self.2 h
theorem jf {A C:List Tk} {t:Tk} (h:(A++t::C).Pairwise (fun a b=>a.no<b.no)):∀x∈A++C,x.no≠t.no:=by
 intro x hx;obtain⟨h1,h2,h3⟩:=aT.1 h;rcases aA.1 hx with hx | hx
 ·have:=h3 x hx t (by simp);omega
 ·have:=(aM.1 h2).1 x hx;omega
theorem oT {A C:List Tk} {t t':Tk} (h:(A++t::C).Pairwise (fun a b=>a.no<b.no)) (e:t'.no=t.no):(A++t'::C).Pairwise (fun a b=>a.no<b.no):=by
 obtain⟨h1,h2,h3⟩:=aT.1 h;obtain⟨h4,h5⟩:=aM.1 h2;refine aT.2 ⟨h1,aM.2 ⟨fun x hx=>by rw[e];exact h4 x hx,h5⟩,fun a ha b hb=>?_⟩
 rcases aG.1 hb with rfl | hb
 ·rw[e];exact h3 a ha t (by simp)
 ·exact h3 a ha b (by simp[hb])
theorem gA (now:Int) (hs:List Hp):(∀h∈hs.take (begun now hs),h.bg≤now)∧∀x r,hs.drop (begun now hs)=x::r→now<x.bg:=by
 unfold begun;have e:hs.takeWhile (fun h=>decide (h.bg≤now))++hs.dropWhile (fun h=>decide (h.bg≤now))=hs:=List.takeWhile_append_dropWhile;refine⟨fun h hm=>?_,fun x r hr=>?_⟩
 ·have e2:hs.take (hs.takeWhile (fun h=>decide (h.bg≤now))).length=hs.takeWhile (fun h=>decide (h.bg≤now)):=by
   conv=>lhs;arg 2;rw[←e]
   exact List.take_left' rfl
  rw[e2]at hm;have:=List.all_eq_true.1 (List.all_takeWhile (p:=fun h:Hp=>decide (h.bg≤now)) (l:=hs)) h hm;exact of_decide_eq_true this
 ·have e2:hs.drop (hs.takeWhile (fun h=>decide (h.bg≤now))).length=hs.dropWhile (fun h=>decide (h.bg≤now)):=by
   conv=>lhs;arg 2;rw[←e]
   exact List.drop_left' rfl
  rw[e2]at hr;have:=List.head?_dropWhile_not (fun h:Hp=>decide (h.bg≤now)) hs;rw[hr]at this;simp at this
  omega
def posN (cs:List Con) (t:Tk) (now:Int):Int:=nodeE cs t.q.src (t.hs.take (begun now t.hs))
def posT (t:Tk) (now:Int):Int:=max (max now t.q.rd) (timeE t.q.rd (t.hs.take (begun now t.hs)))
def stopT (t:Tk) (now un:Int):Tk:=⟨t.no,t.q,t.hs.take (begun now t.hs),2,un⟩
def resT (t:Tk) (hs:List Hp) (now:Int):Tk:=⟨t.no,t.q,t.hs.take (begun now t.hs)++hs,t.st,t.un⟩
def atQ (cs:List Con) (t:Tk) (now:Int):Rq:={t.q with src:=posN cs t now,rd:=posT t now}
structure Open (qs:List Int) (cs:List Con) (now:Int) (t:Tk):Prop where
 w:TkW qs cs t
 st:t.st=1
 bl:begun now t.hs<t.hs.length
theorem Open.parts {qs:List Int} {cs:List Con} {now:Int} {t:Tk} (h:Open qs cs now t):∃x r,t.hs=t.hs.take (begun now t.hs)++x::r∧t.hs.drop (begun now t.hs)=x::r∧now<x.bg∧WayOK cs t.q t.q.src t.q.rd (t.hs.take (begun now t.hs))∧HopOK cs t.q (posN cs t now) (timeE t.q.rd (t.hs.take (begun now t.hs))) x:=by
 have hd:=h.bl
 cases e:t.hs.drop (begun now t.hs)with
 | nil=>
  have:=congrArg List.length e;simp at this
  omega
 | cons x r=>
  have e2:t.hs=t.hs.take (begun now t.hs)++x::r:=by rw[←e,bP]
  have hw:=h.w.way;rw[e2]at hw;obtain⟨w1,w2⟩:=(jM _ _ _ _ _ _).1 hw;exact⟨x,r,e2,rfl,(gA now t.hs).2 x r e,w1,w2.1⟩
theorem Open.node {qs:List Int} {cs:List Con} {now:Int} {t:Tk} (h:Open qs cs now t):posN cs t now≠t.q.dst:=by
 obtain⟨x,r,_,_,_,_,hh⟩:=h.parts;exact hh.nd
theorem stop_tk {qs:List Int} {cs:List Con} {now un:Int} {t:Tk} (h:Open qs cs now t) (u0:0≤un) (u1:un≤1099511627776):TkW qs cs (stopT t now un):=by
 obtain⟨x,r,e,_,hb,w1,hh⟩:=h.parts;exact⟨h.w.n0,h.w.n1,h.w.rq,w1,.inr ⟨rfl,h.node,u0,u1⟩⟩
theorem oU {qs:List Int} {cs:List Con} (hp:PlanOK qs cs) {now:Int} {t:Tk} (h:Open qs cs now t) (hn:now≤1099511627776):posT t now≤1099511627776∧now≤posT t now:=by
 obtain⟨x,r,e,_,hb,w1,hh⟩:=h.parts;obtain⟨_,_,⟨_,_,r0,r1,d1⟩,_⟩:=id h.w.rq;have:=mH hp h.w.rq w1 (by omega);unfold posT;omega
theorem levC_le {a b:Hld} (h1:a.nd=b.nd) (h2:b.fr≤a.fr) (h3:a.tt≤b.tt) (h4:a.sz=b.sz) (h0:0≤b.sz) (n t:Int):levC a n t≤levC b n t:=by
 unfold levC;split
 ·rename_i h
  rw[if_pos ⟨by omega,by omega,by omega⟩,h4];exact aR _
 ·split<;>omega
theorem stop_lev {qs:List Int} {cs:List Con} (hp:PlanOK qs cs) {now un:Int} {t:Tk} (h:Open qs cs now t) (hu:un≤posT t now) (n x:Int):lev (hldsT cs (stopT t now un)) n x≤lev (hldsT cs t) n x:=by
 obtain⟨y,r,e,_,hb,w1,hh⟩:=h.parts;have hf:=hh.facts hp h.w.rq;have htm:=hh.tm;have hv:=je hp h.w;have hr:=gR hp h.w.rq w1;have hsz:=h.w.rq.2.2.1;have hfr:=gS hp h.w.rq w1 (aR _) hsz.2.2.1;have hpos:posT t now≤y.bg:=by
  have:=hr.2.2.1;unfold posT;omega
 have e3:hldsT cs t=hopsH cs t.q t.no t.q.src t.q.rd (t.hs.take (begun now t.hs))++([⟨posN cs t now,fromE t.q.rd (t.hs.take (begun now t.hs)),lvH cs t.q y,t.q.sz,t.no⟩]++(hopsH cs t.q t.no (conOf cs y.ct).tt y.bg r++endH t.q t.no t.un (nodeE cs t.q.src t.hs) (fromE t.q.rd t.hs))):=by
  unfold hldsT;conv=>lhs;arg 1;rw[e]
  rw[gP];have:fromE t.q.rd (t.hs.take (begun now t.hs))<lvH cs t.q y:=by omega
  rw[dY];show _++((if fromE t.q.rd (t.hs.take (begun now t.hs))<lvH cs t.q y then[_]else[])++_)++_=_
  rw[if_pos this,aY,aY];rfl
 have hv2:∀z∈hopsH cs t.q t.no (conOf cs y.ct).tt y.bg r++endH t.q t.no t.un (nodeE cs t.q.src t.hs) (fromE t.q.rd t.hs),0≤z.sz:=fun z hz=>by
  have:=(hv z (by rw[e3];simp only[aA]at hz ⊢;exact .inr (.inr hz))).2.2.1;omega
 have h4:=fk hv2 n x;rw[e3,dJ,dJ];unfold hldsT stopT;rw[dJ];show lev (hopsH cs t.q t.no t.q.src t.q.rd (t.hs.take (begun now t.hs))) n x+lev (endH t.q t.no un (posN cs t now) (fromE t.q.rd (t.hs.take (begun now t.hs)))) n x≤_
 have h5:lev (endH t.q t.no un (posN cs t now) (fromE t.q.rd (t.hs.take (begun now t.hs)))) n x≤lev [⟨posN cs t now,fromE t.q.rd (t.hs.take (begun now t.hs)),lvH cs t.q y,t.q.sz,t.no⟩] n x:=by
  unfold endH;split
  ·simp only[lev]
   have:=levC_le (a:=⟨posN cs t now,fromE t.q.rd (t.hs.take (begun now t.hs)),un,t.q.sz,t.no⟩) (b:=⟨posN cs t now,fromE t.q.rd (t.hs.take (begun now t.hs)),lvH cs t.q y,t.q.sz,t.no⟩) rfl (aR _) (by show un≤lvH cs t.q y;omega) rfl (by show 0≤t.q.sz;omega) n x;omega
  ·exact fk (fun z hz=>by rw[aH.1 hz];show 0≤t.q.sz;omega) n x
 omega
theorem XInv.stop {qs:List Int} {cs:List Con} (hp:PlanOK qs cs) {now un:Int} {A C:List Tk} {t:Tk} {vs:List Int} (h:XInv qs cs now (A++t::C) (t.no::vs)) (ho:Open qs cs now t) (u0:0≤un) (u1:un≤1099511627776) (hu:un≤posT t now):XInv qs cs now (A++stopT t now un::C) vs:=by
 obtain⟨num,len,tk,dis,lv,nod,vic⟩:=h;have hoth:=jf num;have hnv:t.no ∉ vs:=(cL.1 nod).1;refine⟨oT num rfl,by simpa using len,fun x hx=>?_,?_,fun n q hn x=>?_,(cL.1 nod).2,fun v hv=>?_⟩
 ·rcases aA.1 hx with hx | hx
  ·exact tk x (by simp[hx])
  ·rcases aG.1 hx with rfl | hx
   ·exact stop_tk ho u0 u1
   ·exact tk x (by simp[hx])
 ·rw[fO (midB _ _ _ _)]at dis ⊢
  have e1:(allB (A++C)).filter (kp (t.no::vs) now)=(allB (A++C)).filter (kp vs now):=List.filter_congr fun b hb=>by
   obtain⟨y,hy,e,_⟩:=oS hb;exact kp_other (by rw[e];exact hoth y hy)
  rw[e1]at dis;have hs:∃Z,(bksL t.no t.hs).filter (kp (t.no::vs) now)=(bksL (stopT t now un).no (stopT t now un).hs).filter (kp vs now)++Z:=by
   refine⟨(bksL t.no (t.hs.drop (begun now t.hs))).filter (kp (t.no::vs) now),?_⟩
   show _=(bksL t.no (t.hs.take (begun now t.hs))).filter (kp vs now)++_
   conv=>lhs;arg 2;arg 2;rw[←bP (begun now t.hs) t.hs]
   rw[kg,aW];congr 1
   have hb:∀b∈bksL t.no (t.hs.take (begun now t.hs)),b.bg≤now:=fun b hb=>by
    obtain⟨z,hz,rfl⟩:=bu.1 hb;exact(gA now t.hs).1 z hz
   exact List.filter_congr fun b hm=>by rw[mI (hb b hm),mI (hb b hm)]
  obtain⟨Z,hZ⟩:=hs;rw[hZ,aY]at dis;refine List.Pairwise.sublist ?_ dis
  exact List.Sublist.append (List.Sublist.refl _) (List.sublist_append_right _ _)
 ·have h1:=lv n q hn x
  have h2:=stop_lev hp ho hu (n:Int) x;rw[jN]at h1 ⊢;omega
 ·obtain⟨y,hy,e1,e2⟩:=vic v (by simp[hv])
  refine⟨y,?_,e1,e2⟩
  rcases aA.1 hy with hy | hy
  ·simp[hy]
  ·rcases aG.1 hy with rfl | hy
   ·exact absurd (e1 ▸ hv) hnv
   ·simp[hy]
theorem lev_nil (n t:Int):lev [] n t=0:=rfl
theorem jz (cs:List Con) {q q':Rq} (hz:q'.sz=q.sz) (hc:q'.cu=q.cu) (no:Int):∀(hs:List Hp) (n f:Int),hopsH cs q' no n f hs=hopsH cs q no n f hs
 | [],_,_=>rfl
 | h::r,n,f=>by
  rw[dY,dY,jz cs hz hc no r];unfold lvH;rw[hz,hc]
theorem jg (cs:List Con) {q q':Rq} (hz:q'.sz=q.sz) (hd:q'.dst=q.dst):∀(hs:List Hp) (n t:Int),WayOK cs q' n t hs→WayOK cs q n t hs
 | [],_,_,_=>trivial
 | h::r,n,t,hw=>by
  obtain⟨⟨c0,c1,fr,nd,tm,st,fit,en,ar⟩,hr⟩:=hw;exact⟨⟨c0,c1,fr,by rw[←hd];exact nd,tm,st,by rw[←hz];exact fit,by rw[←hz];exact en,ar⟩,jg cs hz hd r _ _ hr⟩
theorem lV {cs:List Con} {q:Rq} (no no':Int) (m x:Int):∀(hs:List Hp) (n f:Int),lev (hopsH cs q no n f hs) m x=lev (hopsH cs q no' n f hs) m x
 | [],_,_=>rfl
 | h::r,n,f=>by
  rw[dY,dY,dJ,dJ,lV no no' m x r];congr 1
  split
  ·rfl
  ·rfl
theorem res_tk {qs:List Int} {cs:List Con} {now:Int} {t:Tk} (h:Open qs cs now t) {hs:List Hp} {B:List Bkg} {H:List Hld} (he:EOK qs cs (atQ cs t now) B H hs):TkW qs cs (resT t hs now):=by
 obtain⟨x,r,e,_,hb,w1,hh⟩:=h.parts;refine⟨h.w.n0,h.w.n1,h.w.rq,(jM _ _ _ _ _ _).2 ⟨w1,?_⟩,.inl ⟨h.st,fun e=>he.ne (List.append_eq_nil_iff.1 e).2,?_,?_,?_⟩⟩
 ·show WayOK cs t.q (posN cs t now) (timeE t.q.rd (t.hs.take (begun now t.hs))) hs
  have hw:=jg cs (q:=t.q) (q':=atQ cs t now) rfl rfl hs _ _ he.way;have hne:=he.ne
  cases hs with
  | nil=>trivial
  | cons y r=>
   obtain⟨⟨c0,c1,fr,nd,tm,st,fit,en,ar⟩,hr⟩:=hw;refine⟨⟨c0,c1,fr,nd,?_,st,fit,en,ar⟩,hr⟩
   have:posT t now≤y.bg:=tm;unfold posT at this;omega
 ·show nodeE cs t.q.src (t.hs.take (begun now t.hs)++hs)=t.q.dst
  rw[fl];exact he.fin
 ·show timeE t.q.rd (t.hs.take (begun now t.hs)++hs)≤t.q.D
  rw[f7];have:=he.dl;have hne:=he.ne
  cases hs with
  | nil=>exact absurd rfl hne
  | cons y r=>exact this
 ·rcases h.w.st with⟨_,_,_,_,e⟩ | ⟨e,_⟩
  ·exact e
  ·have:=h.st;omega
theorem res_lev {qs:List Int} {cs:List Con} (hp:PlanOK qs cs) {now:Int} {t:Tk} (h:Open qs cs now t) {hs:List Hp} {B:List Bkg} {H:List Hld} (he:EOK qs cs (atQ cs t now) B H hs) (n x:Int):lev (hldsT cs (resT t hs now)) n x≤lev (hldsT cs (stopT t now (posT t now))) n x+lev (hopsH cs (atQ cs t now) 0 (posN cs t now) (posT t now) hs) n x:=by
 obtain⟨y,r,e,_,hb,w1,hh⟩:=h.parts;have hr:=gR hp h.w.rq w1;have hsz:=h.w.rq.2.2.1;have hfr:=gS hp h.w.rq w1 (aR _) hsz.2.2.1;have hpos:fromE t.q.rd (t.hs.take (begun now t.hs))≤posT t now:=by unfold posT;omega
 have hz0:0≤t.q.sz:=by omega
 unfold hldsT;show lev (hopsH cs t.q t.no t.q.src t.q.rd (t.hs.take (begun now t.hs)++hs)++endH t.q t.no t.un (nodeE cs t.q.src (t.hs.take (begun now t.hs)++hs)) _) n x≤lev (hopsH cs t.q t.no t.q.src t.q.rd (t.hs.take (begun now t.hs))++endH t.q t.no (posT t now) (posN cs t now) (fromE t.q.rd (t.hs.take (begun now t.hs)))) n x+_
 have e1:endH t.q t.no t.un (nodeE cs t.q.src (t.hs.take (begun now t.hs)++hs)) (fromE t.q.rd (t.hs.take (begun now t.hs)++hs))=[]:=by
  unfold endH;rw[if_neg];rintro⟨hn,_⟩;apply hn
  rw[fl];exact he.fin
 rw[gP];show lev ((_++_)++endH t.q t.no t.un (nodeE cs t.q.src (t.hs.take (begun now t.hs)++hs)) (fromE t.q.rd (t.hs.take (begun now t.hs)++hs))) n x≤_
 rw[e1,cK,dJ,dJ];show _+lev (hopsH cs t.q t.no (posN cs t now) (fromE t.q.rd (t.hs.take (begun now t.hs))) hs) n x≤_
 have hne:=he.ne
 cases hs with
 | nil=>exact absurd rfl hne
 | cons z rr=>
  have hf:=he.way.1.facts hp he.rq;have htm:posT t now≤z.bg:=he.way.1.tm;have hlv:lvH cs (atQ cs t now) z=lvH cs t.q z:=rfl;rw[hlv]at hf;have hnd:=h.node;rw[dY,dY,dJ,dJ,jz cs (q:=t.q) (q':=atQ cs t now) rfl rfl 0 rr,lV t.no 0 n x rr];rw[if_pos (by omega),if_pos (by rw[hlv];omega)];have h5:lev [⟨posN cs t now,fromE t.q.rd (t.hs.take (begun now t.hs)),lvH cs t.q z,t.q.sz,t.no⟩] n x≤lev (endH t.q t.no (posT t now) (posN cs t now) (fromE t.q.rd (t.hs.take (begun now t.hs)))) n x+lev [⟨posN cs t now,posT t now,lvH cs t.q z,t.q.sz,0⟩] n x:=by
   unfold endH;split
   ·rename_i hc
    simp only[lev,levC];split<;>split<;>split<;>omega
   ·rename_i hc
    have:fromE t.q.rd (t.hs.take (begun now t.hs))=posT t now:=by
     by_cases hlt:fromE t.q.rd (t.hs.take (begun now t.hs))<posT t now
     ·exact absurd ⟨hnd,hlt⟩ hc
     ·omega
    rw[this];simp only[lev,levC];split<;>omega
  show _+(lev [⟨posN cs t now,fromE t.q.rd (t.hs.take (begun now t.hs)),lvH cs t.q z,t.q.sz,t.no⟩] n x+_)≤_+(lev [⟨posN cs t now,posT t now,lvH cs t.q z,t.q.sz,0⟩] n x+_)
  omega
theorem lw {hs:List Hp} {B:List Bkg} {no:Int} (hd:∀h∈hs,∀b∈B,b.ct=h.ct→h.en≤b.bg∨b.en≤h.bg):∀a∈bksL no hs,∀b∈B,disB a b:=by
 intro a ha b hb e;obtain⟨h,hm,rfl⟩:=bu.1 ha;exact hd h hm b hb e.symm
theorem XInv.res {qs:List Int} {cs:List Con} (hp:PlanOK qs cs) {now:Int} {A C:List Tk} {t:Tk} {vs:List Int} {hs:List Hp} {B:List Bkg} {H:List Hld} (h:XInv qs cs now (A++stopT t now (posT t now)::C) vs) (ho:Open qs cs now t) (hv:t.no ∉ vs) (he:EOK qs cs (atQ cs t now) B H hs)
  (hB:B.Perm ((allB (A++stopT t now (posT t now)::C)).filter (kp vs now))) (hH:H.Perm (allH cs (A++stopT t now (posT t now)::C))):XInv qs cs now (A++resT t hs now::C) vs:=by
 obtain⟨num,len,tk,dis,lv,nod,vic⟩:=h;have hoth:=jf num;have hway:=jg cs (q:=t.q) (q':=atQ cs t now) rfl rfl hs _ _ he.way;refine⟨oT num rfl,by simpa using len,fun x hx=>?_,?_,fun n q hn x=>?_,nod,fun v hv'=>?_⟩
 ·rcases aA.1 hx with hx | hx
  ·exact tk x (by simp[hx])
  ·rcases aG.1 hx with rfl | hx
   ·exact res_tk ho he
   ·exact tk x (by simp[hx])
 ·have e1:((allB (A++resT t hs now::C)).filter (kp vs now)).Perm (bksL t.no hs++(allB (A++stopT t now (posT t now)::C)).filter (kp vs now)):=by
   refine(midB _ _ _ _).trans ?_
   refine List.Perm.trans ?_ (List.Perm.append_left _ (midB _ _ _ _).symm)
   show(((bksL t.no (t.hs.take (begun now t.hs)++hs)).filter _)++_).Perm (_++((bksL t.no (t.hs.take (begun now t.hs))).filter _++_))
   rw[kg,aW,eE (l:=bksL t.no hs) (fun b hb=>kp_notin (by rw[oQ hb];exact hv)),aY];exact List.perm_append_comm_assoc _ _ _
  rw[fO e1];refine aT.2 ⟨oP hp ho.w.rq hway,dis,fun a ha b hb=>?_⟩
  exact lw he.dis a ha b (hB.mem_iff.2 hb)
 ·have h1:=he.lev n q hn x
  have h2:=res_lev hp ho he (n:Int) x;rw[dJ,iw hH,jN]at h1;rw[jN];have e:hopsH cs (atQ cs t now) 0 (atQ cs t now).src (atQ cs t now).rd hs=hopsH cs (atQ cs t now) 0 (posN cs t now) (posT t now) hs:=rfl;rw[e]at h1;omega
 ·obtain⟨y,hy,e1,e2⟩:=vic v hv'
  refine⟨y,?_,e1,e2⟩
  rcases aA.1 hy with hy | hy
  ·simp[hy]
  ·rcases aG.1 hy with rfl | hy
   ·exact absurd (show t.no∈vs from e1 ▸ hv') hv
   ·simp[hy]
def newT (no:Int) (q:Rq) (hs:List Hp):Tk:=⟨no,q,hs,1,0⟩
theorem new_tk {qs:List Int} {cs:List Con} {q:Rq} {no:Int} {hs:List Hp} {B:List Bkg} {H:List Hld} (he:EOK qs cs q B H hs) (h0:1≤no) (h1:no≤1152921504606846976):TkW qs cs (newT no q hs):=
 ⟨h0,h1,he.rq,he.way,.inl ⟨rfl,he.ne,he.fin,he.dl,rfl⟩⟩
theorem new_hlds {qs:List Int} {cs:List Con} {q:Rq} {no:Int} {hs:List Hp} {B:List Bkg} {H:List Hld} (he:EOK qs cs q B H hs):hldsT cs (newT no q hs)=hopsH cs q no q.src q.rd hs:=by
 unfold hldsT;show _++endH q no 0 (nodeE cs q.src hs) _=_
 unfold endH;rw[if_neg (fun h=>h.1 he.fin),cK];rfl
def ovlH (a b:Hp):Bool:=(a.ct==b.ct&&decide (a.bg<b.en))&&decide (b.bg<a.en)
def ovlT (t:Tk) (hs:List Hp) (now:Int):Bool:=(t.hs.drop (begun now t.hs)).any fun a=>hs.any fun b=>ovlH a b
theorem XInv.begin {qs:List Int} {cs:List Con} {now:Int} {ts:List Tk} {q:Rq} {no:Int} {hs:List Hp} {B:List Bkg} {H:List Hld} {W V:List Int} (h:LedOK qs cs ts) (he:EOK qs cs q B H hs) (hB:B.Perm ((allB ts).filter (kp W now))) (hH:H.Perm (allH cs ts)) (hl:ts.length<64) (h0:1≤no) (h1:no≤1152921504606846976) (hnew:∀t∈ts,t.no<no)
  (hV:V.Nodup) (hVW:∀v∈V,∃t∈ts,t.no=v∧t.st=1∧begun now t.hs<t.hs.length) (hWV:∀t∈ts,t.no∈W→t.no ∉ V→ovlT t hs now=false):XInv qs cs now (ts++[newT no q hs]) V:=by
 obtain⟨pl,num,len,tk,dis,lv,nb,nh⟩:=h;have hnV:no ∉ V:=fun hv=>by
  obtain⟨t,ht,e,_⟩:=hVW no hv;have:=hnew t ht;omega
 refine⟨?_,by simp;omega,fun x hx=>?_,?_,fun n qt hn x=>?_,hV,fun v hv=>?_⟩
 ·refine aT.2 ⟨num,by simp,fun a ha b hb=>?_⟩
  rw[aH.1 hb];exact hnew a ha
 ·rcases aA.1 hx with hx | hx
  ·exact tk x hx
  ·rw[aH.1 hx];exact new_tk he h0 h1
 ·rw[iz,aW]
  refine aT.2 ⟨dis.sublist List.filter_sublist,?_,fun a ha b hb=>?_⟩
  ·rw[fm]
   show(((bksL no hs)++[]).filter _).Pairwise disB
   rw[cK];exact(oP pl he.rq he.way).sublist List.filter_sublist
  ·have hb:=(bG.1 hb).1
   rw[fm]at hb;have hb:b∈bksL no hs:=by simpa [allB,newT]using hb
   obtain⟨ha,hk⟩:=bG.1 ha;by_cases hW:kp W now a=true
   ·exact(lw he.dis b hb a (hB.mem_iff.2 (bG.2 ⟨ha,hW⟩))).symm
   ·obtain⟨t,ht,e,hat⟩:=oS ha
    have hW':t.no∈W∧now<a.bg:=by
     unfold kp at hW;rw[e]at hW;simpa using hW
    have hnv:t.no ∉ V:=fun hv=>by
     unfold kp at hk;rw[e]at hk;have:=hW'.2;simp[hv]at hk
     omega
    have ho:=hWV t ht hW'.1 hnv;obtain⟨x,hx,rfl⟩:=bu.1 hat;obtain⟨y,hy,rfl⟩:=bu.1 hb;have hxd:x∈t.hs.drop (begun now t.hs):=by
     rw[←bP (begun now t.hs) t.hs]at hx;rcases aA.1 hx with hx | hx
     ·have:=(gA now t.hs).1 x hx
      have h2:now<x.bg:=hW'.2;omega
     ·exact hx
    unfold ovlT at ho;have h1:=cM.1 ho x hxd;have h2:=cM.1 (by simpa using h1) y hy;intro ec;have ec:x.ct=y.ct:=ec;unfold ovlH at h2;show x.en≤y.bg∨y.en≤x.bg
    simp[ec]at h2
    omega
 ·rw[fD,dJ,fp,dJ,new_hlds he,lV no 0]
  have:=he.lev n qt hn x;rw[dJ,iw hH]at this;rw[show allH cs []=[]from rfl,lev_nil];omega
 ·obtain⟨t,ht,e⟩:=hVW v hv
  exact⟨t,by simp[ht],e⟩
theorem kp_nil (now:Int) (b:Bkg):kp [] now b=true:=by unfold kp;simp
theorem XInv.fin {qs:List Int} {cs:List Con} (hp:PlanOK qs cs) {now:Int} {ts:List Tk} (h:XInv qs cs now ts []) (nb:(allB ts).length≤512) (nh:(allH cs ts).length≤512):LedOK qs cs ts:=
 ⟨hp,h.num,h.len,h.tk,by have:=h.dis;rwa [eE (fun b _=>kp_nil now b)]at this,h.lev,nb,nh⟩
def leB (x y:Bkg):Prop:=x.ct<y.ct∨(x.ct=y.ct∧x.bg≤y.bg)
def ltB' (x y:Bkg):Prop:=x.ct<y.ct∨(x.ct=y.ct∧x.en≤y.bg)
theorem jO {cs:List Con} {b:Bkg} (h:bVal cs b):b.bg<b.en:=by
 obtain⟨⟨h0,h1⟩,_,h2⟩:=h;obtain⟨c,hc,_⟩:=fK h0 h1;exact(h2 c hc).2.1
theorem cmpB_lt' {a b:Bkg} (h:a.ct<b.ct∨(a.ct=b.ct∧a.bg<b.bg)):cmpB a b<0:=by
 unfold cmpB;simp only[orL];unfold cmpI
 repeat' split
 all_goals omega
theorem BkOK.of {cs:List Con} {B:List Bkg} (h:BkSet cs B) (hs:B.Pairwise leB):BkOK cs B:=by
 obtain⟨h1,h2,h3⟩:=h;refine⟨h1,h2,fun k a b ha hb=>?_⟩
 have hle:=jb hs ha hb;have hd:=jb h3 ha hb;have va:=jO (h2 a (az ha));have vb:=jO (h2 b (az hb));unfold leB at hle;unfold disB at hd;refine⟨cmpB_lt' ?_,fun hc=>?_⟩
 ·by_cases e:a.ct=b.ct
  ·have:=hd e
   refine .inr ⟨e,?_⟩
   omega
  ·exact .inl (by omega)
 ·have:=hd hc.1
  omega
theorem BkOK.strict {cs:List Con} {B:List Bkg} (h:BkOK cs B):B.Pairwise (fun x y=>x.bg<x.en∧y.bg<y.en∧ltB' x y):=by
 obtain⟨h1,h2,h3⟩:=h;refine ja (fun a b c hab hbc=>?_) fun k a b ha hb=>?_
 ·unfold ltB' at*
  exact⟨hab.1,hbc.2.1,by omega⟩
 ·have va:=jO (h2 a (az ha))
  have vb:=jO (h2 b (az hb));obtain⟨n1,n2⟩:=h3 k a b ha hb;have:=lR n1;refine⟨va,vb,?_⟩
  unfold ltB';by_cases e:a.ct=b.ct
  ·exact .inr ⟨e,by by_cases hx:b.bg<a.en;exact absurd ⟨e,hx⟩ n2;omega⟩
  ·exact .inl (by omega)
theorem BkOK.set {cs:List Con} {B:List Bkg} (h:BkOK cs B):BkSet cs B:=
 ⟨h.1,h.2.1,h.strict.imp fun⟨_,_,hl⟩ e=>by unfold ltB' at hl;exact .inl (by omega)⟩
theorem BkOK.sorted {cs:List Con} {B:List Bkg} (h:BkOK cs B):B.Pairwise leB:=h.strict.imp fun⟨ha,hb,hl⟩=>by
 unfold ltB' at hl;unfold leB;omega
theorem BkSet.perm {cs:List Con} {B B':List Bkg} (h:BkSet cs B) (hp:B.Perm B'):BkSet cs B':=
 ⟨by rw[←hp.length_eq];exact h.1,fun b hb=>h.2.1 b (hp.mem_iff.2 hb),(fO hp).1 h.2.2⟩
theorem jA {α:Type} {R:α→α→Prop} (hirr:∀a,¬R a a) (hasym:∀a b,R a b→¬R b a):∀{l k:List α},l.Perm k→l.Pairwise R→k.Pairwise R→l=k
 | [],k,hp,_,_=>(List.nil_perm.1 hp).symm
 | a::l,[],hp,_,_=>by
  have:=hp.length_eq;simp at this
 | a::l,b::k,hp,hl,hk=>by
  obtain⟨l1,l2⟩:=aM.1 hl;obtain⟨k1,k2⟩:=aM.1 hk;have hab:a=b:=by
   have ha:=hp.mem_iff.1 (show a∈a::l by simp);have hb:=hp.mem_iff.2 (show b∈b::k by simp);rcases aG.1 ha with rfl | ha
   ·rfl
   ·rcases aG.1 hb with rfl | hb
    ·rfl
    ·exact absurd (l1 b hb) (hasym _ _ (k1 a ha))
  subst hab;rw[jA hirr hasym ((List.perm_cons a).1 hp) l2 k2]
theorem BkOK.uniq {cs:List Con} {B B':List Bkg} (h:BkOK cs B) (h':BkOK cs B') (hp:B.Perm B'):B=B':=
 jA (R:=fun x y=>x.bg<x.en∧y.bg<y.en∧ltB' x y) (fun a h=>by unfold ltB' at h;omega) (fun a b h k=>by unfold ltB' at h k;omega) hp h.strict h'.strict
theorem LedOK.bset {qs:List Int} {cs:List Con} {ts:List Tk} (h:LedOK qs cs ts) {B:List Bkg} (hp:B.Perm (allB ts)) (hs:B.Pairwise leB):BkOK cs B:=
 BkOK.of (BkSet.perm ⟨h.nb,ka h.pl h.tk,h.dis⟩ hp.symm) hs
theorem LedOK.hset {qs:List Int} {cs:List Con} {ts:List Tk} (h:LedOK qs cs ts) {H:List Hld} (hp:H.Perm (allH cs ts)) (hs:H.Pairwise leH):HkOK qs H:=
 ⟨by rw[hp.length_eq];exact h.nh,fun x hx=>ke h.pl h.tk x (hp.mem_iff.1 hx),hs,h.lev.perm hp.symm⟩
theorem LedOK.drop {qs:List Int} {cs:List Con} {A C:List Tk} {k:Tk} (h:LedOK qs cs (A++k::C)):LedOK qs cs (A++C):=by
 have hsub:(A++C).Sublist (A++k::C):=List.Sublist.append (List.Sublist.refl _) (List.sublist_cons_self _ _);have eB:(allB (A++k::C)).Perm (bksL k.no k.hs++allB (A++C)):=by
  have:=midB A C k (fun _=>true);rwa [eE (fun _ _=>rfl),eE (fun _ _=>rfl),eE (fun _ _=>rfl)]at this
 have lB:=eB.length_eq;have lH:(allH cs (A++k::C)).length=(hldsT cs k).length+(allH cs (A++C)).length:=by
  rw[fD,fp,fD];simp;omega
 rw[ay]at lB;refine⟨h.pl,h.num.sublist hsub,aK hsub.length_le h.len,fun t ht=>h.tk t (hsub.subset ht),?_,fun n q hn x=>?_,by have:=h.nb;omega,by have:=h.nh;omega⟩
 ·have:=(fO eB).1 h.dis
  exact(aT.1 this).2.1
 ·have h1:=h.lev n q hn x
  rw[jN]at h1;have h2:=fk (l:=hldsT cs k) (fun z hz=>by have:=(je h.pl (h.tk k (by simp)) z hz).2.2.1;omega) (n:Int) x;omega
theorem BkSet.add {cs:List Con} {B:List Bkg} {b:Bkg} (h:BkSet cs B) (hl:B.length<512) (hv:bVal cs b) (hd:∀x∈B,disB b x):BkSet cs (b::B):=
 ⟨by simp;omega,fun x hx=>by
  rcases aG.1 hx with rfl | hx
  ·exact hv
  ·exact h.2.1 x hx,aM.2 ⟨hd,h.2.2⟩⟩
def hopsR (cs:List Con) (q:Rq) (no:Int):Int→Int→List Hp→List Hld
 | _,_,[]=>[]
 | n,f,h::r=>⟨n,f,lvH cs q h,q.sz,no⟩::hopsR cs q no (conOf cs h.ct).tt h.bg r
theorem mJ {qs:List Int} {cs:List Con} (hp:PlanOK qs cs) {q:Rq} (hq:ReqO qs.length q) (no:Int):∀{hs:List Hp} {n t f:Int},WayOK cs q n t hs→f≤t→hopsR cs q no n f hs=hopsH cs q no n f hs
 | [],_,_,_,_,_=>rfl
 | h::r,n,t,f,hw,hf=>by
  have hk:=hw.1.facts hp hq;have htm:=hw.1.tm;rw[dY,if_pos (by omega),←mJ hp hq no hw.2 (f:=h.bg) (by omega)];rfl
end
end Go.Proofs.YtfnciigbbolckaaGreat
