/- Part 8 of the proof about mailboattop.TopOthers. No condition. -/
import Derived.Test.YtfnciigbbolckaaGreatQ00
import Derived.Test.YtfnciigbbolckaaGreatQ02
import Derived.Test.YtfnciigbbolckaaGreatQ04
import Derived.Test.YtfnciigbbolckaaGreatQ07
set_option linter.unusedVariables false
set_option linter.unusedSimpArgs false
set_option maxRecDepth 100000
set_option maxHeartbeats 64000000
namespace Go.Proofs.YtfnciigbbolckaaGreat
open Go Go.RowKit Iv
attribute [local go_sem] Oper.semAt_some
attribute [local go_sem] pw gu B_app pv B_get B_toList
section
def hpC (x:Hp):List Value:=[.int .i64 x.ct,.int .i64 x.bg,.int .i64 x.en,.int .i64 x.ar]
theorem fH (x:Hp):(hpC x).length=4:=rfl
def tkP (p:Tk×Value):List Value:=[.int .i64 p.1.no,.int .i64 p.1.q.src,.int .i64 p.1.q.dst,.int .i64 p.1.q.sz,.int .i64 p.1.q.rd,.int .i64 p.1.q.D,.int .i64 p.1.q.pr,.bool p.1.q.cu,p.2,.int .i64 p.1.st,.int .i64 p.1.un]
theorem fI (x:Tk×Value):(tkP x).length=11:=rfl
abbrev RHops (w:World) (v:Value) (l:List Hp):Prop:=RRow hpC 4 w w.heap.size v l
def RTks (w:World) (v:Value) (ts:List Tk):Prop:=∃ps:List (Tk×Value),ts=ps.map (·.1)∧RRow tkP 11 w w.heap.size v ps∧∀p∈ps,RHops w p.2 p.1.hs
theorem RTks.below' {w w':World} {v:Value} {ts:List Tk} (h:RTks w v ts) (k:Below w.heap.size w w'):RTks w' v ts:=by
 obtain⟨ps,e,h1,h2⟩:=h;exact⟨ps,e,h1.below' k,fun p hp=>(h2 p hp).below' k⟩
def HpB (cs:List Con) (h:Hp):Prop:=(0≤h.ct∧h.ct<cs.length)∧0≤h.en∧h.en≤1099511627776
theorem hop0 {w:World} {bb o k:Nat} {x:Hp} {l:List Hp} (hc:∀(i:Nat) (x:Hp),l[i]? =some x→∀(j:Nat) (u:Value),(hpC x)[j]? =some u→w.cell? ⟨bb,o+i*4+j,none⟩=some u) (hx:l[k]? =some x):
  w.cell? ⟨bb,o+k*4,none⟩=some (.int .i64 x.ct)∧w.cell? ⟨bb,o+k*4+1,none⟩=some (.int .i64 x.bg)∧w.cell? ⟨bb,o+k*4+2,none⟩=some (.int .i64 x.en)∧w.cell? ⟨bb,o+k*4+3,none⟩=some (.int .i64 x.ar):=
 ⟨hc k x hx 0 _ rfl,hc k x hx 1 _ rfl,hc k x hx 2 _ rfl,hc k x hx 3 _ rfl⟩
theorem kh {now:Int} {hs:List Hp} {k:Nat} (hk:k≤hs.length) (h:∀x∈hs.take k,x.bg≤now) (hn:∀x,hs[k]? =some x→¬x.bg≤now):begun now hs=k:=by
 unfold begun;induction hs generalizing k with
 | nil=>simp at hk;simp[hk]
 | cons a r ih=>
  cases k with
  | zero=>
   have:=hn a rfl;rw[List.takeWhile_cons_of_neg (by simpa using this)];rfl
  | succ k=>
   have h1:=h a (by simp);rw[List.takeWhile_cons_of_pos (by simpa using h1),aI,ih (by simpa using hk) (fun x hx=>h x (by simp[hx])) (fun x hx=>hn x (by simpa using hx))]
theorem f8 (t:Tk) (u:Value) (now:Int) (w:World) (hr:RHops w u t.hs):
  Calls Tryz.prog 162 #[.agg #[.int .i64 t.no,.int .i64 t.q.src,.int .i64 t.q.dst,.int .i64 t.q.sz,.int .i64 t.q.rd,.int .i64 t.q.D,.int .i64 t.q.pr,.bool t.q.cu,u,.int .i64 t.st,.int .i64 t.un],.int .i64 now] w fun e w'=>e= .returned (.int .i64 (begun now t.hs))∧Below w.heap.size w w':=by
 obtain⟨a,c,rfl,h1,h2,-,h4⟩:=hr;unfold maxLen at h2;have H4:=aa h4;clear h4;obtain⟨l,hl⟩:=cR t.hs
 rw[hl]at h1 H4 ⊢;go_enter Tryz.func162,Tryz.ntmps162
 go_wp2_with fail
 obtain⟨w1,hw1⟩:=cR (w.alloc (.cells #[.int .i64 t.no,.int .i64 t.q.src,.int .i64 t.q.dst,.int .i64 t.q.sz,.int .i64 t.q.rd,.int .i64 t.q.D,.int .i64 t.q.pr,.bool t.q.cu,(.slice a l.length c),.int .i64 t.st,.int .i64 t.un] 41))
 rw[hw1];have B1:Below w.heap.size w w1:=by rw[←hw1];exact de (ap _ _)
 have X1:Hid (w1.heap[w.heap.size]? =some (.cells #[.int .i64 t.no,.int .i64 t.q.src,.int .i64 t.q.dst,.int .i64 t.q.sz,.int .i64 t.q.rd,.int .i64 t.q.D,.int .i64 t.q.pr,.bool t.q.cu,(.slice a l.length c),.int .i64 t.st,.int .i64 t.un] 41 (0,0))):=aa (by rw[←hw1];exact cW);have z1:w.heap.size<w1.heap.size:=by rw[←hw1];simp
 have HB1:=aa B1;clear hw1 B1 hl;go_loopw [5] (fun kv wr=>∃k:Nat,k≤l.length∧kv= .int .i64 (k:Int)∧Hid (∀x∈l.take k,x.bg≤now)∧Hid (Below w1.heap.size w1 wr)) (fun kv _=>l.length-(intOf kv).toNat)
 case atStart=>exact⟨0,aE _,rfl,aa (by simp),aa (ap _ _)⟩
 case round=>
  obtain⟨k,hk,rfl,HT,HB⟩:=hrel;have zr:w1.heap.size≤wr.heap.size:=HB.out.size;have zr':w.heap.size<wr.heap.size:=by omega
  have cx:=fun q=>(HB.out.cell (p:=⟨w.heap.size,q,none⟩) z1).trans (cU X1.out q)
  have k0:(0:Int)≤(k:Int):=by omega
  by_cases hlt:k<l.length
  ·obtain⟨bb,o,rfl,hbb,hc⟩:=H4.out (by omega)
   obtain⟨x,hx⟩:∃x,l[k]? =some x:=⟨_,am hlt⟩
   obtain⟨p0,p1,p2,p3⟩:=hop0 hc hx;have hbw:Below w.heap.size w wr:=HB1.out.trans (HB.out.mono (by omega));have q1:=(hbw.cell (p:=⟨bb,o+k*4+1,none⟩) hbb).trans p1;have hbr:bb<wr.heap.size:=by omega
   have k1:(k:Int)<(l.length:Int):=by omega
   have HBW:=aa hbw;have HX:=aa hx;clear hc hx p0 p1 p2 p3 hbw;by_cases y:x.bg≤now
   ·have dy:decide (x.bg≤now)=true:=decide_eq_true y
    have HT2:Hid (∀x∈l.take (k+1),x.bg≤now):=aa (fun z hz=>by
     rw[aN,HX.out]at hz;rcases aA.1 hz with hz | hz
     ·exact HT.out z hz
     ·simp at hz;subst hz;exact y)
    clear y;go_wp2
    go_roundw
    case rel=>exact⟨k+1,by omega,by go_num,HT2,HB⟩
    case measure=>simp[intOf];omega
   ·have dy:decide (x.bg≤now)=false:=decide_eq_false y
    have HE:Hid (begun now l=k):=aa (kh hk HT.out (fun z hz=>by have:=hz.symm.trans HX.out;injection this with this;rw[this];exact y));clear y;go_wp2
    go_ret
    exact⟨by rw[HE.out];rfl,HBW.out⟩
  ·obtain rfl:k=l.length:=by omega
   have HE:Hid (begun now l=l.length):=aa (kh hk HT.out (fun z hz=>by simp at hz));have hbw:Below w.heap.size w wr:=HB1.out.trans (HB.out.mono (by omega));go_wp2
   go_ret
   exact⟨by rw[HE.out];rfl,hbw⟩
def TkAt (w:World) (bb n:Nat) (t:Tk) (u:Value):Prop:=w.cell? ⟨bb,n,none⟩=some (.int .i64 t.no)∧w.cell? ⟨bb,n+1,none⟩=some (.int .i64 t.q.src)∧w.cell? ⟨bb,n+2,none⟩=some (.int .i64 t.q.dst)∧w.cell? ⟨bb,n+3,none⟩=some (.int .i64 t.q.sz)∧w.cell? ⟨bb,n+4,none⟩=some (.int .i64 t.q.rd)∧w.cell? ⟨bb,n+5,none⟩=some (.int .i64 t.q.D)∧w.cell? ⟨bb,n+6,none⟩=some (.int .i64 t.q.pr)∧w.cell? ⟨bb,n+7,none⟩=some (.bool t.q.cu)∧w.cell? ⟨bb,n+8,none⟩=some (u)∧w.cell? ⟨bb,n+9,none⟩=some (.int .i64 t.st)∧w.cell? ⟨bb,n+10,none⟩=some (.int .i64 t.un)
theorem iA {w:World} {bb o k:Nat} {t:Tk} {u:Value} {l:List (Tk×Value)} (hc:∀(i:Nat) (x:Tk×Value),l[i]? =some x→∀(j:Nat) (v:Value),(tkP x)[j]? =some v→w.cell? ⟨bb,o+i*11+j,none⟩=some v) (hx:l[k]? =some (t,u)):TkAt w bb (o+k*11) t u:=
 ⟨hc k _ hx 0 _ rfl,hc k _ hx 1 _ rfl,hc k _ hx 2 _ rfl,hc k _ hx 3 _ rfl,hc k _ hx 4 _ rfl,hc k _ hx 5 _ rfl,hc k _ hx 6 _ rfl,hc k _ hx 7 _ rfl,hc k _ hx 8 _ rfl,hc k _ hx 9 _ rfl,hc k _ hx 10 _ rfl⟩
theorem TkAt.below {w w':World} {bb n:Nat} {t:Tk} {u:Value} (h:TkAt w bb n t u) (k:∀q,w'.cell? ⟨bb,q,none⟩=w.cell? ⟨bb,q,none⟩):TkAt w' bb n t u:=by
 obtain⟨h0,h1,h2,h3,h4,h5,h6,h7,h8,h9,h10⟩:=h;exact⟨(k _).trans h0,(k _).trans h1,(k _).trans h2,(k _).trans h3,(k _).trans h4,(k _).trans h5,(k _).trans h6,(k _).trans h7,(k _).trans h8,(k _).trans h9,(k _).trans h10⟩
end
section
theorem ki (qs:List Int) (cs:List Con) (uq uc:Value) (q:Rq) (h:Hp) (w:World) (hq:∃a k c,uq= .slice a k c) (hc:RRow conC 7 w w.heap.size uc cs) (hp:PlanOK qs cs) (hb:HpB cs h):
  Calls Tryz.prog 97 #[.agg #[uq,uc],.agg #[.int .i64 q.src,.int .i64 q.dst,.int .i64 q.sz,.int .i64 q.rd,.int .i64 q.D,.int .i64 q.pr,.bool q.cu],.agg #[.int .i64 h.ct,.int .i64 h.bg,.int .i64 h.en,.int .i64 h.ar]] w fun e w'=>e= .returned (.int .i64 (lvH cs q h))∧Below w.heap.size w w':=by
 obtain⟨aq,kq,cq,rfl⟩:=hq;obtain⟨ca,cc,rfl,e1,e2,e3,e4⟩:=hc;obtain⟨⟨h0,h1⟩,h2,h3⟩:=hb;have hcf:=(hp.cf h0 h1).1;obtain⟨i,hi⟩:=bh h0;have hil:i<cs.length:=by omega
 obtain⟨bb,o,rfl,hbb,hcell⟩:=e4 (by omega);obtain⟨c,hcx⟩:∃x,cs[i]? =some x:=⟨_,am hil⟩
 have hco:conOf cs h.ct=c:=by unfold conOf;rw[hi,bN,aJ,hcx];rfl
 rw[hco]at hcf;have r0:=hcf.rg0;have r1:=hcf.rg1;have p5:w.cell? ⟨bb,o+i*7+5,none⟩=some (.int .i64 c.rg):=hcell i c hcx 5 _ rfl;have HL:Hid (lvH cs q h=leaveS q.cu h.en c.rg):=aa (by unfold lvH;rw[hco]);obtain⟨rg,hrg⟩:=cR c.rg
 rw[hrg]at r0 r1 p5 HL;obtain⟨ct,bg,en,ar⟩:=h;simp only at hi h2 h3 HL;rw[HL.out];subst hi;have i0:(0:Int)≤(i:Int):=by omega
 have i1:(i:Int)<(cs.length:Int):=by omega
 have w1_:IntKind.i64.wrap (2*rg)=2*rg:=by rw[ax];omega
 have w2_:IntKind.i64.wrap (en+2*rg)=en+2*rg:=by rw[ax];omega
 obtain⟨src,dst,sz,rd,D,pr,cu⟩:=q;simp only;unfold maxLen at e2;clear hcell hcf e3 e4 hcx hrg h0 h1 hco hp HL
 cases cu with
 | true=>
  go_enter Tryz.func97,Tryz.ntmps97
  go_upto_region 2 with fail
  obtain⟨W,hW⟩:=cR (((w.alloc (.cells #[.slice aq kq cq,.slice (some ⟨bb,o,none⟩) cs.length cc] 25)).alloc (.cells #[.int .i64 src,.int .i64 dst,.int .i64 sz,.int .i64 rd,.int .i64 D,.int .i64 pr,.bool true] 38)).alloc (.cells #[.int .i64 (i:Int),.int .i64 bg,.int .i64 en,.int .i64 ar] 68))
  rw[hW];have B1:Below w.heap.size w W:=by rw[←hW];exact cZ
  have cx:=fun q=>cU (w:=W) (g:=w.heap.size) (by rw[←hW];exact(ak _ _ _ (by simp;omega)).trans ((ak _ _ _ (by simp)).trans cW)) q
  have cy:=fun q=>cU (w:=W) (g:=w.heap.size+1+1) (by rw[←hW];exact cY (by simp)) q
  have p5':=(B1.cell (p:=⟨bb,o+i*7+5,none⟩) hbb).trans p5;clear hW p5;go_quiet (fail)
  go_wp2
  go_ret
  exact⟨rfl,eu B1 _⟩
 | false=>
  go_enter Tryz.func97,Tryz.ntmps97
  go_wp2
  go_ret
  exact⟨rfl,cZ⟩
theorem nV (qs:List Int) (cs:List Con) (uq uc:Value) (q:Rq) (h:Hp) (w:World) (hq:∃a k c,uq= .slice a k c) (hc:RRow conC 7 w w.heap.size uc cs) (hp:PlanOK qs cs) (hb:HpB cs h):
  Calls Tryz.prog 56 #[.agg #[uq,uc],.agg #[.int .i64 q.src,.int .i64 q.dst,.int .i64 q.sz,.int .i64 q.rd,.int .i64 q.D,.int .i64 q.pr,.bool q.cu],.agg #[.int .i64 h.ct,.int .i64 h.bg,.int .i64 h.en,.int .i64 h.ar]] w fun e w'=>e= .returned (.int .i64 (lvH cs q h))∧Below w.heap.size w w':=by
 obtain⟨aq,kq,cq,rfl⟩:=hq;obtain⟨ca,cc,rfl,e1,e2,e3,e4⟩:=hc;obtain⟨⟨h0,h1⟩,h2,h3⟩:=hb;have hcf:=(hp.cf h0 h1).1;obtain⟨i,hi⟩:=bh h0;have hil:i<cs.length:=by omega
 obtain⟨bb,o,rfl,hbb,hcell⟩:=e4 (by omega);obtain⟨c,hcx⟩:∃x,cs[i]? =some x:=⟨_,am hil⟩
 have hco:conOf cs h.ct=c:=by unfold conOf;rw[hi,bN,aJ,hcx];rfl
 rw[hco]at hcf;have r0:=hcf.rg0;have r1:=hcf.rg1;have p5:w.cell? ⟨bb,o+i*7+5,none⟩=some (.int .i64 c.rg):=hcell i c hcx 5 _ rfl;have HL:Hid (lvH cs q h=leaveS q.cu h.en c.rg):=aa (by unfold lvH;rw[hco]);obtain⟨rg,hrg⟩:=cR c.rg
 rw[hrg]at r0 r1 p5 HL;obtain⟨ct,bg,en,ar⟩:=h;simp only at hi h2 h3 HL;rw[HL.out];subst hi;have i0:(0:Int)≤(i:Int):=by omega
 have i1:(i:Int)<(cs.length:Int):=by omega
 have w1_:IntKind.i64.wrap (2*rg)=2*rg:=by rw[ax];omega
 have w2_:IntKind.i64.wrap (en+2*rg)=en+2*rg:=by rw[ax];omega
 obtain⟨src,dst,sz,rd,D,pr,cu⟩:=q;simp only;unfold maxLen at e2;clear hcell hcf e3 e4 hcx hrg h0 h1 hco hp HL
 cases cu with
 | true=>
  go_enter Tryz.func56,Tryz.ntmps56
  go_upto_region 2 with fail
  obtain⟨W,hW⟩:=cR (((w.alloc (.cells #[.slice aq kq cq,.slice (some ⟨bb,o,none⟩) cs.length cc] 25)).alloc (.cells #[.int .i64 src,.int .i64 dst,.int .i64 sz,.int .i64 rd,.int .i64 D,.int .i64 pr,.bool true] 38)).alloc (.cells #[.int .i64 (i:Int),.int .i64 bg,.int .i64 en,.int .i64 ar] 68))
  rw[hW];have B1:Below w.heap.size w W:=by rw[←hW];exact cZ
  have cx:=fun q=>cU (w:=W) (g:=w.heap.size) (by rw[←hW];exact(ak _ _ _ (by simp;omega)).trans ((ak _ _ _ (by simp)).trans cW)) q
  have cy:=fun q=>cU (w:=W) (g:=w.heap.size+1+1) (by rw[←hW];exact cY (by simp)) q
  have p5':=(B1.cell (p:=⟨bb,o+i*7+5,none⟩) hbb).trans p5;clear hW p5;go_quiet (fail)
  go_wp2
  go_ret
  exact⟨rfl,eu B1 _⟩
 | false=>
  go_enter Tryz.func56,Tryz.ntmps56
  go_wp2
  go_ret
  exact⟨rfl,cZ⟩
end
section
theorem gC (now:Int) (hs:List Hp):begun now hs≤hs.length:=by
 unfold begun;exact(List.takeWhile_prefix _).length_le
theorem pos_zero {cs:List Con} {t:Tk} {now:Int} (h:begun now t.hs=0):posN cs t now=t.q.src∧posT t now=max now t.q.rd:=by
 unfold posN posT;rw[h];refine⟨rfl,?_⟩
 show max (max now t.q.rd) t.q.rd=_
 omega
theorem el {α:Type} {l:List α} {n:Nat} {x:α} (h:l[n]? =some x):l.take (n+1)=l.take n++[x]:=by rw[aN,h];rfl
theorem pos_succ {cs:List Con} {t:Tk} {now:Int} {n:Nat} {x:Hp} (h:begun now t.hs=n+1) (hx:t.hs[n]? =some x):posN cs t now=(conOf cs x.ct).tt∧posT t now=max (max now t.q.rd) x.ar:=by
 unfold posN posT;rw[h,el hx,fl,f7];exact⟨rfl,rfl⟩
def PosPost (cs:List Con) (t:Tk) (now:Int) (w:World) (e:Ending) (w':World):Prop:=
 ((t.st=1∧begun now t.hs<t.hs.length∧e= .returned (.tuple #[.int .i64 (posN cs t now),.int .i64 (posT t now),.bool true]))∨(¬(t.st=1∧begun now t.hs<t.hs.length)∧e= .returned (.tuple #[.int .i64 0,.int .i64 0,.bool false])))∧Below w.heap.size w w'
theorem oV (qs:List Int) (cs:List Con) (uq uc:Value) (t:Tk) (u:Value) (now:Int) (w:World) (hq:∃a k c,uq= .slice a k c) (hc:RRow conC 7 w w.heap.size uc cs) (hr:RHops w u t.hs) (hb:∀h∈t.hs,0≤h.ct∧h.ct<cs.length):
  Calls Tryz.prog 161 #[.agg #[uq,uc],.agg #[.int .i64 t.no,.int .i64 t.q.src,.int .i64 t.q.dst,.int .i64 t.q.sz,.int .i64 t.q.rd,.int .i64 t.q.D,.int .i64 t.q.pr,.bool t.q.cu,u,.int .i64 t.st,.int .i64 t.un],.int .i64 now] w (PosPost cs t now w):=by
 obtain⟨aq,kq,cq,rfl⟩:=hq;have HR:=aa hr;have HB:=aa hb;obtain⟨ca,cc,rfl,e1,e2,-,e4⟩:=hc;have HC4:=aa e4;obtain⟨a,c,rfl,h1,h2,-,h4⟩:=hr;have H4:=aa h4;unfold maxLen at e2 h2;clear e4 h4 hb;obtain⟨no,q,l,st,un⟩:=t;obtain⟨src,dst,sz,rd,D,pr,cu⟩:=q;simp only at h1 h2 HR HB H4 ⊢;obtain⟨n,hn⟩:=cR (begun now l)
 have HN:=aa hn;have hle:=gC now l;rw[hn]at hle;clear hn;go_enter Tryz.func161,Tryz.ntmps161
 go_upto_region 1 with fail
 obtain⟨w1,hw1⟩:=cR ((w.alloc (.cells #[.slice aq kq cq,.slice ca cs.length cc] 25)).alloc (.cells #[.int .i64 no,.int .i64 src,.int .i64 dst,.int .i64 sz,.int .i64 rd,.int .i64 D,.int .i64 pr,.bool cu,.slice a l.length c,.int .i64 st,.int .i64 un] 41))
 rw[hw1];have B1:Below w.heap.size w w1:=by rw[←hw1];exact cZ
 have X0:w1.heap[w.heap.size]? =some (.cells #[.slice aq kq cq,.slice ca cs.length cc] 25 (0,0)):=by rw[←hw1];exact(ak _ _ _ (by simp)).trans cW
 have X1:w1.heap[w.heap.size+1]? =some (.cells #[.int .i64 no,.int .i64 src,.int .i64 dst,.int .i64 sz,.int .i64 rd,.int .i64 D,.int .i64 pr,.bool cu,.slice a l.length c,.int .i64 st,.int .i64 un] 41 (0,0)):=by rw[←hw1];exact cY (by simp)
 have z1:w.heap.size+1<w1.heap.size:=(ai.1 X1).1;have cx1:=fun q=>cU X1 q
 clear hw1;go_wp2_with fail
 refine(f8 ⟨no,⟨src,dst,sz,rd,D,pr,cu⟩,l,st,un⟩ _ now _ (HR.out.below' B1)).mono ?_
 simp only;rw[HN.out];rintro e w2 ⟨rfl,hb2⟩;have B2:Below w.heap.size w w2:=dq B1 hb2;have Y0:=(hb2.block _ (by omega)).trans X0;have Y1:=(hb2.block _ z1).trans X1;have z2:w.heap.size+1<w2.heap.size:=(ai.1 Y1).1;have z2':w.heap.size<w2.heap.size:=by omega
 have cx:=fun q=>cU Y0 q
 have cy:=fun q=>cU Y1 q
 have HB2:=aa B2;clear X0 X1 cx1 hb2 B1 Y0 Y1 B2 z1;by_cases s1:st=1
 case neg=>
  have d1:(st != 1)=true:=by simpa using s1
  have HS:=aa s1;clear s1;go_wp2
  refine bodyPost_ret (v:=.tuple #[.int .i64 0,.int .i64 0,.bool false]) (by simp[results,Tryz.results161,go_sem]) rfl ?_
  exact⟨.inr ⟨fun h=>HS.out h.1,rfl⟩,HB2.out⟩
 have d1:(st != 1)=false:=by simpa using s1
 subst s1;by_cases s2:n=l.length
 ·have d2:((n:Int)==(l.length:Int))=true:=by rw[beq_iff_eq];omega
  have HS:=aa s2;subst s2;go_wp2
  refine bodyPost_ret (v:=.tuple #[.int .i64 0,.int .i64 0,.bool false]) (by simp[results,Tryz.results161,go_sem]) rfl ?_
  exact⟨.inr ⟨fun h=>by have h2:=h.2;simp only[HN.out]at h2;omega,rfl⟩,HB2.out⟩
 have d2:((n:Int)==(l.length:Int))=false:=by rw[beq_eq_false_iff_ne];omega
 have hlt:n<l.length:=by omega
 clear s2
 cases n with
 | zero=>
  obtain⟨hp1,hp2⟩:=pos_zero (cs:=cs) (t:=⟨no,⟨src,dst,sz,rd,D,pr,cu⟩,l,1,un⟩) HN.out;have HP:=aa (cS hp1 hp2);obtain⟨M,hM⟩:=cR (max now rd)
  have hM2:(if now<rd then rd else now)=M:=by rw[←hM];split<;>omega
  have hM3:(if now≤rd then rd else now)=M:=by rw[←hM];split<;>omega
  have HM:=aa hM;have d2':((0:Int)==(l.length:Int))=false:=d2;clear hp1 hp2 d2;go_upto_region 4 with fail
  go_region
  all_goals
   go_wp2
   refine bodyPost_ret (v:=.tuple #[.int .i64 src,.int .i64 M,.bool true]) (by simp[results,Tryz.results161,go_sem]) rfl ?_
   exact⟨.inl ⟨rfl,(by simp only[HN.out];exact hlt),by rw[HP.out.1,HP.out.2];show _=Ending.returned (.tuple #[.int .i64 src,.int .i64 (max now rd),.bool true]);rw[HM.out]⟩,eu HB2.out _⟩
 | succ m=>
  obtain⟨x,hx⟩:∃x,l[m]? =some x:=⟨_,am (by omega)⟩
  obtain⟨hp1,hp2⟩:=pos_succ (cs:=cs) (t:=⟨no,⟨src,dst,sz,rd,D,pr,cu⟩,l,1,un⟩) HN.out hx;have HP:=aa (cS hp1 hp2);have hxb:=HB.out x (az hx);obtain⟨i,hi⟩:=bh hxb.1;have hil:i<cs.length:=by omega
  obtain⟨cb,co,rfl,hcb,hcc⟩:=HC4.out (by omega);obtain⟨cn,hcn⟩:∃x,cs[i]? =some x:=⟨_,am hil⟩
  have HCO:Hid (conOf cs x.ct=cn):=aa (by unfold conOf;rw[hi,bN,aJ,hcn];rfl);have p1:w.cell? ⟨cb,co+i*7+1,none⟩=some (.int .i64 cn.tt):=hcc i cn hcn 1 _ rfl;obtain⟨bb,o,rfl,hbb,hcell⟩:=H4.out (by omega);obtain⟨q0,q1,q2,q3⟩:=hop0 hcell hx;rw[hi]at q0;have g1:=(HB2.out.cell (p:=⟨cb,co+i*7+1,none⟩) hcb).trans p1;have g2:=(HB2.out.cell (p:=⟨bb,o+m*4,none⟩) hbb).trans q0;have g3:=(HB2.out.cell (p:=⟨bb,o+m*4+1,none⟩) hbb).trans q1;have g4:=(HB2.out.cell (p:=⟨bb,o+m*4+2,none⟩) hbb).trans q2;have g5:=(HB2.out.cell (p:=⟨bb,o+m*4+3,none⟩) hbb).trans q3;obtain⟨M,hM⟩:=cR (max now rd)
  have hM2:(if now<rd then rd else now)=M:=by rw[←hM];split<;>omega
  have hM3:(if now≤rd then rd else now)=M:=by rw[←hM];split<;>omega
  have HM:=aa hM;obtain⟨ar,har⟩:=cR x.ar
  have HAR:=aa har;rw[har]at g5;obtain⟨M',hM'⟩:∃q,max M ar=q:=⟨_,rfl⟩
  have hM2':(if M<ar then ar else M)=M':=by rw[←hM'];split<;>omega
  have hM3':(if M≤ar then ar else M)=M':=by rw[←hM'];split<;>omega
  have HM':=aa hM';have i0:(0:Int)≤(i:Int):=by omega
  have i1:(i:Int)<(cs.length:Int):=by omega
  have m0:(0:Int)≤(m:Int):=by omega
  have m1:(m:Int)<(l.length:Int):=by omega
  have wm:IntKind.i64.wrap ((m:Int)+1-1)=(m:Int):=by rw[ax];omega
  have wm2:IntKind.i64.wrap (m:Int)=(m:Int):=by rw[ax];omega
  have mp:decide ((0:Int)<(m:Int)+1)=true:=decide_eq_true (by omega);have mp2:(0:Int)<(m:Int)+1:=by omega
  have d2':((m:Int)+1==(l.length:Int))=false:=by simpa using d2
  have hbb2:bb<w2.heap.size:=by omega
  have hcb2:cb<w2.heap.size:=by omega
  clear hp1 hp2 d2 hx hxb hi hcn hcc hcell p1 q0 q1 q2 q3 har hM hM';go_upto_region 4 with fail
  go_region
  all_goals
   go_upto_region 7 with fail
   obtain⟨w7,hw7⟩:=cR ((w2.alloc (.cells #[.int .i64 (i:Int),.int .i64 x.bg,.int .i64 x.en,.int .i64 ar] 68)).drew)
   rw[hw7];have b7:Below w2.heap.size w2 w7:=by rw[←hw7];exact bdrew (de (ap _ _))
   have X7:w7.heap[w2.heap.size]? =some (.cells #[.int .i64 (i:Int),.int .i64 x.bg,.int .i64 x.en,.int .i64 ar] 68 (0,0)):=by rw[←hw7];exact cW
   have z7:w2.heap.size<w7.heap.size:=(ai.1 X7).1;have c7:=fun q=>cU X7 q
   have cx7:=fun q=>(b7.cell (p:=⟨w.heap.size,q,none⟩) z2').trans (cx q)
   have g17:=(b7.cell (p:=⟨cb,co+i*7+1,none⟩) hcb2).trans g1;have HB7:=aa (dq HB2.out b7);have hcb7:cb<w7.heap.size:=by omega
   have hw27:w.heap.size<w7.heap.size:=by omega
   clear hw7 b7 X7 cx cy g1 g2 g3 g4 g5;go_region
   all_goals
    go_wp2
    refine bodyPost_ret (v:=.tuple #[.int .i64 cn.tt,.int .i64 M',.bool true]) (by simp[results,Tryz.results161,go_sem];have h1:=HM.out;have h2:=HM'.out;omega) rfl ?_
    exact⟨.inl ⟨rfl,(by simp only[HN.out];exact hlt),by rw[HP.out.1,HP.out.2,HCO.out,HAR.out];show _=Ending.returned (.tuple #[.int .i64 cn.tt,.int .i64 (max (max now rd) ar),.bool true]);rw[HM.out,HM'.out]⟩,eu HB7.out _⟩
end
section
def restB (cs:List Con) (t:Tk) (now:Int):Bool:=(decide (t.st=1)&&decide (begun now t.hs<t.hs.length))&&(t.hs.take (begun now t.hs)).all fun h=>decide (lvH cs t.q h≤now)&&decide (h.ar≤now)
theorem iC {α:Type} {p:α→Bool} {l:List α} {k:Nat} {x:α} (h:∀y∈l.take k,p y=true) (hx:l[k]? =some x) (hp:p x=true):∀y∈l.take (k+1),p y=true:=by
 intro y hy;rw[el hx]at hy;rcases aA.1 hy with hy | hy
 ·exact h y hy
 ·rw[aH.1 hy];exact hp
def RestPost (r:Bool) (w:World) (e:Ending) (w':World):Prop:=e= .returned (.bool r)∧Below w.heap.size w w'
theorem pI (qs:List Int) (cs:List Con) (uq uc:Value) (t:Tk) (u:Value) (now:Int) (w:World) (hq:∃a k c,uq= .slice a k c) (hc:RRow conC 7 w w.heap.size uc cs) (hp:PlanOK qs cs) (hr:RHops w u t.hs) (hb:∀h∈t.hs,HpB cs h):
  Calls Tryz.prog 130 #[.agg #[uq,uc],.agg #[.int .i64 t.no,.int .i64 t.q.src,.int .i64 t.q.dst,.int .i64 t.q.sz,.int .i64 t.q.rd,.int .i64 t.q.D,.int .i64 t.q.pr,.bool t.q.cu,u,.int .i64 t.st,.int .i64 t.un],.int .i64 now] w (RestPost (restB cs t now) w):=by
 obtain⟨r,hrr⟩:=cR (restB cs t now)
 rw[hrr];have HRR:=aa hrr;have HQ:=aa hq;obtain⟨aq,kq,cq,rfl⟩:=hq;obtain⟨no,q,l,st,un⟩:=t;simp only at hr hb HRR ⊢;have HR:=aa hr;have HB:=aa hb;have HC:=aa hc;have HP:=aa hp;obtain⟨ca,cc,rfl,-⟩:=hc;obtain⟨a,c,rfl,h1,h2,-,h4⟩:=hr;have H4:=aa h4;unfold maxLen at h2;clear h4 hb hrr hp;obtain⟨n,hn⟩:=cR (begun now l)
 have HN:=aa hn;have hle:=gC now l;rw[hn]at hle;clear hn;go_enter Tryz.func130,Tryz.ntmps130
 go_upto_region 1 with fail
 obtain⟨w1,hw1⟩:=cR ((w.alloc (.cells #[.slice aq kq cq,.slice ca cs.length cc] 25)).alloc (.cells #[.int .i64 no,.int .i64 q.src,.int .i64 q.dst,.int .i64 q.sz,.int .i64 q.rd,.int .i64 q.D,.int .i64 q.pr,.bool q.cu,.slice a l.length c,.int .i64 st,.int .i64 un] 41))
 rw[hw1];have B1:Below w.heap.size w w1:=by rw[←hw1];exact cZ
 have X0:w1.heap[w.heap.size]? =some (.cells #[.slice aq kq cq,.slice ca cs.length cc] 25 (0,0)):=by rw[←hw1];exact(ak _ _ _ (by simp)).trans cW
 have X1:w1.heap[w.heap.size+1]? =some (.cells #[.int .i64 no,.int .i64 q.src,.int .i64 q.dst,.int .i64 q.sz,.int .i64 q.rd,.int .i64 q.D,.int .i64 q.pr,.bool q.cu,.slice a l.length c,.int .i64 st,.int .i64 un] 41 (0,0)):=by rw[←hw1];exact cY (by simp)
 have z1:w.heap.size+1<w1.heap.size:=(ai.1 X1).1;have cx0:=fun q=>cU X0 q
 have cx1:=fun q=>cU X1 q
 clear hw1;go_wp2_with fail
 refine(oV qs cs _ _ ⟨no,q,l,st,un⟩ _ now _ ⟨_,_,_,rfl⟩ (HC.out.below' B1) (HR.out.below' B1) (fun h hh=>(HB.out h hh).1)).mono ?_
 unfold PosPost;simp only;rintro e w2 ⟨hcase,hb2⟩;have B2:Below w.heap.size w w2:=dq B1 hb2;have Y0:=(hb2.block _ (by omega)).trans X0;have Y1:=(hb2.block _ z1).trans X1;have z2:w.heap.size+1<w2.heap.size:=(ai.1 Y1).1;have z2':w.heap.size<w2.heap.size:=by omega
 have HY:=aa (cS Y0 Y1);have HB2:=aa B2;clear X0 X1 cx0 cx1 hb2 B1 B2 z1;rcases hcase with⟨s1,s2,rfl⟩ | ⟨hs,rfl⟩
 case inr=>
  have HE:Hid (r=false):=aa (by
   rw[←HRR.out];unfold restB;simp only;by_cases e1:st=1
   ·rw[show decide (begun now l<l.length)=false from decide_eq_false (fun h=>hs ⟨e1,h⟩)];simp
   ·rw[decide_eq_false e1];simp)
  clear hs Y0 Y1;go_wp2
  go_ret
  exact⟨by rw[HE.out];rfl,HB2.out⟩
 have HE:Hid (r=(l.take n).all fun h=>decide (lvH cs q h≤now)&&decide (h.ar≤now)):=aa (by
  rw[←HRR.out];have e2:=HN.out;unfold restB;simp only;rw[decide_eq_true s1,decide_eq_true s2,e2];simp)
 have HS:=aa (cS s1 s2);have cy:=fun q=>cU Y1 q
 obtain⟨pn,hpn⟩:∃q',posN cs ⟨no,q,l,st,un⟩ now=q':=⟨_,rfl⟩
 obtain⟨pt,hpt⟩:∃q',posT ⟨no,q,l,st,un⟩ now=q':=⟨_,rfl⟩
 rw[hpn,hpt];clear hpn hpt s1 s2 Y0 Y1;go_upto_region 4 with fail
 have HRD:Hid (RHops w2.drew (.slice a l.length c) l):=aa (HR.out.below' (bdrew HB2.out));have n0:(0:Int)≤(n:Int):=by omega
 have n1:(n:Int)≤(c:Int):=by omega
 have n2:n≤c:=by omega
 refine dd (fun V=>Below (w2).heap.size (w2) V) [0,1,1,0,2,0,0,0] [0,1,2,3,7,4,5,6] (by kernel_rfl) (by kernel_rfl) ?_ ?_
 case refine_1=>exact cZ
 (iterate 5 (first | (refine cX rfl (by decide) (by rfl) (fun w1 hS=>by(try(obtain⟨_,_⟩:=bcell (hS rfl)));go_simp;rfl) ?_;simp only[Act.put,ae,af,ag]) | (refine dm rfl (by decide) (by rfl) ?_;simp only[Act.put,ae,af,ag])))
 (refine dA rfl rfl (by rfl) (fun K hK=>?_);go_simp)
 refine(f8 ⟨no,q,l,st,un⟩ _ now _ HRD.out).mono ?_
 rw[HN.out];rintro e wc26 ⟨rfl,hbc26⟩
 (refine hK _ _ (by exact cZ) ?_;clear hK K;(try simp only[Act.put,ae,af,ag]))
 (iterate 2 (first | (refine cX rfl (by decide) (by rfl) (fun w1 hS=>by(try(obtain⟨_,_⟩:=bcell (hS rfl)));go_simp;rfl) ?_;simp only[Act.put,ae,af,ag]) | (refine dm rfl (by decide) (by rfl) ?_;simp only[Act.put,ae,af,ag])))
 refine du ?_
 have HB3:Hid (Below w.heap.size w wc26):=aa (dq (bdrew HB2.out) hbc26);have Y3:=aa (cS ((hbc26.block _ (by simp;omega)).trans HY.out.1) ((hbc26.block _ (by simp;omega)).trans HY.out.2));have z3:w.heap.size+1<wc26.heap.size:=by have:=hbc26.size;simp at this;omega
 clear cy hbc26 HRD;go_wp2_with fail
 go_loopw [29] (fun kv wr=>∃k:Nat,k≤n∧kv= .int .i64 (k:Int)∧Hid (∀x∈l.take k,(decide (lvH cs q x≤now)&&decide (x.ar≤now))=true)∧Hid (Below wc26.heap.size wc26 wr)) (fun kv _=>n-(intOf kv).toNat)
 case atStart=>exact⟨0,aE _,rfl,aa (by simp),aa (ap _ _)⟩
 case round=>
  obtain⟨k,hk,rfl,HT,HBR⟩:=hrel;have zr:wc26.heap.size≤wr.heap.size:=HBR.out.size;have HBW:Hid (Below w.heap.size w wr):=aa (HB3.out.trans (HBR.out.mono (by omega)));have c0:=fun q=>(HBR.out.cell (p:=⟨w.heap.size,q,none⟩) (by show w.heap.size<wc26.heap.size;omega)).trans (cU Y3.out.1 q)
  have c1:=fun q=>(HBR.out.cell (p:=⟨w.heap.size+1,q,none⟩) z3).trans (cU Y3.out.2 q)
  have zr1:w.heap.size+1<wr.heap.size:=by omega
  have zr0:w.heap.size<wr.heap.size:=by omega
  have k0:(0:Int)≤(k:Int):=by omega
  by_cases hlt:k<n
  ·obtain⟨bb,o,rfl,hbb,hc⟩:=H4.out (by omega)
   obtain⟨x,hx⟩:∃x,l[k]? =some x:=⟨_,am (by omega)⟩
   obtain⟨p0,p1,p2,p3⟩:=hop0 hc hx;have q0:=(HBW.out.cell (p:=⟨bb,o+k*4,none⟩) hbb).trans p0;have q1:=(HBW.out.cell (p:=⟨bb,o+k*4+1,none⟩) hbb).trans p1;have q2:=(HBW.out.cell (p:=⟨bb,o+k*4+2,none⟩) hbb).trans p2;have q3:=(HBW.out.cell (p:=⟨bb,o+k*4+3,none⟩) hbb).trans p3;have hbr:bb<wr.heap.size:=by omega
   have k1:(k:Int)<(n:Int):=by omega
   have HX:=aa hx;have hxb:=HB.out x (az hx);have HXB:=aa hxb;clear hc hx p0 p1 p2 p3 hxb;go_upto_region 7 with fail
   obtain⟨w7,hw7⟩:=cR (wr.alloc (.cells #[.int .i64 x.ct,.int .i64 x.bg,.int .i64 x.en,.int .i64 x.ar] 68))
   rw[hw7];have b7:Below wr.heap.size wr w7:=by rw[←hw7];exact de (ap _ _)
   have X7:w7.heap[wr.heap.size]? =some (.cells #[.int .i64 x.ct,.int .i64 x.bg,.int .i64 x.en,.int .i64 x.ar] 68 (0,0)):=by rw[←hw7];exact cW
   have z7:wr.heap.size<w7.heap.size:=(ai.1 X7).1;have c7:=fun q=>cU X7 q
   have c70:=fun q=>(b7.cell (p:=⟨w.heap.size,q,none⟩) zr0).trans (c0 q)
   have c71:=fun q=>(b7.cell (p:=⟨w.heap.size+1,q,none⟩) zr1).trans (c1 q)
   have HX7:=aa X7;have HB7:Hid (Below w.heap.size w w7):=aa (dq HBW.out b7);have HBB7:Hid (Below wc26.heap.size wc26 w7):=aa (HBR.out.trans (b7.mono (by omega)));clear hw7 b7 X7 q0 q1 q2 q3 c0 c1;go_wp2_with fail
   refine(ki qs cs _ _ q x _ ⟨_,_,_,rfl⟩ (HC.out.below' HB7.out) HP.out HXB.out).mono ?_
   obtain⟨lv,hlv⟩:∃q',lvH cs q x=q':=⟨_,rfl⟩
   rw[hlv];have HLV:=aa hlv;rintro e w8 ⟨rfl,hb8⟩;have c8:=fun q=>cU ((hb8.block _ z7).trans HX7.out) q
   have z8:wr.heap.size<w8.heap.size:=by have:=hb8.size;omega
   have HB8:Hid (Below w.heap.size w w8):=aa (dq HB7.out hb8);have HBB8:Hid (Below wc26.heap.size wc26 w8):=aa (HBB7.out.trans (hb8.mono (by omega)));clear c7 c70 c71 hb8 hlv;by_cases y:lv>now
   ·have dy:decide (lv>now)=true:=decide_eq_true y
    have HF:Hid (r=false):=aa (by
     rw[HE.out,List.all_eq_false];exact⟨x,az (by rw[bA,if_pos hlt];exact HX.out),by rw[HLV.out,decide_eq_false (by omega)];simp⟩)
    clear y;go_wp2
    go_ret
    exact⟨by rw[HF.out];rfl,HB8.out⟩
   ·have dy:decide (lv>now)=false:=decide_eq_false y
    by_cases y2:x.ar>now
    ·have dy2:decide (x.ar>now)=true:=decide_eq_true y2
     have HF:Hid (r=false):=aa (by
      rw[HE.out,List.all_eq_false];exact⟨x,az (by rw[bA,if_pos hlt];exact HX.out),by rw[decide_eq_false (p:=x.ar≤now) (by omega)];simp⟩)
     clear y y2;go_wp2
     go_ret
     exact⟨by rw[HF.out];rfl,HB8.out⟩
    ·have dy2:decide (x.ar>now)=false:=decide_eq_false y2
     have HT2:Hid (∀x∈l.take (k+1),(decide (lvH cs q x≤now)&&decide (x.ar≤now))=true):=aa (iC HT.out HX.out (by rw[HLV.out,decide_eq_true (p:=lv≤now) (by omega),decide_eq_true (p:=x.ar≤now) (by omega)];rfl));clear y y2;go_wp2
     go_roundw
     case rel=>exact⟨k+1,by omega,by go_num,HT2,HBB8⟩
     case measure=>simp[intOf];omega
  ·obtain rfl:k=n:=by omega
   have HF:Hid (r=true):=aa (by rw[HE.out];exact List.all_eq_true.2 HT.out);go_wp2
   go_ret
   exact⟨by rw[HF.out];rfl,HBW.out⟩
end
section
def totS (l:List Sp):Int:=(l.map fun x=>x.2-x.1).sum
theorem kj:(Tryz.prog.info? 86).map (fun i=>(i.zero,i.size,i.bytes))=some (some (.agg #[.int .i64 0,.int .i64 0]),2,16):=by kernel_rfl
end
section
theorem gn (a b:List Sp):sps (a++b)=sps a++sps b:=by unfold sps;rw[aV]
end
end Go.Proofs.YtfnciigbbolckaaGreat
