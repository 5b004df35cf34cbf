/- Part 30 of the proof about mailboattop.TopOthers. No condition. -/
import Derived.Test.YtfnciigbbolckaaGreatQ00
import Derived.Test.YtfnciigbbolckaaGreatQ09
import Derived.Test.YtfnciigbbolckaaGreatQ29
set_option linter.unusedVariables false
set_option linter.unusedSimpArgs false
set_option maxRecDepth 100000
set_option maxHeartbeats 64000000
namespace Go.Proofs.YtfnciigbbolckaaGreat
open Go Go.RowKit Iv
attribute [local go_sem] Oper.semAt_some
attribute [local go_sem] pw gu B_app pv B_get B_toList
section
theorem pi:(Tryz.prog.info? 84).map (fun i=>(i.zero,i.size,i.bytes))=some (some (.slice none 0 0),1,24):=by kernel_rfl
def RSpsD (D:Nat→Prop) (w:World) (v:Value) (l:List Sp):Prop:=∃(a:Option Addr) (c:Nat),v= .slice a l.length c∧l.length≤c∧c≤maxLen∧(a=none→c=0)∧
 (0<l.length→∃b o,a=some ⟨b,o,none⟩∧b<w.heap.size∧D b∧∀(j:Nat) (u:Value),(sps l)[j]? =some u→w.cell? ⟨b,o+j,none⟩=some u)
theorem RSpsD.of {D:Nat→Prop} {w:World} {v:Value} {l:List Sp} {N:Nat} (h:RSps w w.heap.size v l) (hf:RFrom N v) (hD:∀b,N≤b→b<w.heap.size→D b):RSpsD D w v l:=by
 obtain⟨a,c,rfl,h1,h2,h3,h4⟩:=h;refine⟨a,c,rfl,h1,h2,h3,fun hp=>?_⟩
 obtain⟨b,o,rfl,hb,hc⟩:=h4 hp;exact⟨b,o,rfl,hb,hD b (hf ⟨b,o,none⟩ _ _ rfl) hb,hc⟩
theorem RSpsD.keep {D D':Nat→Prop} {w w':World} {v:Value} {l:List Sp} (h:RSpsD D w v l) (hs:w.heap.size≤w'.heap.size) (hk:∀b,b<w.heap.size→D b→w'.heap[b]? =w.heap[b]?∧D' b):RSpsD D' w' v l:=by
 obtain⟨a,c,rfl,h1,h2,h3,h4⟩:=h;refine⟨a,c,rfl,h1,h2,h3,fun hp=>?_⟩
 obtain⟨b,o,rfl,hb,hd,hc⟩:=h4 hp;exact⟨b,o,rfl,aO hb hs,(hk b hb hd).2,fun j u hu=>(aU (a:=⟨b,o+j,none⟩) (hk b hb hd).1).trans (hc j u hu)⟩
theorem RSpsD.to {D:Nat→Prop} {w:World} {v:Value} {l:List Sp} (h:RSpsD D w v l):RSps w w.heap.size v l:=by
 obtain⟨a,c,rfl,h1,h2,h3,h4⟩:=h;refine⟨a,c,rfl,h1,h2,h3,fun hp=>?_⟩
 obtain⟨b,o,rfl,hb,_,hc⟩:=h4 hp;exact⟨b,o,rfl,hb,hc⟩
theorem pj {w:World} {B n:Nat} {e:TypeId} {v:Value} {xs:List Value} (h:w.ownsRow B e 1 v n xs):∃(a:Option Addr) (c:Nat),v= .slice a n c∧n≤c∧c≤maxLen∧(a=none→c=0)∧
  (0<n→∃b,a=some ⟨b,0,none⟩∧b<w.heap.size∧∀(j:Nat) (u:Value),xs[j]? =some u→w.cell? ⟨b,j,none⟩=some u):=by
 have hc:=fun g (hg:v.ownBlock=some g)=>h.cells (g:=g) hg
 have hlt:=h.lt;rcases h.2 with⟨rfl,rfl⟩ | ⟨g,cap,cur,rfl,hb,hg,hn,hm,hs,ht⟩
 ·exact⟨none,0,rfl,aj _,aE _,fun _=>rfl,fun h=>absurd h (Nat.lt_irrefl _)⟩
 ·refine⟨_,cap,rfl,hn,hm,(fun h=>by cases h),fun _=>⟨g,rfl,(hlt g rfl).2,fun j u hu=>?_⟩⟩
  have:=hc g rfl j u hu;rwa [fj,bx]at this
theorem qg {w:World} {B n:Nat} {e:TypeId} {v:Value} {l:List Int} (h:w.ownsRow B e 1 v n (l.map (Value.int .i64))):RRow intC 1 w w.heap.size v l:=by
 have hn:n=l.length:=by have:=h.1;simp at this;omega
 subst hn;obtain⟨a,c,rfl,h1,h2,h3,h4⟩:=pj h;refine⟨a,c,rfl,h1,h2,h3,fun hp=>?_⟩
 obtain⟨b,rfl,hb,hc⟩:=h4 hp;refine⟨b,0,rfl,hb,fun i x hx j u hu=>?_⟩
 match j,hu with
 | 0,hu=>
  have e:u= .int .i64 x:=by injection hu with hu;exact hu.symm
  have:=hc i (.int .i64 x) (by rw[bO,hx];rfl);rw[e,show 0+i*1+0=i by omega];exact this
theorem nA {D:Nat→Prop} {w:World} {B n:Nat} {e:TypeId} {v:Value} {vals:List Value} {L:List (List Sp)} (h:w.ownsRow B e 1 v n vals) (hl:L.length=n) (hr:∀(i:Nat) u l,vals[i]? =some u→L[i]? =some l→RSpsD D w u l):RRows w w.heap.size v L:=by
 subst hl;have hv:vals.length=L.length:=by have:=h.1;omega
 obtain⟨a,c,rfl,h1,h2,h3,h4⟩:=pj h;refine⟨a,c,rfl,h1,h2,fun hp=>?_⟩
 obtain⟨b,rfl,hb,hc⟩:=h4 hp;refine⟨b,0,rfl,hb,fun i l hi=>?_⟩
 have hil:i<vals.length:=by have:=(aw.1 hi).1;omega
 exact⟨vals[i],by rw[bx];exact hc i _ (am hil),(hr i _ l (am hil) hi).to⟩
structure BS (w2 V:World) (B:Nat) (e1 e2:TypeId) (u0 d0 u d:Value) (n m:Nat) (xs ys:List Value):Prop where
 own1:V.ownsRow B e1 1 u n xs
 own2:V.ownsRow B e2 1 d m ys
 old:∀q,q<w2.heap.size→u0.ownBlock≠some q→d0.ownBlock≠some q→V.heap[q]? =w2.heap[q]?
 sz:w2.heap.size≤V.heap.size
 f1:u.ownBlock=u0.ownBlock∨∃b,u.ownBlock=some b∧w2.heap.size≤b
 f2:d.ownBlock=d0.ownBlock∨∃b,d.ownBlock=some b∧w2.heap.size≤b
section
variable {w2 V V':World} {B n m:Nat} {e1 e2:TypeId} {u0 d0 u d:Value} {xs ys:List Value}
theorem own_ne {w:World} {B n:Nat} {e e':TypeId} {v:Value} {xs:List Value} {g:Nat} {c:Array Value} (h:w.ownsRow B e 1 v n xs) (hg:v.ownBlock=some g) (hn:w.heap[g]? =some (.cells c e' (0,0))) (hne:e≠e'):False:=by
 obtain⟨c1,k1⟩:=i6 h hg;rw[hn]at k1;injection k1 with k1
 injection k1 with _ k1 _
 exact hne k1.symm
theorem BS.start (h1:w2.ownsRow B e1 1 u n xs) (h2:w2.ownsRow B e2 1 d m ys):BS w2 w2 B e1 e2 u d u d n m xs ys:=⟨h1,h2,fun _ _ _ _=>rfl,aj _,.inl rfl,.inl rfl⟩
theorem BS.below (h:BS w2 V B e1 e2 u0 d0 u d n m xs ys) (k:Below V.heap.size V V'):BS w2 V' B e1 e2 u0 d0 u d n m xs ys:=
 ⟨cV h.own1 fun q hq=>k.block q (h.own1.lt q hq).2,cV h.own2 fun q hq=>k.block q (h.own2.lt q hq).2,fun q hq n1 n2=>(k.block q (by have:=h.sz;omega)).trans (h.old q hq n1 n2),aK h.sz k.size,h.f1,h.f2⟩
theorem BS.app1 {u':Value} {n':Nat} {xs':List Value} (h:BS w2 V B e1 e2 u0 d0 u d n m xs ys) (hne:e1≠e2) (ho:V'.ownsRow B e1 1 u' n' xs') (hg:V.grownBy V' u.ownBlock) (hf:u'.ownBlock=u.ownBlock∨u'.ownBlock=some V.heap.size):BS w2 V' B e1 e2 u0 d0 u' d n' m xs' ys:=by
 refine⟨ho,cV h.own2 fun q hq=>dw hg (h.own2.lt q hq).2 fun e=>?_,fun q hq n1 n2=>(dw hg (by have:=h.sz;omega) fun e=>?_).trans (h.old q hq n1 n2),aK h.sz hg.size,?_,h.f2⟩
 ·obtain⟨c1,k1⟩:=i6 h.own1 e
  obtain⟨c2,k2⟩:=i6 h.own2 hq;rw[k1]at k2;injection k2 with k2
  injection k2 with _ k2 _
  exact hne k2
 ·rcases h.f1 with z | ⟨b,z,hb⟩
  ·exact n1 (z ▸ e)
  ·rw[z]at e;injection e with e;omega
 ·rcases hf with z | z
  ·rw[z];exact h.f1
  ·exact .inr ⟨_,z,h.sz⟩
theorem BS.swap (h:BS w2 V B e1 e2 u0 d0 u d n m xs ys):BS w2 V B e2 e1 d0 u0 d u m n ys xs:=⟨h.own2,h.own1,fun q hq n1 n2=>h.old q hq n2 n1,h.sz,h.f2,h.f1⟩
theorem BS.app2 {d':Value} {m':Nat} {ys':List Value} (h:BS w2 V B e1 e2 u0 d0 u d n m xs ys) (hne:e1≠e2) (ho:V'.ownsRow B e2 1 d' m' ys') (hg:V.grownBy V' d.ownBlock) (hf:d'.ownBlock=d.ownBlock∨d'.ownBlock=some V.heap.size):BS w2 V' B e1 e2 u0 d0 u d' n m' xs ys':=
 (h.swap.app1 (Ne.symm hne) ho hg hf).swap
end
structure L1 (wZ:World) (C gB:Nat) (G:List (List Sp)) (Ds:List Int) (cells:Value→Value→Array Value) (ug ud:Value) (vals:List Value) (W:World):Prop where
 gb:W.heap[gB]? =some (.cells (cells ug ud) 196 (0,0))
 o1:W.ownsRow (gB+1) 84 1 ug G.length vals
 o2:W.ownsRow (gB+1) 3 1 ud Ds.length (Ds.map (Value.int .i64))
 rows:∀(i:Nat) v l,vals[i]? =some v→G[i]? =some l→RSpsD (fun b=>gB+1≤b∧ug.ownBlock≠some b∧ud.ownBlock≠some b) W v l
 keep:∀q,q<gB→W.heap[q]? =wZ.heap[q]?
 bel:Below C wZ W
section
variable {wZ W W' V W9:World} {C gB:Nat} {G:List (List Sp)} {Ds:List Int} {cells:Value→Value→Array Value} {ug ud ug' ud':Value} {vals:List Value}
theorem L1.lt (h:L1 wZ C gB G Ds cells ug ud vals W):gB<W.heap.size:=(ai.1 h.gb).1
theorem L1.below (h:L1 wZ C gB G Ds cells ug ud vals W) (k:Below W.heap.size W W') (hC:C≤gB):L1 wZ C gB G Ds cells ug ud vals W':=by
 have hl:=h.lt;refine⟨(k.block _ hl).trans h.gb,cV h.o1 fun q hq=>k.block q (h.o1.lt q hq).2,cV h.o2 fun q hq=>k.block q (h.o2.lt q hq).2,fun i v l hv hl'=>(h.rows i v l hv hl').keep k.size fun b hb hd=>⟨k.block b hb,hd⟩,fun q hq=>(k.block q (by omega)).trans (h.keep q hq),h.bel.trans (k.mono (by omega))⟩
theorem L1.step {v:Value} {l:List Sp} {x:Int} (h:L1 wZ C gB G Ds cells ug ud vals W) (hC:C≤gB) (hv:RSps W W.heap.size v l) {N:Nat} (hf:RFrom N v) (hN:gB+1≤N) (hu:∀b,ug.ownBlock=some b→b<N) (hd:∀b,ud.ownBlock=some b→b<N)
  (hb:BS W V (gB+1) 84 3 ug ud ug' ud' (G.length+1) (Ds.length+1) (vals++[v]) (Ds.map (Value.int .i64)++[.int .i64 x]))
  (h9:∀q,q≠gB→W9.heap[q]? =V.heap[q]?) (hs9:W9.heap.size=V.heap.size) (hg9:W9.heap[gB]? =some (.cells (cells ug' ud') 196 (0,0))) (hb9:Below C wZ W9):L1 wZ C gB (G++[l]) (Ds++[x]) cells ug' ud' (vals++[v]) W9:=by
 have hl:=h.lt;have hvl:vals.length=G.length:=by have:=h.o1.1;omega
 have hn1:ug.ownBlock≠some gB:=fun e=>by have:=(h.o1.lt _ e).1;omega
 have hn2:ud.ownBlock≠some gB:=fun e=>by have:=(h.o2.lt _ e).1;omega
 have hk:∀b,b<W.heap.size→gB+1≤b→ug.ownBlock≠some b→ud.ownBlock≠some b→W9.heap[b]? =W.heap[b]?∧(gB+1≤b∧ug'.ownBlock≠some b∧ud'.ownBlock≠some b):=fun b hb1 hb2 n1 n2=>by
  refine⟨(h9 b (by omega)).trans (hb.old b hb1 n1 n2),hb2,fun e=>?_,fun e=>?_⟩
  ·rcases hb.f1 with z | ⟨b',z,hb'⟩
   ·exact n1 (z ▸ e)
   ·rw[z]at e;injection e with e;omega
  ·rcases hb.f2 with z | ⟨b',z,hb'⟩
   ·exact n2 (z ▸ e)
   ·rw[z]at e;injection e with e;omega
 refine⟨hg9,?_,?_,fun i v' l' hv' hl'=>?_,fun q hq=>?_,hb9⟩
 ·rw[ay]
  exact cV hb.own1 fun q hq=>h9 q (by have:=(hb.own1.lt q hq).1;omega)
 ·rw[ay,bL]
  exact cV hb.own2 fun q hq=>h9 q (by have:=(hb.own2.lt q hq).1;omega)
 ·rcases bq i vals.length with z | z
  ·rw[bH z]at hv'
   rw[bH (by omega)]at hl';exact(h.rows i v' l' hv' hl').keep (by rw[hs9];exact hb.sz) fun b hb1 hd=>hk b hb1 hd.1 hd.2.1 hd.2.2
  ·rw[bz z]at hv'
   rw[bz (by omega)]at hl';have hi:i-vals.length=0:=by
    rcases bC (i-vals.length)with z | z
    ·exact z
    ·rw[bj (by simp;omega)]at hv';cases hv'
   have hi2:i-G.length=0:=by omega
   rw[hi]at hv';rw[hi2]at hl';simp at hv' hl'
   subst hv' hl';refine(RSpsD.of (D:=fun b=>gB+1≤b∧ug.ownBlock≠some b∧ud.ownBlock≠some b) hv hf fun b h1 h2=>⟨by omega,fun e=>by have:=hu b e;omega,fun e=>by have:=hd b e;omega⟩).keep (by rw[hs9];exact hb.sz) fun b hb1 hd=>hk b hb1 hd.1 hd.2.1 hd.2.2
 ·exact(h9 q (by omega)).trans ((hb.old q (by omega) (fun e=>by have:=(h.o1.lt q e).1;omega) (fun e=>by have:=(h.o2.lt q e).1;omega)).trans (h.keep q hq))
end
structure L2 (wY:World) (C gB:Nat) (R:List (List Sp)) (cells:Value→Array Value) (ur:Value) (vals:List Value) (W:World):Prop where
 gb:W.heap[gB]? =some (.cells (cells ur) 196 (0,0))
 o1:W.ownsRow wY.heap.size 84 1 ur R.length vals
 rows:∀(i:Nat) v l,vals[i]? =some v→R[i]? =some l→RSpsD (fun b=>wY.heap.size≤b∧ur.ownBlock≠some b) W v l
 keep:∀q,q<wY.heap.size→q≠gB→W.heap[q]? =wY.heap[q]?
 sz:wY.heap.size≤W.heap.size
 bel:Below C wY W
section
variable {wY W W' V W9:World} {C gB:Nat} {R:List (List Sp)} {cells:Value→Array Value} {ur ur':Value} {vals:List Value}
theorem L2.lt (h:L2 wY C gB R cells ur vals W):gB<W.heap.size:=(ai.1 h.gb).1
theorem L2.below (h:L2 wY C gB R cells ur vals W) (k:Below W.heap.size W W') (hC:C≤gB):L2 wY C gB R cells ur vals W':=by
 have hl:=h.lt;have hs:=h.sz;exact⟨(k.block _ hl).trans h.gb,cV h.o1 fun q hq=>k.block q (h.o1.lt q hq).2,fun i v l hv hl'=>(h.rows i v l hv hl').keep k.size fun b hb hd=>⟨k.block b hb,hd⟩,fun q hq hne=>(k.block q (by omega)).trans (h.keep q hq hne),aK hs k.size,h.bel.trans (k.mono (by omega))⟩
theorem L2.step {v:Value} {l:List Sp} (h:L2 wY C gB R cells ur vals W) (hgB:gB<wY.heap.size) (hv:RSps W W.heap.size v l) {N:Nat} (hf:RFrom N v) (hN:wY.heap.size≤N) (hu:∀b,ur.ownBlock=some b→b<N)
  {e2:TypeId} (hb:BS W V wY.heap.size 84 e2 ur (.slice none 0 0) ur' (.slice none 0 0) (R.length+1) 0 (vals++[v]) [])
  (h9:∀q,q≠gB→W9.heap[q]? =V.heap[q]?) (hs9:W9.heap.size=V.heap.size) (hg9:W9.heap[gB]? =some (.cells (cells ur') 196 (0,0))) (hb9:Below C wY W9):L2 wY C gB (R++[l]) cells ur' (vals++[v]) W9:=by
 have hl:=h.lt;have hvl:vals.length=R.length:=by have:=h.o1.1;omega
 have hn1:ur.ownBlock≠some gB:=fun e=>by have:=(h.o1.lt _ e).1;omega
 have hk:∀b,b<W.heap.size→wY.heap.size≤b→ur.ownBlock≠some b→W9.heap[b]? =W.heap[b]?∧(wY.heap.size≤b∧ur'.ownBlock≠some b):=fun b hb1 hb2 n1=>by
  refine⟨(h9 b (by omega)).trans (hb.old b hb1 n1 (fun e=>by cases e)),hb2,fun e=>?_⟩
  rcases hb.f1 with z | ⟨b',z,hb'⟩
  ·exact n1 (z ▸ e)
  ·rw[z]at e;injection e with e;omega
 refine⟨hg9,?_,fun i v' l' hv' hl'=>?_,fun q hq hne=>?_,by rw[hs9];exact aK h.sz hb.sz,hb9⟩
 ·rw[ay]
  exact cV hb.own1 fun q hq=>h9 q (by have:=(hb.own1.lt q hq).1;omega)
 ·rcases bq i vals.length with z | z
  ·rw[bH z]at hv'
   rw[bH (by omega)]at hl';exact(h.rows i v' l' hv' hl').keep (by rw[hs9];exact hb.sz) fun b hb1 hd=>hk b hb1 hd.1 hd.2
  ·rw[bz z]at hv'
   rw[bz (by omega)]at hl';have hi:i-vals.length=0:=by
    rcases bC (i-vals.length)with z | z
    ·exact z
    ·rw[bj (by simp;omega)]at hv';cases hv'
   have hi2:i-R.length=0:=by omega
   rw[hi]at hv';rw[hi2]at hl';simp at hv' hl'
   subst hv' hl';refine(RSpsD.of (D:=fun b=>wY.heap.size≤b∧ur.ownBlock≠some b) hv hf fun b h1 h2=>⟨by omega,fun e=>by have:=hu b e;omega⟩).keep (by rw[hs9];exact hb.sz) fun b hb1 hd=>hk b hb1 hd.1 hd.2
 ·have hs:=h.sz
  exact(h9 q hne).trans ((hb.old q (by omega) (fun e=>by have:=(h.o1.lt q e).1;omega) (fun e=>by cases e)).trans (h.keep q hq hne))
theorem L2.gr {wZ:World} {C2:Nat} {G:List (List Sp)} {Ds:List Int} {c3:Value→Value→Array Value} {ug ud:Value} {vg:List Value} (h:L2 wY C gB R cells ur vals W) (hL:L1 wZ C2 gB G Ds c3 ug ud vg wY):
  RRows W W.heap.size ug G∧RRows W W.heap.size ur R∧RRow intC 1 W W.heap.size ud Ds:=by
 have hs:=h.sz;have hk:∀q,q<wY.heap.size→gB+1≤q→W.heap[q]? =wY.heap[q]?:=fun q h1 h2=>h.keep q h1 (by omega)
 refine⟨nA (cV hL.o1 fun q hq=>hk q (hL.o1.lt q hq).2 (hL.o1.lt q hq).1) rfl fun i v l hv hl=>(hL.rows i v l hv hl).keep (D':=fun _=>True) hs fun b hb hd=>⟨hk b hb hd.1,trivial⟩,nA h.o1 rfl h.rows,qg (cV hL.o2 fun q hq=>hk q (hL.o2.lt q hq).2 (hL.o2.lt q hq).1)⟩
end
end
section
theorem Free_any (qs:List Int) (cs:List Con) (l:List Bkg) (n:Nat) (c:Con) (uq uc ub:Value) (w:World) (hq:RRow intC 1 w w.heap.size uq qs) (hc:RRow conC 7 w w.heap.size uc cs) (hl:RRow bkgC 4 w w.heap.size ub l)
  (hp:PlanOK qs cs) (hb:BkOK cs l) (hn:cs[n]? =some c) (hdj:DJ c.st (busyS l n)):
  Calls Tryz.prog 116 #[.agg #[uq,uc],ub,.int .i64 n] w (SpsPostF (outs c.en c.st (busyS l n),0) w):=by
 have HQ:=aa hq;have HC:=aa hc;have HL:=aa hl;have HP:=aa hp;have HB:=aa hb;have HN:=aa hn;have HDJ:=aa hdj;have h512:=hb.1;have hlt:n<cs.length:=(aw.1 hn).1;obtain⟨aq,cq,rfl,-⟩:=hq;obtain⟨ac,cc,rfl,c1,c2,c3,c4⟩:=hc;unfold maxLen at c2;have hlc:cs.length≤9223372036854775807:=by omega
 obtain⟨bb,o,rfl,hbn,hcell⟩:=c4 (by omega);obtain⟨al,cl,rfl,-⟩:=hl;have hc2:=hcell n c hn 2 _ rfl;have HCELL:=aa hc2;obtain⟨R,hR⟩:=cR (outs c.en c.st (busyS l n))
 have HR:=aa hR;have n0:(0:Int)≤(n:Int):=by omega
 have n1:(n:Int)<(cs.length:Int):=by omega
 rw[hR];clear hp hb hn hdj hcell hc2 c3 c4 hR;go_enter Tryz.func116,Tryz.ntmps116
 go_wp2_with fail
 refine(ox qs cs l n _ _ _ _ (HQ.out.below' cZ) (HC.out.below' cZ) (HL.out.below' cZ) HP.out HB.out hlt).mono ?_
 rintro e w1 ⟨rfl,hb1⟩;have hB1:Below w.heap.size w w1:=dq (de (ap _ _)) hb1;have GP:w1.heap[w.heap.size]? =some (.cells #[.slice aq qs.length cq,.slice (some ⟨bb,o,none⟩) cs.length cc] 25 (0,0)):=(hb1.block _ (by simp)).trans cW;have hz1:w.heap.size<w1.heap.size:=(ai.1 GP).1;have cp:=fun q=>cU GP q
 have q2:w1.cell? ⟨bb,o+n*7+2,none⟩=some (.int .i64 c.st):=(hB1.cell (p:=⟨bb,o+n*7+2,none⟩) hbn).trans HCELL.out;have hbn1:bb<w1.heap.size:=by omega
 clear hb1;go_upto_region 4 with fail
 refine dd (fun V=>Below (w1).heap.size (w1) V) [1,0,0,0,1,0,0,0,1,3,0,0] [0,1,2,3,4,5,6,7,8,9,10,11] (by kernel_rfl) (by kernel_rfl) ?_ ?_
 case refine_1=>exact cZ
 (iterate 9 (first | (refine cX rfl (by decide) (by rfl) (fun w1 hS=>by(try(obtain⟨_,_⟩:=bcell (hS rfl)));go_simp;rfl) ?_;simp only[Act.put,ae,af,ag]) | (refine dm rfl (by decide) (by rfl) ?_;simp only[Act.put,ae,af,ag])))
 (refine di rfl rfl (by rfl) (fun K hK=>?_);go_simp)
 refine(free_any qs cs l n c _ _ _ _ (HQ.out.below' cZ) (HC.out.below' cZ) (HL.out.below' cZ) HN.out h512 HDJ.out).mono ?_
 rw[HR.out];rintro e wc25 hr25;obtain⟨u,rfl,hru,hfu,hbc25⟩:=hr25
 (refine hK _ _ ?_;clear hK K;(try simp only[Act.put,ae,af,ag]))
 (iterate 2 (first | (refine cX rfl (by decide) (by rfl) (fun w1 hS=>by(try(obtain⟨_,_⟩:=bcell (hS rfl)));go_simp;rfl) ?_;simp only[Act.put,ae,af,ag]) | (refine dm rfl (by decide) (by rfl) ?_;simp only[Act.put,ae,af,ag])))
 refine du ?_
 have HRU:=aa hru;have HFU:=aa hfu;have hbd:Below w1.heap.size w1 wc25:=dq (bdrew (ap _ w1):Below w1.heap.size w1 w1.drew) hbc25;clear hru hfu hbc25;go_wp2
 go_ret2
 exact⟨_,rfl,HRU.out,HFU.out.le (by show w.heap.size≤w1.heap.size;omega),dq hB1 hbd⟩
def PredS (f:FuncId) (caps:Array Value) (Pd:Sp→Bool) (w:World) (l:List Sp):Prop:=(∀args W,(callFunc f args).run Tryz.prog W= .ok (.enter f args) W)∧
 ∀(x:Sp) (W:World),x∈l→Below w.heap.size w W→Calls Tryz.prog f (#[.agg #[.int .i64 x.1,.int .i64 x.2]]++caps) W fun e W'=>e= .returned (.bool (Pd x))∧Below W.heap.size W W'
def PredSIdx (Pd:Sp→Bool) (l:List Sp) (w:World) (e:Ending) (w':World):Prop:=Below w.heap.size w w'∧
 ((e= .returned (.int .i64 (-1))∧∀x∈l,Pd x=false)∨∃k:Nat,e= .returned (.int .i64 k)∧k<l.length∧(∀x∈l.take k,Pd x=false)∧∀x,l[k]? =some x→Pd x=true)
theorem nC (l:List Sp) (u:Value) (f:FuncId) (caps:Array Value) (Pd:Sp→Bool) (w:World) (h:RSps w w.heap.size u l) (hp:PredS f caps Pd w l):
  Calls Tryz.prog 69 #[u,.func (.func f) #[] caps] w (PredSIdx Pd l w):=by
 obtain⟨a,c,rfl,h1,h2,h3,h4⟩:=h;unfold maxLen at h2;have hlen:l.length≤9223372036854775807:=by omega
 have H4:=aa h4;obtain⟨hcall,hq⟩:=hp;have HP:=aa hq;clear h3 h4 hq;go_enter Tryz.func69,Tryz.ntmps69
 go_wp2
 go_loopw [8] (fun i wr=>∃k:Nat,k≤l.length∧i= .int .i64 k∧Hid (∀x∈l.take k,Pd x=false)∧Below w.heap.size w wr) (fun i _=>l.length-(intOf i).toNat)
 case atStart=>exact⟨0,aE _,rfl,aa (by simp),ap _ _⟩
 case round=>
  obtain⟨k,hk,rfl,HF,hB⟩:=hrel;by_cases hlt:k<l.length
  ·obtain⟨bb,o,rfl,hbn,hcell⟩:=H4.out (by omega)
   obtain⟨x,hx⟩:∃x,l[k]? =some x:=⟨_,am hlt⟩
   have q0:wr.cell? ⟨bb,o+k*2,none⟩=some (.int .i64 x.1):=(hB.cell (p:=⟨bb,o+k*2,none⟩) hbn).trans (sp0 hcell hx);have q1:wr.cell? ⟨bb,o+k*2+1,none⟩=some (.int .i64 x.2):=(hB.cell (p:=⟨bb,o+k*2+1,none⟩) hbn).trans (sp1 hcell hx);have k0:(0:Int)≤(k:Int):=by omega
   have k1:(k:Int)<(l.length:Int):=by omega
   obtain⟨q,hq⟩:=cR (Pd x)
   have HQ:=aa hq;have HX:=aa hx;have hsz:=hB.size;clear hq hx hcell;go_wp2_with fail
   refine(HP.out x _ (az HX.out) hB).mono ?_
   rw[HQ.out];rintro e w1 ⟨rfl,hb1⟩;have hb2:Below w.heap.size w w1:=cZ
   cases q with
   | false=>
    go_wp2
    go_roundw
    case rel=>
     refine⟨k+1,by omega,by go_num,aa ?_,hb2⟩
     intro y hy;rw[aN,HX.out]at hy;rcases aA.1 hy with hy | hy
     ·exact HF.out y hy
     ·simp at hy;subst hy;exact HQ.out
    case measure=>simp[intOf];omega
   | true=>
    go_wp2
    go_ret
    exact⟨hb2,.inr ⟨k,rfl,hlt,HF.out,fun y hy=>by rw[HX.out]at hy;injection hy with hy;subst hy;exact HQ.out⟩⟩
  ·obtain rfl:k=l.length:=by omega
   go_wp2
   go_ret
   exact⟨hB,.inl ⟨rfl,by have:=HF.out;rwa [aL]at this⟩⟩
theorem kJ (l:List Sp) (u:Value) (f:FuncId) (caps:Array Value) (Pd:Sp→Bool) (w:World) (h:RSps w w.heap.size u l) (hp:PredS f caps Pd w l):
  Calls Tryz.prog 29 #[u,.func (.func f) #[] caps] w fun e w'=>e= .returned (.bool (l.any Pd))∧Below w.heap.size w w':=by
 have HR:=aa h;have HP:=aa hp;clear h hp;go_enter Tryz.func29,Tryz.ntmps29
 go_wp2_with fail
 refine(nC l u f caps Pd _ HR.out HP.out).mono ?_
 rintro e w1 ⟨hb1,⟨rfl,hF⟩ | ⟨k,rfl,hk,hF,hT⟩⟩
 ·have HL:Hid (l.any Pd=false):=aa (by rw[cM];intro x hx;rw[hF x hx];simp)
  clear hF;go_wp2
  go_ret
  exact⟨by rw[HL.out];rfl,hb1⟩
 ·have HL:Hid (l.any Pd=true):=aa (by rw[List.any_eq_true];exact⟨l[k],bY hk,hT _ (am hk)⟩)
  clear hF hT;go_wp2
  go_ret
  exact⟨by rw[HL.out];first | rfl | (simp;done),hb1⟩
end
end Go.Proofs.YtfnciigbbolckaaGreat
