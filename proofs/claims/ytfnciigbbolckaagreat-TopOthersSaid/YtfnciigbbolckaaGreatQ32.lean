/- Part 32 of the proof about mailboattop.TopOthers. No condition. -/
import Derived.Test.YtfnciigbbolckaaGreatQ00
import Derived.Test.YtfnciigbbolckaaGreatQ08
import Derived.Test.YtfnciigbbolckaaGreatQ10
import Derived.Test.YtfnciigbbolckaaGreatQ13
import Derived.Test.YtfnciigbbolckaaGreatQ16
import Derived.Test.YtfnciigbbolckaaGreatQ19
import Derived.Test.YtfnciigbbolckaaGreatQ23
set_option linter.unusedVariables false
set_option linter.unusedSimpArgs false
set_option maxRecDepth 100000
set_option maxHeartbeats 64000000
namespace Go.Proofs.YtfnciigbbolckaaGreat
open Go Go.RowKit Iv
attribute [local go_sem] Oper.semAt_some
attribute [local go_sem] pw gu B_app pv B_get B_toList
section
open Go.Sort Go.Shelf
theorem rholdc (a b:Hld) (w:World):Calls Tryz.prog 58 #[.agg #[.int .i64 a.nd,.int .i64 a.fr,.int .i64 a.tt,.int .i64 a.sz,.int .i64 a.tk],.agg #[.int .i64 b.nd,.int .i64 b.fr,.int .i64 b.tt,.int .i64 b.sz,.int .i64 b.tk]] w fun e w'=>e= .returned (.int .i64 (cmpH a b))∧GrowF w w':=by
 obtain⟨c0,hc0⟩:=cR (cmpI a.nd b.nd)
 obtain⟨c1,hc1⟩:=cR (cmpI a.fr b.fr)
 obtain⟨c2,hc2⟩:=cR (cmpI a.tt b.tt)
 obtain⟨c3,hc3⟩:=cR (cmpI a.tk b.tk)
 obtain⟨c4,hc4⟩:=cR (cmpI a.sz b.sz)
 obtain⟨r,hr⟩:=cR (orL [c0,c1,c2,c3,c4])
 rw[show cmpH a b=r from by unfold cmpH;rw[hc0,hc1,hc2,hc3,hc4,hr]];have HC0:=aa hc0;have HC1:=aa hc1;have HC2:=aa hc2;have HC3:=aa hc3;have HC4:=aa hc4;have HR:=aa hr;clear hr hc0 hc1 hc2 hc3 hc4;go_enter Tryz.func58,Tryz.ntmps58
 go_upto_region 1 with fail
 obtain⟨W,hW⟩:=cR ((w.alloc (.cells #[.int .i64 a.nd,.int .i64 a.fr,.int .i64 a.tt,.int .i64 a.sz,.int .i64 a.tk] 75)).alloc (.cells #[.int .i64 b.nd,.int .i64 b.fr,.int .i64 b.tt,.int .i64 b.sz,.int .i64 b.tk] 75))
 rw[hW];have hG:GrowF w W:=by rw[←hW];exact((GrowF.refl w).alloc _).alloc _
 have HGW:=aa hG;clear hG;have GA:W.heap[w.heap.size]? =some (.cells #[.int .i64 a.nd,.int .i64 a.fr,.int .i64 a.tt,.int .i64 a.sz,.int .i64 a.tk] 75 (0,0)):=by rw[←hW];exact(ak _ _ _ (by simp)).trans cW
 have GB:W.heap[w.heap.size+1]? =some (.cells #[.int .i64 b.nd,.int .i64 b.fr,.int .i64 b.tt,.int .i64 b.sz,.int .i64 b.tk] 75 (0,0)):=by rw[←hW];exact cY (by simp)
 have hB:Below w.heap.size w W:=by rw[←hW];exact cZ
 have zW:w.heap.size+1<W.heap.size:=by rw[←hW];simp
 clear hW;have ca:=fun o=>cU GA o
 have cb:=fun o=>cU GB o
 refine dd (fun V=>(∀o,V.cell? ⟨w.heap.size,o,none⟩=(#[.int .i64 a.nd,.int .i64 a.fr,.int .i64 a.tt,.int .i64 a.sz,.int .i64 a.tk])[o]?)∧(∀o,V.cell? ⟨w.heap.size+1,o,none⟩=(#[.int .i64 b.nd,.int .i64 b.fr,.int .i64 b.tt,.int .i64 b.sz,.int .i64 b.tk])[o]?)) [0,1,0,1,2,0,1,0,1,2,0,1,0,1,2,0,1,0,1,2,0,1,0,1,3,3,3,0] [0,1,2,3,5,6,7,8,10,11,12,13,15,16,17,18,20,21,22,23,4,9,14,19,24,25,26,27] (by kernel_rfl) (by kernel_rfl) ?_ ?_
 case refine_1=>exact⟨ca,cb⟩
 (iterate 20 (refine cX rfl (by decide) (by rfl) (fun w1 hS=>by(try(have hS:=hS rfl;obtain hS:=hS;repeat (obtain⟨_,hS⟩:=hS)));go_simp;rfl) ?_;simp only[Act.put,ae,af,ag]))
 (refine dA rfl rfl (by rfl) (fun K hK=>?_);go_simp)
 refine(dD a.nd b.nd _).mono ?_
 rw[HC0.out];rintro e w3 ⟨rfl,rfl⟩
 (refine hK _ _ (by exact⟨ca,cb⟩) ?_;clear hK K;(try simp only[Act.put,ae,af,ag]))
 (refine dA rfl rfl (by rfl) (fun K hK=>?_);go_simp)
 refine(dD a.fr b.fr _).mono ?_
 rw[HC1.out];rintro e w3 ⟨rfl,rfl⟩
 (refine hK _ _ (by exact⟨ca,cb⟩) ?_;clear hK K;(try simp only[Act.put,ae,af,ag]))
 (refine dA rfl rfl (by rfl) (fun K hK=>?_);go_simp)
 refine(dD a.tt b.tt _).mono ?_
 rw[HC2.out];rintro e w3 ⟨rfl,rfl⟩
 (refine hK _ _ (by exact⟨ca,cb⟩) ?_;clear hK K;(try simp only[Act.put,ae,af,ag]))
 (refine dA rfl rfl (by rfl) (fun K hK=>?_);go_simp)
 refine(dD a.tk b.tk _).mono ?_
 rw[HC3.out];rintro e w3 ⟨rfl,rfl⟩
 (refine hK _ _ (by exact⟨ca,cb⟩) ?_;clear hK K;(try simp only[Act.put,ae,af,ag]))
 (refine di rfl rfl (by rfl) (fun K hK=>?_);go_simp)
 refine(dD a.sz b.sz _).mono ?_
 rw[HC4.out];rintro e w3 ⟨rfl,rfl⟩
 (refine hK _ _ ?_;clear hK K;(try simp only[Act.put,ae,af,ag]))
 (refine di rfl rfl (by rfl) (fun K hK=>?_);go_simp)
 (refine hK _ _ ?_;clear hK K;(try simp only[Act.put,ae,af,ag]))
 (refine di rfl rfl (by rfl) (fun K hK=>?_);go_simp)
 refine(fS [c0,c1,c2,c3,c4] _ _ (RRow.ints (l:=[c0,c1,c2,c3,c4]) (t:=3) ?_ rfl ?_ (by simp))).mono ?_
 ·exact cW
 ·simp
 rw[HR.out];rintro e w8 ⟨rfl,rfl⟩
 (refine hK _ _ ?_;clear hK K;(try simp only[Act.put,ae,af,ag]))
 (iterate 1 (refine cX rfl (by decide) (by rfl) (fun w1 hS=>by(try(have hS:=hS rfl;obtain hS:=hS;repeat (obtain⟨_,hS⟩:=hS)));go_simp;rfl) ?_;simp only[Act.put,ae,af,ag]))
 refine du ?_
 go_wp2
 go_ret
 exact⟨rfl,by repeat (first | exact HGW.out | refine GrowF.alloc ?_ _ | refine GrowF.drew ?_)⟩
theorem hldC_get (x:Hld) (k:Nat) (hk:k<5):(hldC x)[k]? =some (hldC x)[k]! :=by
 rcases(by omega:k=0∨k=1∨k=2∨k=3∨k=4)with rfl | rfl | rfl | rfl | rfl<;>rfl
def SorthPost (M:List Hld) (u:Value) (B:Nat) (w:World) (e:Ending) (w':World):Prop:=e= .returned (.tuple #[])∧∃M':List Hld,M'.Perm M∧RRow hldC 5 w' w'.heap.size u M'∧Below B w w'∧∀q,q<w.heap.size→u.ownBlock≠some q→w'.heap[q]? =w.heap[q]?
theorem qh (M:List Hld) (u:Value) (base:Nat) (w:World) (ho:w.ownsRow base 75 5 u M.length (M.flatMap hldC)) (hl:M.length≤1000000000000) (hB:base≤w.heap.size):
  Calls Tryz.prog 57 #[u,.func (.func 58) #[] #[]] w (SorthPost M u base w):=by
 cases hM:M with
 | nil=>
  subst hM;obtain⟨a,c,rfl⟩:=dg ho;exact(Tryz.slices_SortFunc_none_f57 a c _ w).mono fun e w' ⟨h1,h2⟩=>⟨h1,[],List.Perm.refl _,by rw[h2];exact dF (by decide) dO ho,by rw[h2];exact ap _ _,fun q _ _=>by rw[h2]⟩
 | cons x r=>
  have hp:0<M.length:=by rw[hM];simp
  rw[←hM];clear hM;obtain⟨g,c,rfl⟩:=fd ho hp;have hgl:=(ho.lt g rfl).2;have hgb:=(ho.lt g rfl).1;have hcc:M.length≤c∧c≤maxLen:=by
   rcases ho.2 with⟨h0,_⟩ | ⟨g',cap,cur,h0,hb,hg,hn,hm,_⟩
   ·cases h0
   ·injection h0 with h0 h1 h2
    subst h2;exact⟨hn,hm⟩
  have hH:=(iL dO (by omega) (fun x v hv=>by simp[hldC]at hv;rcases hv with rfl | rfl | rfl | rfl | rfl<;>rfl) ho).hH;have hcon:=AnyQ.slices_SortFunc Tryz.laysF06_f57 5 Tryz.isAgg75 Tryz.sizeOf75 hldC dO (fun x v hv=>by simp[hldC]at hv;rcases hv with rfl | rfl | rfl | rfl | rfl<;>rfl) cmpH swoH 58 #[] g 0 c M.toArray w
   (enters_of Tryz.func58 (by kernel_rfl) rfl) (fun _ _ _ _ x y=>rholdc x y _) hH hgl (by simp;omega)
  refine Calls.mono hcon ?_
  rintro e w' ⟨rfl,d',n,os,hp1,hs1,rfl⟩;have hsz:d'.size=M.toArray.size:=hp1.1;have hszM:d'.size=M.length:=by simpa using hsz
  have h1:d'.toList.Perm M:=by
   have:=hp1.2.2;have e1:d'.extract 0 M.toArray.size=d':=by rw[←hp1.1];simp
   rw[e1]at this;simpa using this
  have hkeep:∀q,q<w.heap.size→q≠g→(grow (putRowK hldC 5 (Sort.ahead w n) g 0 d') os).heap[q]? =w.heap[q]?:=by
   intro q hq hne;refine(heap_grow_old _ _ (by rw[size_putRowK];exact hq)).trans ?_
   unfold putRowK putRow mapBlock;rw[Array.getElem?_modify,if_neg (Ne.symm hne)];rfl
  refine⟨rfl,d'.toList,h1,?_,?_,fun q hq hne=>hkeep q hq (fun e=>hne (by rw[e];rfl))⟩
  ·have hput:=holdsK_putRowK (enc:=hldC) (k:=5) (Sort.ahead w n) g 0 _ d' (holdsK_ahead _ _ _ n _ _ _ hH) hsz
   have hgl2:g<(putRowK hldC 5 (Sort.ahead w n) g 0 d').heap.size:=by rw[size_putRowK];exact hgl
   have hgrow:=holdsK_grow (enc:=hldC) (k:=5) _ os g 0 _ hgl2 hput;refine⟨some ⟨g,0,none⟩,c,by simp[hszM],by simpa [hszM]using hcc.1,hcc.2,(fun h=>by cases h),fun _=>⟨g,0,rfl,by show g<(grow _ os).heap.size;unfold grow;simp only[Array.size_append];omega,fun i x hx j v hv=>?_⟩⟩
   have hi:i<d'.size:=by simpa using(aw.1 hx).1
   have hj:j<5:=by have:=(aw.1 hv).1;rwa [dO]at this
   have h2:=(hgrow (i*5+j) (by rw[size_flatK];omega)).1;rw[get_flatK hldC 5 d' _ (by omega),show(i*5+j) / 5=i by omega,show(i*5+j) % 5=j by omega]at h2;have hx':d'[i]! =x:=by
    rw[getElem!_pos d' i hi];have:=(aw.1 hx).2;simpa using this
   rw[hx']at h2;rw[show 0+i*5+j=0+(i*5+j)by omega];refine h2.trans ?_
   have:=hldC_get x j hj;rw[hv]at this;rw[id];exact this.symm
  ·refine⟨rfl,rfl,rfl,?_,fun k hk=>?_⟩
   ·show w.heap.size≤(grow (putRowK hldC 5 (Sort.ahead w n) g 0 d') os).heap.size
    unfold grow;simp only[Array.size_append,size_putRowK];show w.heap.size≤w.heap.size+_
    omega
   ·exact hkeep k (by omega) (by omega)
end
section
open Go.Shelf
theorem kL {F:Fence} {nn:Nat} {α:Type} (enc:α→List Value) (k:Nat) (hk0:0<k) (hk:∀x,(enc x).length=k) {P:Program} {w:World} {o:Oper} {a:Act} {K:Act→World→Prop} {Q:Exit→Act→World→Prop} (s x:Operand) (t e:TypeId)
  (ho:o.op= .call {callee:=.builtin .append,args:=#[s,x],argTypes:=#[t,t]}) (hab:o.about P w a.eval=none) (i0:TypeInfo) (z:Value) (bytes:Nat) (ht0:P.underlying t=some (.slice e)) (hin:P.info? e=some i0) (hz0:i0.zero=some z) (hz1:i0.size=k) (hz2:i0.bytes=bytes) (hzs:z.cells.size=k)
  (base:Nat) (v:Value) (n:Nat) (xs:List Value) (hs:a.eval s=v) (hown:w.ownsRow base e k v n xs) (u:Value) (l:List α) (hx:a.eval x=u) (hr:RRow enc k w w.heap.size u l) (hone:∀v∈l.flatMap enc,v.oneCell'=true) (hn:n+l.length≤1000000) (hb:bytes≤1000) (hbase:base≤w.heap.size)
  (h:∀v' w',w'.ownsRow base e k v' (n+l.length) (xs++l.flatMap enc)→w.grownBy w' v.ownBlock→(v'.ownBlock=v.ownBlock∨v'.ownBlock=some w.heap.size)→K (a.put o.dst v') w'):Oper.wpIn F nn P o a w K Q:=by
 obtain⟨v',w',hr',h2,h3,h4⟩:=gZ (P:=P) enc k hk0 hk t o.type e i0 z bytes ht0 hin hz0 hz1 hz2 hzs base v n xs hown u l hr hone hn hb hbase;refine jw (fun c=>by rw[ho];exact fun e=>by cases e) hab ?_ (h v' w' h2 h3 h4)
 unfold execOp;simp only[ho,resolve,invoke,builtin,Sem.run_bind,Sem.run_pure,Result.andThen_ok,List.map_toArray,List.map_cons,List.map_nil,hs,hx,hr']
theorem kM (cs:List Con) (q:Rq) (no:Int) (x:Hp):∀(a:List Hp) (n f:Int),hopsR cs q no n f (a++[x])=hopsR cs q no n f a++[⟨nodeE cs n a,fromE f a,lvH cs q x,q.sz,no⟩]
 | [],_,_=>rfl
 | h::a,n,f=>by
  rw[a8];simp only[hopsR,nodeE,fromE];rw[kM cs q no x a];rfl
theorem fu (cs:List Con) (q:Rq) (no:Int):∀(a:List Hp) (n f:Int),(hopsR cs q no n f a).length=a.length
 | [],_,_=>rfl
 | h::a,n,f=>by simp only[hopsR,aI];rw[fu cs q no a]
def RhPost (L:List Hld) (w:World) (e:Ending) (w':World):Prop:=(∃r M,e= .returned r∧M.Perm L∧RRow hldC 5 w' w'.heap.size r M)∧Below w.heap.size w w'
def RhC (L:List Hld) (f:Int) (N oB fB:Nat) (W0:World) (vo:Value) (W:World):Prop:=HoV N oB vo L W∧Boxed W fB 3 (.int .i64 f)∧KpB N [oB,fB] W0 W
theorem RhC.st {L:List Hld} {f:Int} {N oB fB:Nat} {W0:World} {vo:Value} {A C:World} (h:RhC L f N oB fB W0 vo A) (hb:Below N A C) (k:∀(q:Nat) cs' e f,A.heap[q]? =some (Obj.cells cs' e f)→e≠125→C.heap[q]? =A.heap[q]?):RhC L f N oB fB W0 vo C:=by
 obtain⟨⟨h3,h4⟩,h5,h6⟩:=h;refine⟨⟨(k _ _ _ _ h3 (by decide)).trans h3,cV h4 (fun g hg=>?_)⟩,(k _ _ _ _ h5 (by decide)).trans h5,h6.trans ⟨hb.os,hb.tape,hb.output,hb.size,fun x hx _=>hb.block x hx⟩⟩
 rcases h4.2 with⟨e,_⟩ | ⟨g',cap,cur,e,_,hg',_⟩
 ·rw[e]at hg;cases hg
 ·rw[e]at hg
  injection hg with hg
  subst hg;exact k _ _ _ _ hg' (by decide)
theorem RhC.low {L:List Hld} {f:Int} {N oB fB:Nat} {W0:World} {vo:Value} {A C:World} (h:RhC L f N oB fB W0 vo A) (hb:Below A.heap.size A C) (hN:N≤A.heap.size):RhC L f N oB fB W0 vo C:=h.st (hb.mono hN) (fun q cs' e f hq _=>hb.block q (ai.1 hq).1)
def RhI (cs:List Con) (q:Rq) (no:Int) (hs:List Hp) (N oB fB:Nat) (W0:World) (pre:List Plc) (W:World):Prop:=∃(k:Nat) (vo:Value),k≤hs.length∧pre=plc cs q.src q.rd (hs.take k)∧RhC (hopsR cs q no q.src q.rd (hs.take k)) (fromE q.rd (hs.take k)) N oB fB W0 vo W
theorem RhI.st {cs:List Con} {q:Rq} {no:Int} {hs:List Hp} {N oB fB:Nat} {W0:World} {pre:List Plc} {A C:World} (h:RhI cs q no hs N oB fB W0 pre A) (hb:Below N A C) (k:∀(q:Nat) cs' e f,A.heap[q]? =some (Obj.cells cs' e f)→e≠125→C.heap[q]? =A.heap[q]?):RhI cs q no hs N oB fB W0 pre C:=by
 obtain⟨kk,vo,h1,h2,h3⟩:=h;exact⟨kk,vo,h1,h2,h3.st hb k⟩
theorem kO (qs:List Int) (cs:List Con) (q:Rq) (hs:List Hp) (no:Int) (uq uc u:Value) (w:World) (hq:RRow intC 1 w w.heap.size uq qs) (hc:RRow conC 7 w w.heap.size uc cs) (hr:RRow hpC 4 w w.heap.size u hs) (hp:PlanOK qs cs) (ho:ReqO qs.length q) (hw:WayOK cs q q.src q.rd hs) (hl:hs.length≤1000):
  Calls Tryz.prog 21 #[.agg #[uq,uc],.agg #[.int .i64 q.src,.int .i64 q.dst,.int .i64 q.sz,.int .i64 q.rd,.int .i64 q.D,.int .i64 q.pr,.bool q.cu],u,.int .i64 no] w (RhPost (hopsR cs q no q.src q.rd hs) w):=by
 have HQ:=aa hq;have HC:=aa hc;have HR:=aa hr;have HP:=aa hp;have HO:=aa ho;have HW:=aa hw;obtain⟨qa,qc,rfl,-⟩:=id hq;obtain⟨ua,ucp,rfl,e1,e2,-⟩:=id hr;unfold maxLen at e2;have hlen:hs.length≤9223372036854775807:=by omega
 clear hq hc hr hp ho hw;refine(callsIn_wide (n:=12)).1 ?_
 refine callsIn_of_wp_marks Tryz.func21 rfl trivial ?_ rfl
 simp only[Tryz.ntmps21,bJ,aI,bE,Nat.reduceAdd,Nat.reduceSub,bS,bT,cH,bW,br,a8];gi_wp2_with fail
 obtain⟨Z,hZ⟩:=cR w.heap.size
 obtain⟨w1,hw1⟩:=cR (((((w.alloc (.cells #[.slice qa qs.length qc,uc] 25)).alloc (.cells #[.int .i64 q.src,.int .i64 q.dst,.int .i64 q.sz,.int .i64 q.rd,.int .i64 q.D,.int .i64 q.pr,.bool q.cu] 38)).alloc (.cells #[.int .i64 no] 3)).alloc (.cells #[.slice none 0 0] 42)).alloc (.cells #[.int .i64 q.rd] 3))
 rw[hw1];have B1:Below Z w w1:=by rw[←hw1,←hZ];exact cZ
 have X0:w1.heap[Z]? =some (.cells #[.slice qa qs.length qc,uc] 25 (0,0)):=by rw[←hw1,←hZ];exact(by repeat (first | exact cY (by first | rfl | (simp;done)) | refine(ak _ _ _ (by first | (simp;done) | (simp;omega))).trans ?_))
 have X1:w1.heap[Z+1]? =some (.cells #[.int .i64 q.src,.int .i64 q.dst,.int .i64 q.sz,.int .i64 q.rd,.int .i64 q.D,.int .i64 q.pr,.bool q.cu] 38 (0,0)):=by rw[←hw1,←hZ];exact(by repeat (first | exact cY (by first | rfl | (simp;done)) | refine(ak _ _ _ (by first | (simp;done) | (simp;omega))).trans ?_))
 have X2:w1.heap[Z+1+1]? =some (.cells #[.int .i64 no] 3 (0,0)):=by rw[←hw1,←hZ];exact(by repeat (first | exact cY (by first | rfl | (simp;done)) | refine(ak _ _ _ (by first | (simp;done) | (simp;omega))).trans ?_))
 have X3:w1.heap[Z+1+1+1]? =some (.cells #[.slice none 0 0] 42 (0,0)):=by rw[←hw1,←hZ];exact(by repeat (first | exact cY (by first | rfl | (simp;done)) | refine(ak _ _ _ (by first | (simp;done) | (simp;omega))).trans ?_))
 have X4:w1.heap[Z+1+1+1+1]? =some (.cells #[.int .i64 q.rd] 3 (0,0)):=by rw[←hw1,←hZ];exact(by repeat (first | exact cY (by first | rfl | (simp;done)) | refine(ak _ _ _ (by first | (simp;done) | (simp;omega))).trans ?_))
 have HZ:=aa hZ;have HB1:=aa B1;have HX1:=aa (cS X0 (cS X1 (cS X2 (cS X3 X4))));have zs1:Z+1+1+1+1<w1.heap.size:=(ai.1 X4).1;rw[hZ]at HQ HC HR ⊢;clear hw1 B1 X0 X1 X2 X3 X4 hZ;refine⟨trivial,(lG Fence.wide _ trivial rfl _ _ _ _ _ _ _).mono ?_⟩
 rintro e w3 ⟨rfl,rfl⟩;gi_wp2
 obtain⟨z3,hz3⟩:=cR w1.heap.size
 obtain⟨W0,hW0⟩:=cR (((w1.alloc (.cells #[.slice qa qs.length qc,uc] 25)).alloc (.cells #[.int .i64 q.src,.int .i64 q.dst,.int .i64 q.sz,.int .i64 q.rd,.int .i64 q.D,.int .i64 q.pr,.bool q.cu] 38)).alloc (.cells #[.slice ua hs.length ucp] 39))
 rw[hW0];have B0:Below z3 w1 W0:=by rw[←hW0,←hz3];exact cZ
 have P0:W0.heap[z3]? =some (.cells #[.slice qa qs.length qc,uc] 25 (0,0)):=by rw[←hW0,←hz3];exact(by repeat (first | exact cY (by first | rfl | (simp;done)) | refine(ak _ _ _ (by first | (simp;done) | (simp;omega))).trans ?_))
 have P1:W0.heap[z3+1]? =some (.cells #[.int .i64 q.src,.int .i64 q.dst,.int .i64 q.sz,.int .i64 q.rd,.int .i64 q.D,.int .i64 q.pr,.bool q.cu] 38 (0,0)):=by rw[←hW0,←hz3];exact(by repeat (first | exact cY (by first | rfl | (simp;done)) | refine(ak _ _ _ (by first | (simp;done) | (simp;omega))).trans ?_))
 have P2:W0.heap[z3+1+1]? =some (.cells #[.slice ua hs.length ucp] 39 (0,0)):=by rw[←hW0,←hz3];exact(by repeat (first | exact cY (by first | rfl | (simp;done)) | refine(ak _ _ _ (by first | (simp;done) | (simp;omega))).trans ?_))
 have zs0:z3+1+1<W0.heap.size:=(ai.1 P2).1;have HB0:Hid (Below Z w W0):=aa (HB1.out.trans (B0.mono (by omega)));have HX0:=aa (cS ((B0.block Z (by omega)).trans HX1.out.1) (cS ((B0.block (Z+1) (by omega)).trans HX1.out.2.1) (cS ((B0.block (Z+1+1) (by omega)).trans HX1.out.2.2.1) (cS ((B0.block (Z+1+1+1) (by omega)).trans HX1.out.2.2.2.1) ((B0.block (Z+1+1+1+1) (by omega)).trans HX1.out.2.2.2.2)))));rw[hz3]at zs1 ⊢;obtain⟨i0,hin,hz0,hz1,hz2⟩:=info_parts iF;clear hW0 B0 hz3;refine hU rfl (by omega) (gf:=101) (lb:=#[.pointer (some ⟨z3+1,0,none⟩),.pointer (some ⟨z3+1+1,0,none⟩),.pointer (some ⟨z3,0,none⟩)]) rfl trivial (enters_of Tryz.func101 (by kernel_rfl) rfl)
  (jE qs cs q hs (.slice qa qs.length qc) uc (.slice ua hs.length ucp) Z W0.heap.size (z3+1) (z3+1+1) z3 W0 (by omega) (aj _) (by omega) (by omega) (by omega) P1 P2 P0 (HR.out.below HB0.out (aj _) (by omega)) (HC.out.below HB0.out (aj _) (by omega)) (o5 HW.out) ⟨_,_,_,rfl⟩)
  (ap _ _) (fun _=>rfl) (fun h k=>h.trans k) (fun{A B} h=>?kT) (fun h=>⟨h.1.size,fun q_ o _ ho hc=>h.2 q_ o ho (fun cs f e=>by subst e;cases hc)⟩)
  (RhI cs q no hs W0.heap.size (Z+1+1+1) (Z+1+1+1+1) W0) (fun _=>False) ?sI ?tI ?sX ?tX ?h0 ?round ?done ?stop
 case sI=>exact fun s A C h k=>h.st k.1 (fun q_ cs' e f hq hne=>(k.2 q_ _ hq (fun cs2 f2 e2=>by injection e2 with _ e2 _;exact hne e2)).trans hq.symm)
 case tI=>exact fun s A C h k=>h.st (eL (w:=W0) k (aj _)).2 (fun q_ cs' e f hq _=>(eL (w:=W0) k (aj _)).1 q_ cs' e f hq)
 case sX=>exact fun A C h _=>h.elim
 case tX=>exact fun A C h _=>h.elim
 case h0=>
  intro o1 o2;have hb2:Below W0.heap.size W0 ((W0.alloc o1).alloc o2):=jS _ _;have z34:Z+1+1+1+1<W0.heap.size:=by omega
  exact⟨0,.slice none 0 0,aE _,rfl,⟨(hb2.block _ (by omega)).trans HX0.out.2.2.2.1,aX _ _ _ _⟩,(hb2.block _ z34).trans HX0.out.2.2.2.2,KpB.of hb2 (aj _)⟩
 case stop=>exact fun D W _ h=>h.elim
 case kT=>
  obtain⟨t1,t2⟩:=eL (w:=W0) h (aj _);exact⟨t2.size,fun q_ hq=>t2.block q_ (by omega),fun q_ cs' e' f' hq _=>t1 q_ cs' e' f' hq⟩
 case round=>
  rintro l pre ⟨nd,tm,h⟩ Wa W hll ⟨r,hr⟩ hia hba hi ⟨k,h',hk,rfl,hx⟩;injection hx with hx1 hx2
  injection hx2 with hx2 hx3
  subst hx1 hx2 hx3;obtain⟨k2,vo,hk2,hpre,hrc⟩:=hi;have hkk:k2=k:=by
   have h5:=congrArg List.length hpre;rw[iN,iN,aS,aS]at h5;have h6:=(aw.1 hk).1;omega
  subst hkk;have HI:=aa hrc;have HK:=aa hk;clear hia hba hr hk hpre hrc;simp only[encP];gi_wp2
  obtain⟨WA,hWA⟩:=cR ((W.alloc (.cells #[.int .i64 (nodeE cs q.src (hs.take k2)),.int .i64 (timeE q.rd (hs.take k2))] 125)).alloc (.cells #[.int .i64 h.ct,.int .i64 h.bg,.int .i64 h.en,.int .i64 h.ar] 68))
  rw[hWA];have BA:Below W.heap.size W WA:=by rw[←hWA];exact jS _ _
  have A0:WA.heap[W.heap.size]? =some (.cells #[.int .i64 (nodeE cs q.src (hs.take k2)),.int .i64 (timeE q.rd (hs.take k2))] 125 (0,0)):=by rw[←hWA];exact(by repeat (first | exact cY (by first | rfl | (simp;done)) | refine(ak _ _ _ (by first | (simp;done) | (simp;omega))).trans ?_))
  have A1:WA.heap[W.heap.size+1]? =some (.cells #[.int .i64 h.ct,.int .i64 h.bg,.int .i64 h.en,.int .i64 h.ar] 68 (0,0)):=by rw[←hWA];exact(by repeat (first | exact cY (by first | rfl | (simp;done)) | refine(ak _ _ _ (by first | (simp;done) | (simp;omega))).trans ?_))
  have zW:=HI.out.2.2.size;clear hWA;refine⟨dZ BA,KpL.of BA (by omega) (by omega) (by omega) (by omega),fun Wb ht=>?_⟩
  obtain⟨t1,t2⟩:=eL (w:=W0) ht (aj _);have HIb:=aa ((HI.out.low BA zW).st t2 (fun q_ cs' e f hq _=>t1 q_ cs' e f hq));have A0':=(t1 _ _ _ _ A0).trans A0;have A1':=(t1 _ _ _ _ A1).trans A1;have KB:=HIb.out.2.2;have Y0:=(KB.block Z (by omega) (by simp;omega)).trans HX0.out.1;have Y1:=(KB.block (Z+1) (by omega) (by simp)).trans HX0.out.2.1;have Y2:=(KB.block (Z+1+1) (by omega) (by simp)).trans HX0.out.2.2.1;have HBW:Hid (Below Z w Wb):=aa (HB0.out.trans (KB.below (by omega) (fun x hx=>by simp at hx;omega)));have hlW:W.heap.size+1<Wb.heap.size:=(ai.1 A1').1;have zb:W0.heap.size≤Wb.heap.size:=KB.size;obtain⟨⟨bo,bow⟩,bf,-⟩:=HIb.out;obtain⟨nd,hnd⟩:=cR (nodeE cs q.src (hs.take k2))
  obtain⟨fr,hfr⟩:=cR (fromE q.rd (hs.take k2))
  obtain⟨lv,hlv⟩:=cR (lvH cs q h)
  rw[hnd]at A0' ⊢;rw[hfr]at bf;have HN:=aa (cS hnd (cS hfr hlv));have hS:∀V:World,(∀q_ o_,q_<Wb.heap.size→V.cell? ⟨q_,o_,none⟩=Wb.cell? ⟨q_,o_,none⟩)→V.cell? ⟨Z+1+1+1,0,none⟩=some vo∧V.cell? ⟨Z+1+1+1+1,0,none⟩=some (.int .i64 fr)∧(∀o_,V.cell? ⟨Z,o_,none⟩=(#[.slice qa qs.length qc,uc]:Array Value)[o_]?)∧(∀o_,V.cell? ⟨Z+1,o_,none⟩=(#[.int .i64 q.src,.int .i64 q.dst,.int .i64 q.sz,.int .i64 q.rd,.int .i64 q.D,.int .i64 q.pr,.bool q.cu]:Array Value)[o_]?)∧V.cell? ⟨Z+1+1,0,none⟩=some (.int .i64 no)∧(∀o_,V.cell? ⟨W.heap.size,o_,none⟩=(#[.int .i64 nd,.int .i64 (timeE q.rd (hs.take k2))]:Array Value)[o_]?)∧(∀o_,V.cell? ⟨W.heap.size+1,o_,none⟩=(#[.int .i64 h.ct,.int .i64 h.bg,.int .i64 h.en,.int .i64 h.ar]:Array Value)[o_]?):=fun V hV=>
   ⟨(hV _ _ (by omega)).trans bo.cell,(hV _ _ (by omega)).trans bf.cell,fun o_=>(hV _ _ (by omega)).trans (cU Y0 o_),fun o_=>(hV _ _ (by omega)).trans (cU Y1 o_),(hV _ _ (by omega)).trans (cU Y2 0),fun o_=>(hV _ _ (by omega)).trans (cU A0' o_),fun o_=>(hV _ _ (by omega)).trans (cU A1' o_)⟩
  have HSS:=aa hS;have HA1:=aa A1';have HCb:Hid (∀V,Below Wb.heap.size Wb V→RRow conC 7 V V.heap.size uc cs):=aa (fun V hV=>HC.out.below (HBW.out.trans (hV.mono (by omega))) (aj _) (by have:=hV.size;omega));have HHB:Hid (HpB cs h):=aa (by
   have h5:=l9 HW.out HK.out;have hf:=h5.facts HP.out HO.out;exact⟨⟨h5.c0,h5.c1⟩,by omega,by omega⟩)
  clear hS A0 A1 A0' A1' t1 t2 ht BA Y0 Y1 Y2 bo bow bf KB hnd hfr hlv P0 P1 P2;gi_wp2
  refine dN (fun V=>V.cell? ⟨Z+1+1+1,0,none⟩=some vo∧V.cell? ⟨Z+1+1+1+1,0,none⟩=some (.int .i64 fr)∧(∀o_,V.cell? ⟨Z,o_,none⟩=(#[.slice qa qs.length qc,uc]:Array Value)[o_]?)∧(∀o_,V.cell? ⟨Z+1,o_,none⟩=(#[.int .i64 q.src,.int .i64 q.dst,.int .i64 q.sz,.int .i64 q.rd,.int .i64 q.D,.int .i64 q.pr,.bool q.cu]:Array Value)[o_]?)∧V.cell? ⟨Z+1+1,0,none⟩=some (.int .i64 no)∧(∀o_,V.cell? ⟨W.heap.size,o_,none⟩=(#[.int .i64 nd,.int .i64 (timeE q.rd (hs.take k2))]:Array Value)[o_]?)∧(∀o_,V.cell? ⟨W.heap.size+1,o_,none⟩=(#[.int .i64 h.ct,.int .i64 h.bg,.int .i64 h.en,.int .i64 h.ar]:Array Value)[o_]?)) [1,0,1,1,1,1,1,2,0,1,1,0,2,3,3] [0,1,2,3,4,5,6,8,9,10,7,11,12,13,14] (by kernel_rfl) (by kernel_rfl) ?_ ?_
  ·exact HSS.out Wb.drew (fun _ _ _=>rfl)
  (iterate 10 (refine dP rfl (by decide) (by rfl) (fun w1=>by rfl) (fun w1 hS=>by(try(have hS:=hS rfl;obtain hS:=hS;repeat (obtain⟨_,hS⟩:=hS)));go_simp;rfl) ?_;simp only[Act.put,ae,af,ag]))
  (refine gm rfl rfl (by rfl) (fun K hK=>?_);go_simp)
  refine⟨trivial,CallsIn.inRound l (callsIn_wide.2 ((nV qs cs _ uc q h _ ⟨_,_,_,rfl⟩ (HCb.out _ (bdrew (ap _ _))) HP.out HHB.out).mono ?_))⟩
  rw[HN.out.2.2];rintro e w5 ⟨rfl,hb5⟩;have hb5':Below Wb.heap.size Wb w5:=dq (bdrew (ap _ _)) hb5
  (refine hK _ _ (by exact HSS.out _ (fun q_ o_ hq_=>hb5'.cell (p:=⟨q_,o_,none⟩) hq_)) ?_;clear hK K;(try simp only[Act.put,ae,af,ag]))
  (iterate 1 (refine dP rfl (by decide) (by rfl) (fun w1=>by rfl) (fun w1 hS=>by(try(have hS:=hS rfl;obtain hS:=hS;repeat (obtain⟨_,hS⟩:=hS)));go_simp;rfl) ?_;simp only[Act.put,ae,af,ag]))
  (refine gm rfl rfl (by rfl) (fun K hK=>?_);go_simp)
  have z5:Wb.heap.size≤w5.heap.size:=hb5'.size;have hb6:Below Wb.heap.size Wb (w5.alloc (.cells #[.int .i64 nd,.int .i64 fr,.int .i64 lv,.int .i64 q.sz,.int .i64 no] 75)):=de hb5'
  (refine hK _ _ (by exact HSS.out _ (fun q_ o_ hq_=>hb6.cell (p:=⟨q_,o_,none⟩) hq_)) ?_;clear hK K;(try simp only[Act.put,ae,af,ag]))
  obtain⟨w6,hw6⟩:=cR (w5.alloc (.cells #[.int .i64 nd,.int .i64 fr,.int .i64 lv,.int .i64 q.sz,.int .i64 no] 75))
  have X6:w6.heap[w5.heap.size]? =some (.cells #[.int .i64 nd,.int .i64 fr,.int .i64 lv,.int .i64 q.sz,.int .i64 no] 75 (0,0)):=by rw[←hw6];exact cW
  rw[hw6]at hb6 ⊢;have HB6:=aa hb6;have z6:w5.heap.size<w6.heap.size:=(ai.1 X6).1;have HRX:Hid (RRow hldC 5 w6 w6.heap.size (.slice (some ⟨w5.heap.size,0,none⟩) 1 1) [⟨nd,fr,lv,q.sz,no⟩]):=aa (by
   refine⟨_,_,rfl,aj _,by unfold maxLen;omega,(fun e=>by cases e),fun _=>⟨w5.heap.size,0,rfl,z6,fun i y hy j u hu=>?_⟩⟩
   obtain rfl:i=0:=by have:=(aw.1 hy).1;simp at this;omega
   obtain rfl:(⟨nd,fr,lv,q.sz,no⟩:Hld)=y:=by simpa using hy
   rw[cU X6];simpa [hldC]using hu)
  have HI6:=aa (HIb.out.low hb6 zb);have hLl:(hopsR cs q no q.src q.rd (hs.take k2)).length≤1000:=by rw[fu,aS];omega
  have hnb:W0.heap.size≤w6.heap.size:=by have:=hb6.size;omega
  clear hb5 hb5' hb6 hw6 X6;refine fi rfl rfl (by rfl) (fun K hK=>?_)
  refine kL hldC 5 (by decide) dO _ _ 42 75 rfl (by rfl) i0 _ 40 bV hin hz0 hz1 hz2 rfl W0.heap.size vo _ _ rfl HI6.out.1.2 _ [⟨nd,fr,lv,q.sz,no⟩] rfl HRX.out (eF gd _) (by simp only[List.length_singleton];omega) (by omega) hnb ?_
  intro v7 w7 ho7 hg7 hat7;obtain⟨v7a,v7c,rfl⟩:=dg ho7;have hne7:∀q_,q_<w6.heap.size→vo.ownBlock≠some q_→w7.heap[q_]? =w6.heap[q_]?:=fun q_ h1 h2=>dw hg7 h1 h2
  have hvo:∀b,vo.ownBlock=some b→W0.heap.size≤b∧b<w6.heap.size:=fun b hb=>HI6.out.1.2.lt b hb
  have zw7:w6.heap.size≤w7.heap.size:=hg7.size;have HA6:w6.heap[W.heap.size+1]? =some (.cells #[.int .i64 h.ct,.int .i64 h.bg,.int .i64 h.en,.int .i64 h.ar] 68 (0,0)):=(HB6.out.block _ hlW).trans HA1.out;have HA7:=aa ((hne7 (W.heap.size+1) (by omega) (fun e=>absurd (fE HI6.out.1.2 e HA6) (by decide))).trans HA6);have O7:Boxed w7 (Z+1+1+1) 42 vo:=(hne7 _ (by omega) (fun e=>by have:=(hvo _ e).1;omega)).trans HI6.out.1.1;have F7:Boxed w7 (Z+1+1+1+1) 3 (.int .i64 fr):=(hne7 _ (by omega) (fun e=>by have:=(hvo _ e).1;omega)).trans (by have:=HI6.out.2.1;rwa [HN.out.2.1]at this);have HOF7:=aa (cS O7 F7);have HO7:=aa ho7;have HN7:=aa hne7;have HG7:Hid (KpB W0.heap.size [Z+1+1+1,Z+1+1+1+1] W0 w7):=aa (HI6.out.2.2.trans ⟨hg7.os,hg7.tape,hg7.output,hg7.size,fun q_ hq _=>hne7 q_ (by omega) (fun e=>by have:=(hvo _ e).1;omega)⟩);have HV7:=aa ho7.lt;have co:=O7.cell;have fo:=O7.frozen;have cf:=F7.cell;have ff:=F7.frozen;have ch:=fun q_=>cU HA7.out q_
  have s3:Z+1+1+1<w7.heap.size:=O7.lt;have s4:Z+1+1+1+1<w7.heap.size:=F7.lt;have s5:W.heap.size+1<w7.heap.size:=by omega
  have n1:W.heap.size+1≠Z+1+1+1:=by omega
  have n2:Z+1+1+1+1≠Z+1+1+1:=by omega
  clear ho7 hne7 hg7 hat7 O7 F7 HA6;refine hK _ _ ?_
  clear hK K
  (try simp only[Act.put,ae,af,ag])
  (refine fi rfl rfl (by rfl) (fun K hK=>?_);go_simp)
  (refine hK _ _ ?_;clear hK K;(try simp only[Act.put,ae,af,ag]))
  refine ev ?_
  gi_wp2
  obtain⟨wF,hwF⟩:=cR ((w7.setCell ⟨Z+1+1+1,0,none⟩ (.slice v7a ((hopsR cs q no q.src q.rd (hs.take k2)).length+1) v7c)).setCell ⟨Z+1+1+1+1,0,none⟩ (.int .i64 h.bg))
  rw[hwF];have hneF:∀q_,q_≠Z+1+1+1→q_≠Z+1+1+1+1→wF.heap[q_]? =w7.heap[q_]?:=fun q_ h1 h2=>by rw[←hwF];exact(heap_setCell_other _ ⟨Z+1+1+1+1,0,none⟩ q_ _ h2).trans (heap_setCell_other w7 ⟨Z+1+1+1,0,none⟩ q_ _ h1)
  have hszF:wF.heap.size=w7.heap.size:=by rw[←hwF];simp
  have hOF:Boxed wF (Z+1+1+1) 42 (.slice v7a ((hopsR cs q no q.src q.rd (hs.take k2)).length+1) v7c):=by rw[←hwF];exact(HOF7.out.1.set _).other n2.symm _
  have hFF:Boxed wF (Z+1+1+1+1) 3 (.int .i64 h.bg):=by rw[←hwF];exact(HOF7.out.2.other n2 _).set _
  have hKF:KpB W0.heap.size [Z+1+1+1,Z+1+1+1+1] W0 wF:=by rw[←hwF];exact(HG7.out.trans (KpB.set w7 _ (by simp))).trans (KpB.set _ _ (by simp))
  have hall:∀q_,q_<Wb.heap.size→q_≠Z+1+1+1→q_≠Z+1+1+1+1→vo.ownBlock≠some q_→wF.heap[q_]? =Wb.heap[q_]?:=fun q_ h0 h1 h2 h3=>(hneF q_ h1 h2).trans ((HN7.out q_ (by omega) h3).trans (HB6.out.block q_ h0))
  have hTK:=el HK.out;have hobt:∀b,vo.ownBlock=some b→∃cur,Wb.heap[b]? =some (.cells cur 75 (0,0)):=fun b hb=>i6 HIb.out.1.2 hb
  refine⟨⟨by omega,fun q_ o_ _ hq_ hc_=>?_⟩,rfl,⟨by omega,fun q_ hq_=>?_,fun q_ cs_ e_ f_ hq_ he_=>?_⟩,⟨k2+1,.slice v7a ((hopsR cs q no q.src q.rd (hs.take k2)).length+1) v7c,?_,?_,⟨⟨hOF,?_⟩,?_,hKF⟩⟩⟩
  ·refine(hall q_ (ai.1 hq_).1 (fun e=>?_) (fun e=>?_) (fun e=>?_)).trans hq_
   ·subst e
    have h5:Wb.heap[Z+1+1+1]? =_:=HIb.out.1.1;rw[h5]at hq_;cases hq_;cases hc_
   ·subst e
    have h5:Wb.heap[Z+1+1+1+1]? =_:=HIb.out.2.1;rw[h5]at hq_;cases hq_;cases hc_
   ·obtain⟨cur,h5⟩:=hobt _ e
    rw[h5]at hq_;cases hq_;cases hc_
  ·exact hall q_ (by omega) (by omega) (by omega) (fun e=>by have:=(hvo _ e).1;omega)
  ·refine hall q_ (ai.1 hq_).1 (fun e=>?_) (fun e=>?_) (fun e=>?_)
   ·subst e
    have h5:Wb.heap[Z+1+1+1]? =_:=HIb.out.1.1;rw[h5]at hq_;cases hq_;rcases he_ with he_ | he_<;>exact absurd he_ (by decide)
   ·subst e
    have h5:Wb.heap[Z+1+1+1+1]? =_:=HIb.out.2.1;rw[h5]at hq_;cases hq_;rcases he_ with he_ | he_<;>exact absurd he_ (by decide)
   ·obtain⟨cur,h5⟩:=hobt _ e
    rw[h5]at hq_;cases hq_;rcases he_ with he_ | he_<;>exact absurd he_ (by decide)
  ·have:=(aw.1 HK.out).1
   omega
  ·rw[hTK,ku,HN.out.1]
  ·rw[hTK,kM,HN.out.1,HN.out.2.1,HN.out.2.2,ay,aV]
   exact cV HO7.out (fun b hb=>by
    have h5:=(HV7.out b hb).1;exact hneF b (by omega) (by omega))
  ·rw[hTK,jc]
   exact hFF
 case done=>
  rintro D xs W hD rfl ⟨k,vo,hk,hpre,hrc⟩ hK';obtain rfl:k=hs.length:=by
   have h5:=congrArg List.length hpre;rw[iN,iN,aS]at h5;omega
  rw[aL]at hrc;obtain⟨L,hL⟩:=cR (hopsR cs q no q.src q.rd hs)
  have hLl:L.length≤1000:=by rw[←hL,fu];omega
  have HLL:=aa hL;rw[hL]at hrc;obtain⟨⟨bo,ow⟩,-,kp⟩:=hrc;have zW:=kp.size;have HBW:Hid (Below Z w W):=aa (HB0.out.trans (kp.below (by omega) (fun x hx=>by simp at hx;omega)));have HOW:=aa ow;have HBO:=aa bo;have HKD:=aa hK';have co:=bo.cell;have zo:=bo.lt;obtain⟨va,vc,rfl⟩:=dg ow;clear hpre bo ow kp hK' hL P0 P1 P2;gi_wp2_with fail
  refine⟨trivial,callsIn_wide.2 ((qh L _ W0.heap.size W HOW.out (by omega) zW).mono ?_)⟩
  unfold SorthPost;rintro e w8 ⟨rfl,M,hM1,hM2,hM3,hM4⟩;have z8:=hM3.size;have hvb:∀b,(Value.slice va L.length vc).ownBlock=some b→W0.heap.size≤b:=fun b hb=>(HOW.out.lt b hb).1
  have B8:Boxed w8 (Z+1+1+1) 42 (.slice va L.length vc):=(hM4 _ zo (fun e=>by have:=hvb _ e;omega)).trans HBO.out;have D8:w8.heap[D]? =some (.deferred (some [])):=(hM4 D (ai.1 HKD.out).1 (fun e=>by
   obtain⟨cur,h5⟩:=i6 HOW.out e;rw[HKD.out]at h5;cases h5)).trans HKD.out
  have co:=B8.cell;have zo8:=B8.lt;have HM:=aa (cS hM1 (cS hM2 (cS hM3 D8)));clear hM1 hM2 hM3 hM4 B8 D8 zo;gi_wp2
  refine⟨by simp,.inl ⟨_,_,rfl,run_takeDeferred HM.out.2.2.2,?_⟩⟩
  refine⟨_,results_tmp rfl _ _ _,?_⟩
  have hcl:∀b o,(w8.putObj D (.deferred none)).cell? ⟨b,o,none⟩=w8.cell? ⟨b,o,none⟩:=fun b o=>by
   by_cases e:b=D
   ·subst e
    have h1:w8.cell? ⟨b,o,none⟩=none:=by simp[World.cell?,HM.out.2.2.2]
    have h2:(w8.putObj b (.deferred none)).cell? ⟨b,o,none⟩=none:=by simp[World.cell?,World.putObj_heap_same (ai.1 HM.out.2.2.2).1]
    rw[h1,h2]
   ·exact aU (World.putObj_heap_other e)
  unfold RhPost;refine⟨⟨_,M,rfl,by rw[HLL.out];exact HM.out.1,HM.out.2.1.keep (fun b o _=>hcl b o) (by simp)⟩,?_⟩
  rw[HZ.out];exact(HBW.out.trans (HM.out.2.2.1.mono (by omega))).grown (grownBy_putObj' _ D (.deferred none)) (by omega) (fun q hq=>by injection hq with hq;omega)
end
section
theorem jr {α:Type} (enc:α→List Value) (k:Nat) (hk:∀x,(enc x).length=k):∀(l:List α) (i:Nat),(l.take i).flatMap enc=(l.flatMap enc).take (i*k)
 | [],i=>by simp
 | x::r,0=>by simp
 | x::r,i+1=>by
  have e:(enc x).take ((i+1)*k)=enc x:=bM (by rw[hk x,Nat.succ_mul];omega);rw[List.take_succ_cons,cG,cG,jr enc k hk r i,List.take_append,hk x,e,Nat.succ_mul,bZ]
theorem js {α:Type} (enc:α→List Value) (k:Nat) (hk:∀x,(enc x).length=k):∀(l:List α) (i:Nat),(l.drop i).flatMap enc=(l.flatMap enc).drop (i*k)
 | [],i=>by simp
 | x::r,0=>by simp
 | x::r,i+1=>by
  have e:(enc x).drop ((i+1)*k)=[]:=List.drop_eq_nil_of_le (by rw[hk x,Nat.succ_mul];omega);rw[List.drop_succ_cons,cG,js enc k hk r i,List.drop_append,hk x,e,br,Nat.succ_mul,bZ]
theorem eb {α:Type} (L:List α) (o:Nat) (cs:List α) (h:o+cs.length≤L.length):(splice L o cs).length=L.length:=length_splice L o cs h
theorem jF {α:Type} (L:List α) (a:Nat) (Y X:List α) (h:a+Y.length+X.length≤L.length):(splice (splice L a Y) (a+Y.length) X).take (a+Y.length+X.length)=L.take a++(Y++X):=by
 have h1:(splice L a Y).take (a+Y.length)=L.take a++Y:=by
  unfold splice;rw[←aY,cI (by simp;omega),bM (by simp;omega)]
 unfold splice at h1 ⊢;rw[h1,←aY,cI (by simp;omega),bM (by simp;omega),aY]
theorem iW {α:Type} (L:List α) (a:Nat) (Y X:List α) (h:a+Y.length+X.length≤L.length):(splice (splice L (a+Y.length) X) a Y).take (a+Y.length+X.length)=L.take a++(Y++X):=by
 have e:(splice L (a+Y.length) X).take a=L.take a:=by
  unfold splice;rw[cI (by simp;omega),List.take_take];congr 1;omega
 have e2:(splice L (a+Y.length) X).drop (a+Y.length)=X++L.drop (a+Y.length+X.length):=by
  unfold splice;rw[List.drop_append,List.drop_eq_nil_of_le (by simp;omega),br];have:(List.take (a+Y.length) L).length=a+Y.length:=by simp;omega
  rw[this,Nat.sub_self,List.drop_zero]
 show(List.take a (splice L (a+Y.length) X)++(Y++List.drop (a+Y.length) (splice L (a+Y.length) X))).take _=_
 rw[e,e2,←aY,←aY,cI (by simp;omega),bM (by simp;omega),aY]
theorem lg {P:Program} (w:World) (dT sT ty elem:TypeId) (k g o dLen dCap:Nat) (ad:Addr) (sLen sCap:Nat) (cur:List Value) (t:TypeId) (cs:List Value) (hu:P.underlying dT=some (.slice elem)) (hs:(P.info? elem).map (·.size)=some k)
  (hg:w.heap[g]? =some (.cells cur.toArray t (0,0))) (hn:cs.length=Nat.min sLen dLen*k) (hsrc:∀j v,cs[j]? =some v→w.cell? (ad.add j)=some v) (hfit:o+cs.length≤cur.length) (h1:∀v∈cs,v.oneCell'=true):
  (Builtin.copy_ #[dT,sT] ty #[.slice (some ⟨g,o,none⟩) dLen dCap,.slice (some ad) sLen sCap]).run P w= .ok (goInt (Nat.min sLen dLen)) (w.setRow g (splice cur o cs).toArray):=by
 have hl:=run_loadCells_list (P:=P) w ad cs hsrc;have hst:=run_storeCells_at P g o t cs 0 cur.toArray w hg (by simpa using hfit) h1;rw[Nat.add_zero]at hst
 cases hq:P.info? elem with
 | none=>simp[hq]at hs
 | some i=>
  have hi:i.size=k:=by simpa [hq]using hs
  have hn':Nat.min sLen dLen*k=cs.length:=hn.symm;have hst':(storeCells ⟨g,o,none⟩ cs 0).run P w= .ok () (w.setRow g (splice cur o cs).toArray):=by rw[hst];simp[splice]
  simp[Builtin.copy_,run_underlying hu,Builtin.lenOf,Builtin.firstCells,sizeOf,typeInfo,hq,hi,hl,hst',hn']
theorem fh {P:Program} {w:World} {o:Oper} {a:Act} {K:Act→World→Prop} {Q:Exit→Act→World→Prop} (d s:Operand) (dT sT:TypeId) (ho:o.op= .call {callee:=.builtin .copy,args:=#[d,s],argTypes:=#[dT,sT]})
  (elem:TypeId) (k g off dLen dCap:Nat) (ad:Addr) (sLen sCap:Nat) (cur:List Value) (t:TypeId) (cs:List Value) (hu:P.underlying dT=some (.slice elem)) (hsz:(P.info? elem).map (·.size)=some k) (hd:a.eval d= .slice (some ⟨g,off,none⟩) dLen dCap) (hs:a.eval s= .slice (some ad) sLen sCap)
  (hg:w.heap[g]? =some (.cells cur.toArray t (0,0))) (hn:cs.length=Nat.min sLen dLen*k) (hsrc:∀j v,cs[j]? =some v→w.cell? (ad.add j)=some v) (hfit:off+cs.length≤cur.length) (h1:∀v∈cs,v.oneCell'=true)
  (h:∀w',Hid (w'.heap[g]? =some (.cells (splice cur off cs).toArray t (0,0)))→(∀B,B≤g→Below B w w')→(∀q,q≠g→w'.heap[q]? =w.heap[q]?)→w'.heap.size=w.heap.size→K (a.put o.dst (goInt (Nat.min sLen dLen))) w'):o.wp P a w K Q:=by
 have hrun:=lg (P:=P) w dT sT o.type elem k g off dLen dCap ad sLen sCap cur t cs hu hsz hg hn hsrc hfit h1;unfold Oper.wp;simp[execOp,ho,resolve,invoke,builtin,hd,hs,hrun,Result.andThen]
 exact h _ (aa (setRow_heap w g _ _ t _ hg)) (fun B hB=>below_setRow (ap _ _) hB _) (fun q hq=>setRow_other w g q _ hq) (setRow_size w g _)
theorem eM {P:Program} {w:World} {ops:Array Oper} {rest:List Oper} {o:Oper} {a:Act} {Q:Exit→Act→World→Prop} (hgd:o.guard=none) (d s:Operand) (dT sT:TypeId) (ho:o.op= .call {callee:=.builtin .copy,args:=#[d,s],argTypes:=#[dT,sT]})
  (elem:TypeId) (k g off dLen dCap:Nat) (ad:Addr) (sLen sCap:Nat) (cur:List Value) (t:TypeId) (cs:List Value) (hu:P.underlying dT=some (.slice elem)) (hsz:(P.info? elem).map (·.size)=some k) (hd:a.eval d= .slice (some ⟨g,off,none⟩) dLen dCap) (hs:a.eval s= .slice (some ad) sLen sCap)
  (hg:w.heap[g]? =some (.cells cur.toArray t (0,0))) (hn:cs.length=Nat.min sLen dLen*k) (hsrc:∀j v,cs[j]? =some v→w.cell? (ad.add j)=some v) (hfit:off+cs.length≤cur.length) (h1:∀v∈cs,v.oneCell'=true)
  (h:∀w',Hid (w'.heap[g]? =some (.cells (splice cur off cs).toArray t (0,0)))→(∀B,B≤g→Below B w w')→(∀q,q≠g→w'.heap[q]? =w.heap[q]?)→w'.heap.size=w.heap.size→wpList P ops Q rest (a.put o.dst (goInt (Nat.min sLen dLen))) w'):wpList P ops Q (o::rest) a w:=
 wpList_plain hgd fun K hK=>fh d s dT sT ho elem k g off dLen dCap ad sLen sCap cur t cs hu hsz hd hs hg hn hsrc hfit h1 fun w' h1 h2 h3 h4=>hK _ _ (h w' h1 h2 h3 h4)
end
end Go.Proofs.YtfnciigbbolckaaGreat
