/- Part 11 of the proof about mailboattop.TopOthers. No condition. -/
import Derived.Test.YtfnciigbbolckaaGreatQ00
import Derived.Test.YtfnciigbbolckaaGreatQ10
set_option linter.unusedVariables false
set_option linter.unusedSimpArgs false
set_option maxRecDepth 100000
set_option maxHeartbeats 64000000
namespace Go.Proofs.YtfnciigbbolckaaGreat
open Go Go.RowKit Iv
attribute [local go_sem] Oper.semAt_some
attribute [local go_sem] pw gu B_app pv B_get B_toList
section
theorem ia {P:Program} {ops:Array Oper} {rest:List Oper} {o:Oper} {a:Act} {Q:Exit→Act→World→Prop} (w:World) (hgd:o.guard=none) (s x:Operand) (t:TypeId)
  (ho:o.op= .call {callee:=.builtin .append,args:=#[s,x],argTypes:=#[t,t]}) (v:Value) (hs:a.eval s=v) (hx:a.eval x= .slice none 0 0)
  (hr:(Builtin.append_ #[t,t] t #[v,.slice none 0 0]).run P w= .ok v w) (h:wpList P ops Q rest (a.put o.dst v) w) (ht:o.type=t:=by rfl):wpList P ops Q (o::rest) a w:=by
 refine wpList_plain hgd fun K hK=>?_
 unfold Oper.wp execOp;simp only[ho,resolve,invoke,builtin,Sem.run_bind,Sem.run_pure,Result.andThen_ok,List.map_toArray,List.map_cons,List.map_nil,hs,hx,ht,hr];exact hK _ _ h
theorem ew {α:Type} (enc:α→List Value) (k:Nat) (hk0:0<k) (hk:∀x,(enc x).length=k) {P:Program} {ops:Array Oper} {rest:List Oper} {o:Oper} {ac:Act} {Q:Exit→Act→World→Prop} {w:World} (hgd:o.guard=none) (s x:Operand) (t e:TypeId)
  (ho:o.op= .call {callee:=.builtin .append,args:=#[s,x],argTypes:=#[t,t]}) (i0:TypeInfo) (z:Value) (bytes:Nat) (ht0:P.underlying t=some (.slice e)) (hin:P.info? e=some i0) (hz0:i0.zero=some z) (hz1:i0.size=k) (hz2:i0.bytes=bytes) (hzs:z.cells.size=k)
  (base:Nat) (v:Value) (n:Nat) (xs:List Value) (hs:ac.eval s=v) (hown:w.ownsRow base e k v n xs) (u:Value) (l:List α) (hx:ac.eval x=u) (hr:RRow enc k w w.heap.size u l) (hone:∀v∈l.flatMap enc,v.oneCell'=true) (hn:n+l.length≤1000000) (hb:bytes≤1000) (hbase:base≤w.heap.size) (ht:o.type=t)
  (h:∀v' w',w'.ownsRow base e k v' (n+l.length) (xs++l.flatMap enc)→w.grownBy w' v.ownBlock→(v'.ownBlock=v.ownBlock∨v'.ownBlock=some w.heap.size)→wpList P ops Q rest (ac.put o.dst v') w'):wpList P ops Q (o::rest) ac w:=by
 obtain⟨a,c,rfl,h1,h2,h3,h4⟩:=hr
 cases a with
 | none=>
  have hc:=h3 rfl;subst hc;have hz:l=[]:=aF (by omega);subst hz;refine ia _ hgd s x _ ho v hs hx (run_append_owned_none (P:=P) (w:=w) base t t e i0 k ht0 hin v _ _ hown) ?_ ht
  exact h v w (by simpa using hown) ⟨rfl,rfl,rfl,aj _,fun _ _ _=>rfl⟩ (.inl rfl)
 | some ad=>
  have hnw:∀j u,(l.flatMap enc)[j]? =some u→w.cell? (ad.add j)=some u:=by
   intro j u hu;have hp:0<l.length:=by
    rcases bC l.length with e | e
    ·rw[aF e]at hu;simp at hu
    ·exact e
   obtain⟨bb,o,e,hbn,hc⟩:=h4 hp;injection e with e
   subst e;exact fL hk0 hk hc j u hu
  refine wpList_append_own_at (P:=P) w hgd s x t ho base e i0 z k bytes ht0 hin hz0 hz1 hz2 hzs hk0 v n xs hs hown ad l.length c (l.flatMap enc) hx (ef enc k hk l) hnw hone (by unfold maxLen;omega) ?_ hbase ?_
  ·have:(n+l.length)*bytes≤1000000*1000:=Nat.mul_le_mul hn hb
   omega
  ·intro v' w' hO hg _ hat
   exact h v' w' hO hg hat
theorem iH (w:World) (n:Nat) (h0:0<n) (hn:n≤100000):
  ∃cap,n≤cap∧cap≤maxLen∧(Builtin.append_ #[39,3] 39 #[.slice none 0 0,.int .i64 n]).run Tryz.prog w= .ok (.slice (some ⟨w.heap.size,0,none⟩) n cap) (w.drew.alloc (.cells (Builtin.zeroCells #[.int .i64 0,.int .i64 0,.int .i64 0,.int .i64 0] n++Builtin.zeroCells #[.int .i64 0,.int .i64 0,.int .i64 0,.int .i64 0] (cap-n)) 68)):=by
 obtain⟨i0,hin,hz0,hz1,hz2⟩:=info_parts jQ;have hnm:n≤maxLen:=by unfold maxLen;omega
 refine⟨grownCap w n 0 68,grownCap_ge _ _ _ _,grownCap_le_maxLen _ _ _ _ hnm,?_⟩
 have hw:IntKind.i64.wrap (n:Int)=(n:Int):=by rw[ax];omega
 have hn0:n≠0:=by omega
 have h63':¬(9223372036854775807<(n:Int)):=by omega
 have h48':¬(281474976710656<Builtin.nextslicecap n 0*32):=by rw[nextslicecap_zero h0];omega
 have h48'':¬(281474976710656<(n:Int)*32):=by omega
 have hle:¬((n:Int)≤0):=by omega
 have hmx:max (n:Int) 0=(n:Int):=by omega
 have hi0:i0.size=4:=by first | exact hz1 | omega
 have hneg:¬((n:Int)<0):=by omega
 simp[Builtin.append_,run_underlying Tryz.underlying39,run_underlying bp,sizeOf,typeInfo,zeroValue,hin,hz1,hz2,hz0,hw,hn0,h63',h48',h48'',hneg,hle,hmx,hi0,asInt,asIntOf,Question.forced,run_firstCells_none,newRow,grownCap]
 first | rfl | (rw[if_neg (by omega)];rfl)
theorem gE {ops:Array Oper} {rest:List Oper} {o:Oper} {a:Act} {Q:Exit→Act→World→Prop} (w:World) (hgd:o.guard=none) (s x:Operand)
  (ho:o.op= .call {callee:=.builtin .append,args:=#[s,x],argTypes:=#[39,3]}) (hs:a.eval s= .slice none 0 0) (n:Nat) (hx:a.eval x= .int .i64 n) (h0:0<n) (hn:n≤100000) (ht:o.type=39)
  (h:∀cap w',n≤cap→w'.ownsRow w.heap.size 68 4 (.slice (some ⟨w.heap.size,0,none⟩) 0 cap) 0 []→Below w.heap.size w w'→wpList Tryz.prog ops Q rest (a.put o.dst (.slice (some ⟨w.heap.size,0,none⟩) n cap)) w'):wpList Tryz.prog ops Q (o::rest) a w:=by
 obtain⟨cap,h1,h2,hr⟩:=iH w n h0 hn;refine wpList_plain hgd fun K hK=>?_
 unfold Oper.wp execOp;simp only[ho,resolve,invoke,builtin,Sem.run_bind,Sem.run_pure,Result.andThen_ok,List.map_toArray,List.map_cons,List.map_nil,hs,hx,ht,hr];refine hK _ _ (h cap _ h1 ⟨by simp,.inr ⟨w.heap.size,cap,_,rfl,aj _,heap_alloc_new w.drew _,aE _,h2,?_,by simp⟩⟩ ((bdrew (ap _ _)).alloc (by simp) _))
 rw[Array.size_append,size_zeroCells,size_zeroCells];simp
 omega
def GrowPost (w:World) (e:Ending) (w':World):Prop:=∃v,e= .returned v∧w'.ownsRow w.heap.size 68 4 v 0 []∧Below w.heap.size w w'
theorem pN (n:Nat) (w:World) (hn:n≤100000):Calls Tryz.prog 211 #[.slice none 0 0,.int .i64 n] w (GrowPost w):=by
 by_cases h0:n=0
 ·subst h0
  go_enter Tryz.func211,Tryz.ntmps211
  go_wp2
  go_ret
  unfold GrowPost;exact⟨_,rfl,aX _ _ _ _,ap _ _⟩
 have n0:¬((n:Int)<0):=by omega
 have n1:(0:Int)<(n:Int):=by omega
 go_enter Tryz.func211,Tryz.ntmps211
 go_wp2_with (at_builtin;refine gE _ rfl _ _ rfl rfl n rfl (by omega) hn rfl ?_;intro cap w1 hcap hown hB1)
 have hc0:(0:Int)≤(cap:Int):=by omega
 go_wp2
 go_ret
 unfold GrowPost;exact⟨_,rfl,hown,hB1⟩
def ConcPost (l:List Hp) (w:World) (e:Ending) (w':World):Prop:=∃v,e= .returned v∧w'.ownsRow w.heap.size 68 4 v l.length (l.flatMap hpC)∧Below w.heap.size w w'
theorem mO (l m:List Hp) (u v:Value) (g:Nat) (t:TypeId) (w:World) (hg:w.heap[g]? =some (.cells #[u,v] t (0,0))) (h:RHops w u l) (k:RHops w v m) (hl:l.length≤10000) (hm:m.length≤10000):
  Calls Tryz.prog 201 #[.slice (some ⟨g,0,none⟩) 2 2] w (ConcPost (l++m) w):=by
 have hgl:g<w.heap.size:=(ai.1 hg).1;have HG:=aa hg;have HR:=aa h;have KR:=aa k;obtain⟨ua,uc,rfl,_⟩:=id h;obtain⟨va,vc,rfl,_⟩:=id k;obtain⟨i0,hin,hz0,hz1,hz2⟩:=info_parts jQ;clear h k hg;have e1:IntKind.i64.wrap ((l.length:Int)+(m.length:Int))=((l.length+m.length:Nat):Int):=by rw[ax];omega
 go_enter Tryz.func201,Tryz.ntmps201
 go_wp2
 go_loopw [11,3] (fun i s wr=>∃k:Nat,k≤2∧i= .int .i64 k∧s= .int .i64 ((if k=0 then 0 else if k=1 then l.length else l.length+m.length:Nat):Int)∧wr=w) (fun i _ _=>2-(intOf i).toNat)
 case atStart=>exact⟨0,by omega,rfl,rfl,rfl⟩
 case round=>
  obtain⟨k,hk,rfl,rfl,hw⟩:=hrel;replace hw:=hw.symm
  subst hw;have cl:=fun o=>cU HG.out o
  rcases(show k=0∨k=1∨k=2 by omega)with e | e | e
  ·subst e
   rw[if_pos rfl];go_wp2
   go_roundw
   case rel=>exact⟨1,by omega,by go_num,by rw[if_neg (by decide),if_pos rfl]<;>go_num,trivial⟩
   case measure=>simp[intOf]
  ·subst e
   rw[if_neg (by decide),if_pos rfl];go_wp2
   go_roundw
   case rel=>exact⟨2,by omega,by go_num,by rw[if_neg (by decide),if_neg (by decide)];first | go_num | (rw[e1]),trivial⟩
   case measure=>simp[intOf]
  ·subst e
   rw[if_neg (by decide),if_neg (by decide)];go_wp2_with fail
   refine(pN (l.length+m.length) _ (by omega)).mono ?_
   unfold GrowPost;rintro e w1 ⟨vo,rfl,hown,hB1⟩;have HG1:=aa ((hB1.block _ hgl).trans HG.out);clear cl;go_wp2_with fail
   go_loopw [27,6] (fun i s wr=>∃(k:Nat) (xs:List Hp),k≤2∧i= .int .i64 k∧Hid (xs=if k=0 then[]else if k=1 then l else l++m)∧wr.ownsRow w.heap.size 68 4 s xs.length (xs.flatMap hpC)∧Below w.heap.size w wr) (fun i _ _=>2-(intOf i).toNat)
   case atStart=>exact⟨0,[],by omega,rfl,aa (by rw[if_pos rfl]),hown,hB1⟩
   case round=>
    obtain⟨k,xs,hk,rfl,HX,hO,hBr⟩:=hrel;have HGr:=aa ((hBr.block _ hgl).trans HG.out);have cl:=fun o=>cU HGr.out o
    have yr:=hBr.size;have zg:g<wr.heap.size:=by omega
    rcases(show k=0∨k=1∨k=2 by omega)with e | e | e
    ·subst e
     have hx:=HX.out;rw[if_pos rfl]at hx;subst hx;go_wp2_with (at_builtin;refine ew hpC 4 (by decide) fH rfl _ _ 39 68 rfl i0 _ 32 Tryz.underlying39 hin hz0 hz1 hz2 rfl w.heap.size _ _ [] rfl hO _ l rfl (HR.out.below' hBr) (eF lY l) (by simp;omega) (by omega) (by omega) rfl ?_;intro v3 w3 hO3 hg3 hat3;have hB3:Below w.heap.size w w3:=hBr.grown hg3 (by omega) (fun q hq=>(hO.lt q hq).1);clear hg3 hat3)
     go_roundw
     case rel=>exact⟨1,l,by omega,by go_num,aa (by rw[if_neg (by decide),if_pos rfl]),by simpa using hO3,hB3⟩
     case measure=>simp[intOf]
    ·subst e
     have hx:=HX.out;rw[if_neg (by decide),if_pos rfl]at hx;subst hx;go_wp2_with (at_builtin;refine ew hpC 4 (by decide) fH rfl _ _ 39 68 rfl i0 _ 32 Tryz.underlying39 hin hz0 hz1 hz2 rfl w.heap.size _ _ _ rfl hO _ m rfl (KR.out.below' hBr) (eF lY m) (by omega) (by omega) (by omega) rfl ?_;intro v3 w3 hO3 hg3 hat3;have hB3:Below w.heap.size w w3:=hBr.grown hg3 (by omega) (fun q hq=>(hO.lt q hq).1);clear hg3 hat3)
     go_roundw
     case rel=>exact⟨2,xs++m,by omega,by go_num,aa (by rw[if_neg (by decide),if_neg (by decide)]),by rw[ay,aV];exact hO3,hB3⟩
     case measure=>simp[intOf]
    ·subst e
     have hx:=HX.out;rw[if_neg (by decide),if_neg (by decide)]at hx;subst hx;go_wp2
     go_ret
     unfold ConcPost;exact⟨_,rfl,hO,hBr⟩
end
section
def TkRet (t:Tk) (w:World) (e:Ending) (w':World):Prop:=(∃u,e= .returned (.agg #[.int .i64 t.no,.int .i64 t.q.src,.int .i64 t.q.dst,.int .i64 t.q.sz,.int .i64 t.q.rd,.int .i64 t.q.D,.int .i64 t.q.pr,.bool t.q.cu,u,.int .i64 t.st,.int .i64 t.un])∧RHops w' u t.hs∧∀b,u.ownBlock=some b→w.heap.size≤b)∧Below w.heap.size w w'
theorem jB (t:Tk) (u:Value) (now until_:Int) (w:World) (hr:RHops w u t.hs) (hl:t.hs.length≤100000):
  Calls Tryz.prog 166 #[.agg #[.int .i64 t.no,.int .i64 t.q.src,.int .i64 t.q.dst,.int .i64 t.q.sz,.int .i64 t.q.rd,.int .i64 t.q.D,.int .i64 t.q.pr,.bool t.q.cu,u,.int .i64 t.st,.int .i64 t.un],.int .i64 now,.int .i64 until_] w (TkRet (stopT t now until_) w):=by
 obtain⟨no,q,l,st,un⟩:=t;simp only at hr hl ⊢;have HR:=aa hr;obtain⟨a,c,rfl,h1,h2,h3,h4⟩:=hr;have H34:=aa (cS h3 h4);unfold maxLen at h2;clear h3 h4;obtain⟨n,hn⟩:=cR (begun now l)
 have HN:=aa hn;have hle:=gC now l;rw[hn]at hle;clear hn;go_enter Tryz.func166,Tryz.ntmps166
 go_upto_region 1 with fail
 obtain⟨w1,hw1⟩:=cR ((w.alloc (.cells #[.int .i64 no,.int .i64 q.src,.int .i64 q.dst,.int .i64 q.sz,.int .i64 q.rd,.int .i64 q.D,.int .i64 q.pr,.bool q.cu,.slice a l.length c,.int .i64 st,.int .i64 un] 41)).alloc (.cells #[.int .i64 0,.int .i64 0,.int .i64 0,.int .i64 0,.int .i64 0,.int .i64 0,.int .i64 0,.bool false,.slice none 0 0,.int .i64 0,.int .i64 0] 41))
 rw[hw1];have B1:Below w.heap.size w w1:=by rw[←hw1];exact cZ
 have X0:w1.heap[w.heap.size]? =some (.cells #[.int .i64 no,.int .i64 q.src,.int .i64 q.dst,.int .i64 q.sz,.int .i64 q.rd,.int .i64 q.D,.int .i64 q.pr,.bool q.cu,.slice a l.length c,.int .i64 st,.int .i64 un] 41 (0,0)):=by rw[←hw1];exact(ak _ _ _ (by simp)).trans cW
 have X1:w1.heap[w.heap.size+1]? =some (.cells #[.int .i64 0,.int .i64 0,.int .i64 0,.int .i64 0,.int .i64 0,.int .i64 0,.int .i64 0,.bool false,.slice none 0 0,.int .i64 0,.int .i64 0] 41 (0,0)):=by rw[←hw1];exact cY (by simp)
 have z1:w.heap.size+1<w1.heap.size:=(ai.1 X1).1;have cx0:=fun q=>cU X0 q
 have HX:=aa (cS X0 X1);have HB1:=aa B1;clear hw1 X0 X1 B1;have HRD:Hid (RHops w1.drew (.slice a l.length c) l):=aa (HR.out.below' (bdrew HB1.out));have n0:(0:Int)≤(n:Int):=by omega
 have n1:(n:Int)≤(c:Int):=by omega
 have n2:n≤c:=by omega
 have z1':w.heap.size<w1.heap.size:=by omega
 have hln:(l.take n).length=n:=by rw[aS];omega
 have HTK:Hid (∀W:World,Below w.heap.size w W→RHops W (.slice a n c) (l.take n)):=aa (fun W hW=>(HR.out.below' hW).take n (by omega));have hdr:Below w1.heap.size w1 w1.drew:=bdrew (ap _ _);refine dd (fun V=>Below (w1).heap.size (w1) V) [0,1,1,0,2,0,3,0,3] [0,1,2,3,4,5,6,7,8] (by kernel_rfl) (by kernel_rfl) ?_ ?_
 case refine_1=>exact cZ
 (iterate 4 (first | (refine cX rfl (by decide) (by rfl) (fun w1 hS=>by(try(obtain⟨_,_⟩:=bcell (hS rfl)));go_simp;rfl) ?_;simp only[Act.put,ae,af,ag]) | (refine dm rfl (by decide) (by rfl) ?_;simp only[Act.put,ae,af,ag])))
 (refine dA rfl rfl (by rfl) (fun K hK=>?_);go_simp)
 refine(f8 ⟨no,q,l,st,un⟩ _ now _ HRD.out).mono ?_
 rw[HN.out];rintro e wc11 ⟨rfl,hbc11⟩
 (refine hK _ _ (by exact cZ) ?_;clear hK K;(try simp only[Act.put,ae,af,ag]))
 (iterate 1 (first | (refine cX rfl (by decide) (by rfl) (fun w1 hS=>by(try(obtain⟨_,_⟩:=bcell (hS rfl)));go_simp;rfl) ?_;simp only[Act.put,ae,af,ag]) | (refine dm rfl (by decide) (by rfl) ?_;simp only[Act.put,ae,af,ag])))
 (refine di rfl rfl (by rfl) (fun K hK=>?_);go_simp)
 refine(pL (l.take n) _ _ (HTK.out _ (dq HB1.out (dq hdr hbc11))) (eF lY _) (by omega)).mono ?_
 rintro e wc13 hcl;obtain⟨⟨uv,rfl,how⟩,hbc13⟩:=hcl;obtain⟨va,vcc,rfl⟩:=dg how;have hb13:Below w1.heap.size w1 wc13:=dq (dq hdr hbc11) hbc13;have Y13:=(hb13.block _ z1').trans HX.out.1;have Z13:=(hb13.block _ z1).trans HX.out.2;have fz13:=fun o=>dC Y13 o
 have cz13:=fun o=>cU Y13 o
 have z13:w.heap.size<wc13.heap.size:=by have:=hb13.size;omega
 (refine hK _ _ ?_;clear hK K;(try simp only[Act.put,ae,af,ag]))
 (iterate 1 (first | (refine cX rfl (by decide) (by rfl) (fun w1 hS=>by(try(obtain⟨_,_⟩:=bcell (hS rfl)));go_simp;rfl) ?_;simp only[Act.put,ae,af,ag]) | (refine dm rfl (by decide) (by rfl) ?_;simp only[Act.put,ae,af,ag])))
 (refine di rfl rfl (by rfl) (fun K hK=>?_);go_simp)
 (refine hK _ _ ?_;clear hK K;(try simp only[Act.put,ae,af,ag]))
 refine du ?_
 rw[hln]at how;have HOW:=aa how;have z11:w.heap.size+1<wc11.heap.size:=by have:=hbc11.size;simp at this;omega
 have hb13':Below w.heap.size w wc13:=dq HB1.out hb13;obtain⟨w14,hw14⟩:=cR (wc13.setCell ⟨w.heap.size,8,none⟩ (.slice va n vcc))
 rw[hw14];have X14:w14.heap[w.heap.size]? =some (.cells #[.int .i64 no,.int .i64 q.src,.int .i64 q.dst,.int .i64 q.sz,.int .i64 q.rd,.int .i64 q.D,.int .i64 q.pr,.bool q.cu,.slice va n vcc,.int .i64 st,.int .i64 un] 41 (0,0)):=by rw[←hw14];exact eD Y13 8 _
 have hne14:∀q,q≠w.heap.size→w14.heap[q]? =wc13.heap[q]?:=fun q h=>by rw[←hw14];exact heap_setCell_other wc13 ⟨w.heap.size,8,none⟩ q _ h
 have hs14:w14.heap.size=wc13.heap.size:=by rw[←hw14];simp
 have hb14:Below w.heap.size w w14:=by rw[←hw14];exact bset hb13' (aj _)
 have H14:=aa (cS hne14 (cS hs14 hb14));have c14:=fun q=>cU X14 q
 have f14:=fun q=>dC X14 q
 have z14:w.heap.size<w14.heap.size:=by omega
 have Z14:=aa ((hne14 _ (by omega)).trans Z13);have HX14:=aa X14;clear hw14 X14 hne14 hs14 hb14 Y13 Z13 fz13 cz13 how hb13 hb13' hbc11 hbc13 hdr;go_upto_region 3 with fail
 obtain⟨w16,hw16⟩:=cR ((w14.setCell ⟨w.heap.size,9,none⟩ (.int .i64 2)).setCell ⟨w.heap.size,10,none⟩ (.int .i64 until_))
 rw[hw16];have X16:w16.heap[w.heap.size]? =some (.cells #[.int .i64 no,.int .i64 q.src,.int .i64 q.dst,.int .i64 q.sz,.int .i64 q.rd,.int .i64 q.D,.int .i64 q.pr,.bool q.cu,.slice va n vcc,.int .i64 2,.int .i64 until_] 41 (0,0)):=by rw[←hw16];exact eD (eD HX14.out 9 _) 10 _
 have hne16:∀q,q≠w.heap.size→w16.heap[q]? =wc13.heap[q]?:=fun q h=>by rw[←hw16];exact(heap_setCell_other _ ⟨w.heap.size,10,none⟩ q _ h).trans ((heap_setCell_other w14 ⟨w.heap.size,9,none⟩ q _ h).trans (H14.out.1 q h))
 have hs16:w16.heap.size=wc13.heap.size:=by rw[←hw16];simp;exact H14.out.2.1
 have hb16:Below w.heap.size w w16:=by rw[←hw16];exact bset (bset H14.out.2.2 (aj _)) (aj _)
 have H16:=aa (cS hne16 (cS hs16 hb16));have c16:=fun q=>cU X16 q
 have z16:w.heap.size<w16.heap.size:=by omega
 have Z16:Hid (w16.heap[w.heap.size+1]? =some (.cells #[.int .i64 0,.int .i64 0,.int .i64 0,.int .i64 0,.int .i64 0,.int .i64 0,.int .i64 0,.bool false,.slice none 0 0,.int .i64 0,.int .i64 0] 41 (0,0))):=aa (by
  refine(hne16 _ (by omega)).trans ?_
  rw[←H14.out.1 _ (by omega)];exact Z14.out)
 clear hw16 X16 hne16 hs16 hb16 c14 f14;go_wp2_with (refine dv rfl 41 _ _ rfl (w.heap.size+1) #[.int .i64 no,.int .i64 q.src,.int .i64 q.dst,.int .i64 q.sz,.int .i64 q.rd,.int .i64 q.D,.int .i64 q.pr,.bool q.cu,.slice va n vcc,.int .i64 2,.int .i64 until_] _ 41 rfl rfl Z16.out rfl (by kernel_rfl) (by simp[Value.oneCell']) ?_;intro wF hW hbW hsW hoW;have HBF:Hid (Below w.heap.size w wF):=aa (H16.out.2.2.trans (hbW _ (by omega)));have HOF:=aa (cS hoW hsW);have zF:w.heap.size+1<wF.heap.size:=(ai.1 hW).1;have cF:=fun o=>cU hW o;clear hW hbW hsW hoW)
 refine bodyPost_ret (v:=.agg #[.int .i64 no,.int .i64 q.src,.int .i64 q.dst,.int .i64 q.sz,.int .i64 q.rd,.int .i64 q.D,.int .i64 q.pr,.bool q.cu,.slice va n vcc,.int .i64 2,.int .i64 until_]) (by simp[results,Tryz.results166,go_sem,aP,cF,zF]) rfl ?_
 have hown:=HOW.out;have hk:∀g,(Value.slice va n vcc).ownBlock=some g→wF.heap[g]? =wc13.heap[g]?:=fun g hg=>by
  have:=(hown.lt g hg).1;exact(HOF.out.1 g (by omega)).trans (H16.out.1 g (by omega))
 refine⟨⟨.slice va n vcc,?_,?_,fun b hb=>?_⟩,HBF.out⟩
 ·show _=Ending.returned (.agg #[.int .i64 (stopT ⟨no,q,l,st,un⟩ now until_).no,.int .i64 (stopT ⟨no,q,l,st,un⟩ now until_).q.src,.int .i64 (stopT ⟨no,q,l,st,un⟩ now until_).q.dst,.int .i64 (stopT ⟨no,q,l,st,un⟩ now until_).q.sz,.int .i64 (stopT ⟨no,q,l,st,un⟩ now until_).q.rd,.int .i64 (stopT ⟨no,q,l,st,un⟩ now until_).q.D,.int .i64 (stopT ⟨no,q,l,st,un⟩ now until_).q.pr,.bool (stopT ⟨no,q,l,st,un⟩ now until_).q.cu,(.slice va n vcc),.int .i64 (stopT ⟨no,q,l,st,un⟩ now until_).st,.int .i64 (stopT ⟨no,q,l,st,un⟩ now until_).un])
  rfl
 ·have:=dF (by decide) fH (cV hown hk)
  show RRow hpC 4 _ _ _ (l.take (begun now l))
  rw[HN.out];exact this
 ·have:=(hown.lt b hb).1
  omega
end
section
theorem mP (t:Tk) (u v:Value) (m:List Hp) (now:Int) (w:World) (hr:RHops w u t.hs) (hm:RHops w v m) (hl:t.hs.length≤10000) (hml:m.length≤10000):
  Calls Tryz.prog 168 #[.agg #[.int .i64 t.no,.int .i64 t.q.src,.int .i64 t.q.dst,.int .i64 t.q.sz,.int .i64 t.q.rd,.int .i64 t.q.D,.int .i64 t.q.pr,.bool t.q.cu,u,.int .i64 t.st,.int .i64 t.un],v,.int .i64 now] w (TkRet (resT t m now) w):=by
 obtain⟨no,q,l,st,un⟩:=t;simp only at hr hl ⊢;have HR:=aa hr;have HM:=aa hm;obtain⟨ma,mc,rfl,-⟩:=hm;obtain⟨a,c,rfl,h1,h2,h3,h4⟩:=hr;have H34:=aa (cS h3 h4);unfold maxLen at h2;clear h3 h4;obtain⟨n,hn⟩:=cR (begun now l)
 have HN:=aa hn;have hle:=gC now l;rw[hn]at hle;clear hn;go_enter Tryz.func168,Tryz.ntmps168
 go_upto_region 1 with fail
 obtain⟨w1,hw1⟩:=cR ((w.alloc (.cells #[.int .i64 no,.int .i64 q.src,.int .i64 q.dst,.int .i64 q.sz,.int .i64 q.rd,.int .i64 q.D,.int .i64 q.pr,.bool q.cu,.slice a l.length c,.int .i64 st,.int .i64 un] 41)).alloc (.cells #[.int .i64 0,.int .i64 0,.int .i64 0,.int .i64 0,.int .i64 0,.int .i64 0,.int .i64 0,.bool false,.slice none 0 0,.int .i64 0,.int .i64 0] 41))
 rw[hw1];have B1:Below w.heap.size w w1:=by rw[←hw1];exact cZ
 have X0:w1.heap[w.heap.size]? =some (.cells #[.int .i64 no,.int .i64 q.src,.int .i64 q.dst,.int .i64 q.sz,.int .i64 q.rd,.int .i64 q.D,.int .i64 q.pr,.bool q.cu,.slice a l.length c,.int .i64 st,.int .i64 un] 41 (0,0)):=by rw[←hw1];exact(ak _ _ _ (by simp)).trans cW
 have X1:w1.heap[w.heap.size+1]? =some (.cells #[.int .i64 0,.int .i64 0,.int .i64 0,.int .i64 0,.int .i64 0,.int .i64 0,.int .i64 0,.bool false,.slice none 0 0,.int .i64 0,.int .i64 0] 41 (0,0)):=by rw[←hw1];exact cY (by simp)
 have z1:w.heap.size+1<w1.heap.size:=(ai.1 X1).1;have cx0:=fun q=>cU X0 q
 have HX:=aa (cS X0 X1);have HB1:=aa B1;clear hw1 X0 X1 B1;have HRD:Hid (RHops w1.drew (.slice a l.length c) l):=aa (HR.out.below' (bdrew HB1.out));have n0:(0:Int)≤(n:Int):=by omega
 have n1:(n:Int)≤(c:Int):=by omega
 have n2:n≤c:=by omega
 have z1':w.heap.size<w1.heap.size:=by omega
 have hln:(l.take n).length=n:=by rw[aS];omega
 have HTK:Hid (∀W:World,Below w.heap.size w W→RHops W (.slice a n c) (l.take n)):=aa (fun W hW=>(HR.out.below' hW).take n (by omega));have hdr:Below w1.heap.size w1 w1.drew:=bdrew (ap _ _);have HMK:Hid (∀W:World,Below w.heap.size w W→RHops W (.slice ma m.length mc) m):=aa (fun W hW=>HM.out.below' hW);have hlm:(l.take n++m).length=n+m.length:=by rw[ay,hln]
 refine dd (fun V=>Below (w1).heap.size (w1) V) [0,1,1,0,2,0,0,3,3,0,3] [0,1,2,3,6,4,5,7,8,9,10] (by kernel_rfl) (by kernel_rfl) ?_ ?_
 case refine_1=>exact cZ
 (iterate 5 (first | (refine cX rfl (by decide) (by rfl) (fun w1 hS=>by(try(obtain⟨_,_⟩:=bcell (hS rfl)));go_simp;rfl) ?_;simp only[Act.put,ae,af,ag]) | (refine dm rfl (by decide) (by rfl) ?_;simp only[Act.put,ae,af,ag])))
 (refine dA rfl rfl (by rfl) (fun K hK=>?_);go_simp)
 refine(f8 ⟨no,q,l,st,un⟩ _ now _ HRD.out).mono ?_
 rw[HN.out];rintro e wc11 ⟨rfl,hbc11⟩
 (refine hK _ _ (by exact cZ) ?_;clear hK K;(try simp only[Act.put,ae,af,ag]))
 (iterate 1 (first | (refine cX rfl (by decide) (by rfl) (fun w1 hS=>by(try(obtain⟨_,_⟩:=bcell (hS rfl)));go_simp;rfl) ?_;simp only[Act.put,ae,af,ag]) | (refine dm rfl (by decide) (by rfl) ?_;simp only[Act.put,ae,af,ag])))
 (refine di rfl rfl (by rfl) (fun K hK=>?_);go_simp)
 (refine hK _ _ ?_;clear hK K;(try simp only[Act.put,ae,af,ag]))
 (refine di rfl rfl (by rfl) (fun K hK=>?_);go_simp)
 refine(mO (l.take n) m _ _ wc11.heap.size _ _ cW (HTK.out _ (dq HB1.out (dq hdr (de hbc11)))) (HMK.out _ (dq HB1.out (dq hdr (de hbc11)))) (by omega) hml).mono ?_
 rintro e wc15 hcl;obtain⟨uv,rfl,how,hbc15⟩:=hcl;obtain⟨va,vcc,rfl⟩:=dg how;have hb13:Below w1.heap.size w1 wc15:=dq (dq hdr (de hbc11)) hbc15;have Y13:=(hb13.block _ z1').trans HX.out.1;have Z13:=(hb13.block _ z1).trans HX.out.2;have fz13:=fun o=>dC Y13 o
 have cz13:=fun o=>cU Y13 o
 have z13:w.heap.size<wc15.heap.size:=by have:=hb13.size;omega
 (refine hK _ _ ?_;clear hK K;(try simp only[Act.put,ae,af,ag]))
 (iterate 1 (first | (refine cX rfl (by decide) (by rfl) (fun w1 hS=>by(try(obtain⟨_,_⟩:=bcell (hS rfl)));go_simp;rfl) ?_;simp only[Act.put,ae,af,ag]) | (refine dm rfl (by decide) (by rfl) ?_;simp only[Act.put,ae,af,ag])))
 (refine di rfl rfl (by rfl) (fun K hK=>?_);go_simp)
 (refine hK _ _ ?_;clear hK K;(try simp only[Act.put,ae,af,ag]))
 refine du ?_
 rw[hlm]at how;have HOW:=aa how;have z11:w.heap.size+1<(wc11.alloc (.cells #[.slice a n c,.slice ma m.length mc] 39)).heap.size:=by have:=hbc11.size;simp at this ⊢;omega
 have hb13':Below w.heap.size w wc15:=dq HB1.out hb13;obtain⟨w14,hw14⟩:=cR (wc15.setCell ⟨w.heap.size,8,none⟩ (.slice va (n+m.length) vcc))
 rw[hw14];have X14:w14.heap[w.heap.size]? =some (.cells #[.int .i64 no,.int .i64 q.src,.int .i64 q.dst,.int .i64 q.sz,.int .i64 q.rd,.int .i64 q.D,.int .i64 q.pr,.bool q.cu,.slice va (n+m.length) vcc,.int .i64 st,.int .i64 un] 41 (0,0)):=by rw[←hw14];exact eD Y13 8 _
 have hne14:∀q,q≠w.heap.size→w14.heap[q]? =wc15.heap[q]?:=fun q h=>by rw[←hw14];exact heap_setCell_other wc15 ⟨w.heap.size,8,none⟩ q _ h
 have hs14:w14.heap.size=wc15.heap.size:=by rw[←hw14];simp
 have hb14:Below w.heap.size w w14:=by rw[←hw14];exact bset hb13' (aj _)
 have H14:=aa (cS hne14 (cS hs14 hb14));have c14:=fun q=>cU X14 q
 have f14:=fun q=>dC X14 q
 have z14:w.heap.size<w14.heap.size:=by omega
 have Z14:=aa ((hne14 _ (by omega)).trans Z13);have HX14:=aa X14;clear hw14 X14 hne14 hs14 hb14 Y13 Z13 fz13 cz13 how hb13 hb13' hbc11 hbc15 hdr;go_wp2_with (refine dv rfl 41 _ _ rfl (w.heap.size+1) #[.int .i64 no,.int .i64 q.src,.int .i64 q.dst,.int .i64 q.sz,.int .i64 q.rd,.int .i64 q.D,.int .i64 q.pr,.bool q.cu,.slice va (n+m.length) vcc,.int .i64 st,.int .i64 un] _ 41 rfl rfl Z14.out rfl (by kernel_rfl) (by simp[Value.oneCell']) ?_;intro wF hW hbW hsW hoW;have HBF:Hid (Below w.heap.size w wF):=aa (H14.out.2.2.trans (hbW _ (by omega)));have HOF:=aa (cS hoW hsW);have zF:w.heap.size+1<wF.heap.size:=(ai.1 hW).1;have cF:=fun o=>cU hW o;clear hW hbW hsW hoW)
 refine bodyPost_ret (v:=.agg #[.int .i64 no,.int .i64 q.src,.int .i64 q.dst,.int .i64 q.sz,.int .i64 q.rd,.int .i64 q.D,.int .i64 q.pr,.bool q.cu,.slice va (n+m.length) vcc,.int .i64 st,.int .i64 un]) (by simp[results,Tryz.results168,go_sem,aP,cF,zF]) rfl ?_
 have hown:=HOW.out;have hk:∀g,(Value.slice va (n+m.length) vcc).ownBlock=some g→wF.heap[g]? =wc15.heap[g]?:=fun g hg=>by
  have:=(hown.lt g hg).1;exact(HOF.out.1 g (by omega)).trans (H14.out.1 g (by omega))
 refine⟨⟨.slice va (n+m.length) vcc,?_,?_,fun b hb=>?_⟩,HBF.out⟩
 ·show _=Ending.returned (.agg #[.int .i64 (resT ⟨no,q,l,st,un⟩ m now).no,.int .i64 (resT ⟨no,q,l,st,un⟩ m now).q.src,.int .i64 (resT ⟨no,q,l,st,un⟩ m now).q.dst,.int .i64 (resT ⟨no,q,l,st,un⟩ m now).q.sz,.int .i64 (resT ⟨no,q,l,st,un⟩ m now).q.rd,.int .i64 (resT ⟨no,q,l,st,un⟩ m now).q.D,.int .i64 (resT ⟨no,q,l,st,un⟩ m now).q.pr,.bool (resT ⟨no,q,l,st,un⟩ m now).q.cu,(.slice va (n+m.length) vcc),.int .i64 (resT ⟨no,q,l,st,un⟩ m now).st,.int .i64 (resT ⟨no,q,l,st,un⟩ m now).un])
  rfl
 ·have:=dF (by decide) fH (cV hown hk)
  show RRow hpC 4 _ _ _ (l.take (begun now l)++m)
  rw[HN.out];exact this
 ·have:=(hown.lt b hb).1
  omega
end
section
def setS:List Tk→Tk→List Tk
 | [],t=>[t]
 | a::r,t=>if a.no=t.no then t::r else a::setS r t
theorem iI {t:Tk}:∀{ts:List Tk},(∀x∈ts,x.no≠t.no)→setS ts t=ts++[t]
 | [],_=>rfl
 | a::r,h=>by
  unfold setS;rw[if_neg (h a (by simp)),iI (fun x hx=>h x (by simp[hx]))];rfl
theorem oY {t x:Tk}:∀{ts:List Tk} {k:Nat},(∀x∈ts.take k,x.no≠t.no)→ts[k]? =some x→x.no=t.no→setS ts t=ts.set k t
 | [],_,_,h,_=>by simp at h
 | a::r,0,_,h,e=>by
  simp at h
  subst h;unfold setS;rw[if_pos e];rfl
 | a::r,k+1,h1,h,e=>by
  unfold setS;rw[if_neg (h1 a (by simp)),oY (k:=k) (fun y hy=>h1 y (by simp[hy])) (by simpa using h) e];rfl
theorem kr {A C:List Tk} {t t':Tk} (hA:∀x∈A,x.no≠t'.no) (e:t.no=t'.no):setS (A++t::C) t'=A++t'::C:=by
 induction A with
 | nil=>simp[setS,e]
 | cons a A ih=>
  rw[a8];unfold setS;rw[if_neg (hA a (by simp)),ih (fun x hx=>hA x (by simp[hx]))];rfl
structure KpO (g:Nat) (ro:Option Nat) (w w':World):Prop where
 os:w'.os=w.os
 tape:w'.tape=w.tape
 output:w'.output=w.output
 size:w.heap.size≤w'.heap.size
 block:∀q,q<w.heap.size→q≠g→ro≠some q→w'.heap[q]? =w.heap[q]?
theorem KpO.below {g:Nat} {ro:Option Nat} {w w':World} (h:KpO g ro w w') {B:Nat} (hg:B≤g) (hr:∀q,ro=some q→B≤q) (hB:B≤w.heap.size):Below B w w':=
 ⟨h.os,h.tape,h.output,h.size,fun q hq=>h.block q (by omega) (by omega) (fun e=>by have:=hr q e;omega)⟩
theorem KpO.of {g:Nat} {ro:Option Nat} {w w':World} (h:Below w.heap.size w w'):KpO g ro w w':=⟨h.os,h.tape,h.output,h.size,fun q hq _ _=>h.block q hq⟩
theorem KpO.trans {g:Nat} {ro:Option Nat} {a b c:World} (h:KpO g ro a b) (k:KpO g ro b c):KpO g ro a c:=⟨k.os.trans h.os,k.tape.trans h.tape,k.output.trans h.output,aK h.size k.size,fun q hq h1 h2=>(k.block q (aO hq h.size) h1 h2).trans (h.block q hq h1 h2)⟩
theorem KpO.grown {g:Nat} {ro:Option Nat} {w w':World} (h:w.grownBy w' ro):KpO g ro w w':=⟨h.os,h.tape,h.output,h.size,fun q hq _ h2=>h.block q hq (fun e=>h2 e.symm)⟩
theorem KpO.set (g i:Nat) (ro:Option Nat) (w:World) (v:Value):KpO g ro w (w.setCell ⟨g,i,none⟩ v):=
 have hb:=bset (B:=0) (a:=w) (w:=w) (p:=⟨g,i,none⟩) (u:=v) (ap _ _) (aE _);⟨hb.os,hb.tape,hb.output,hb.size,fun q _ h1 _=>heap_setCell_other w ⟨g,i,none⟩ q v h1⟩
theorem KpO.sets (g b o:Nat) (w:World) (vs:List Value):KpO g (some b) w (w.setCells b o vs):=
 have hb:=dX b vs o w 0 (aE _);⟨hb.os,hb.tape,hb.output,hb.size,fun q _ _ h2=>dR b q (fun e=>h2 (by rw[e])) vs o w⟩
theorem RRow.keepAt {α:Type} {enc:α→List Value} {s:Nat} {w w':World} {v:Value} {l:List α} (h:RRow enc s w w.heap.size v l) (hs:w.heap.size≤w'.heap.size) (k:l≠[]→∀b,v.ownBlock=some b→w'.heap[b]? =w.heap[b]?):RRow enc s w' w'.heap.size v l:=by
 obtain⟨a,c,rfl,h1,h2,h3,h4⟩:=h;refine⟨a,c,rfl,h1,h2,h3,fun hp=>?_⟩
 obtain⟨b,o,rfl,hb,hc⟩:=h4 hp;refine⟨b,o,rfl,by omega,fun i x hx j u hu=>?_⟩
 have:=k (fun e=>by rw[e]at hp;exact absurd hp (Nat.lt_irrefl 0)) b rfl;rw[←hc i x hx j u hu];simp only[World.cell?,this]
theorem RRow.blk {α:Type} {enc:α→List Value} {s:Nat} {w:World} {v:Value} {l:List α} (h:RRow enc s w w.heap.size v l) (hn:l≠[]) {b:Nat} (hb:v.ownBlock=some b):b<w.heap.size:=by
 obtain⟨a,c,rfl,h1,h2,h3,h4⟩:=h;obtain⟨b',o,rfl,hb',hc⟩:=h4 (List.length_pos_iff.2 hn);have:b'=b:=Option.some.inj hb;omega
theorem fE {w:World} {base n k g:Nat} {e T:TypeId} {u:Value} {xs:List Value} {cs:Array Value} {f:Nat×Nat} (h:w.ownsRow base e k u n xs) (hb:u.ownBlock=some g) (hg:w.heap[g]? =some (.cells cs T f)):T=e:=by
 rcases h.2 with⟨rfl,_⟩ | ⟨g',cap,cur,rfl,_,hg',_⟩
 ·cases hb
 ·have e1:g'=g:=Option.some.inj hb
  subst e1;have:=hg.symm.trans hg';injection this with this
  injection this
def OwnT (w:World) (base:Nat) (ex:List Nat) (u:Value) (ts:List Tk):Prop:=∃ps:List (Tk×Value),ts=ps.map (·.1)∧w.ownsRow base 41 11 u ps.length (ps.flatMap tkP)∧
 ∀p∈ps,RHops w p.2 p.1.hs∧(p.1.hs≠[]→(∀b,u.ownBlock=some b→p.2.ownBlock≠some b)∧∀b∈ex,p.2.ownBlock≠some b)
theorem OwnT.rtks {w:World} {base:Nat} {ex:List Nat} {u:Value} {ts:List Tk} (h:OwnT w base ex u ts):RTks w u ts:=by
 obtain⟨ps,e,ho,hh⟩:=h;exact⟨ps,e,dF (by decide) fI ho,fun p hp=>(hh p hp).1⟩
theorem OwnT.below {w w':World} {base:Nat} {ex:List Nat} {u:Value} {ts:List Tk} (h:OwnT w base ex u ts) (k:Below w.heap.size w w'):OwnT w' base ex u ts:=by
 obtain⟨ps,e,ho,hh⟩:=h;exact⟨ps,e,cV ho (fun q hq=>k.block q (ho.lt q hq).2),fun p hp=>⟨(hh p hp).1.below' k,(hh p hp).2⟩⟩
theorem OwnT.more {w w':World} {base g:Nat} {ex:List Nat} {u:Value} {ts:List Tk} (h:OwnT w base ex u ts) (k:Below w.heap.size w w') (hg:w.heap.size≤g):OwnT w' base (g::ex) u ts:=by
 obtain⟨ps,e,ho,hh⟩:=h;refine⟨ps,e,cV ho (fun q hq=>k.block q (ho.lt q hq).2),fun p hp=>⟨(hh p hp).1.below' k,fun hn=>⟨((hh p hp).2 hn).1,fun b hb e=>?_⟩⟩⟩
 rcases aG.1 hb with rfl | hb
 ·have:=(hh p hp).1.blk hn e
  omega
 ·exact((hh p hp).2 hn).2 b hb e
theorem OwnT.ne {w:World} {base:Nat} {ex:List Nat} {u:Value} {ts:List Tk} (h:OwnT w base ex u ts) {g:Nat} {cs:Array Value} {T:TypeId} {f:Nat×Nat} (hg:w.heap[g]? =some (.cells cs T f)) (hT:T≠41):u.ownBlock≠some g:=by
 obtain⟨ps,e,ho,hh⟩:=h
 exact fun e=>hT (fE ho e hg)
theorem OwnT.fin {w w':World} {base g:Nat} {ex:List Nat} {ut ut':Value} {ps':List (Tk×Value)} (hh:∀p∈ps',RHops w p.2 p.1.hs∧(p.1.hs≠[]→(∀b,ut.ownBlock=some b→p.2.ownBlock≠some b)∧∀b∈g::ex,p.2.ownBlock≠some b)) (ho:w'.ownsRow base 41 11 ut' ps'.length (ps'.flatMap tkP)) (k:KpO g ut.ownBlock w w') (hat:ut'.ownBlock=ut.ownBlock∨∀b,ut'.ownBlock=some b→w.heap.size≤b):OwnT w' base (g::ex) ut' (ps'.map (·.1)):=by
 refine⟨ps',rfl,ho,fun p hp=>?_⟩
 obtain⟨h1,h2⟩:=hh p hp;refine⟨h1.keepAt k.size (fun hn b hb=>k.block b (h1.blk hn hb) (fun e=>(h2 hn).2 g (by simp) (by rw[←e];exact hb)) (fun e=>(h2 hn).1 b e hb)),fun hn=>⟨fun b hb e=>?_,fun b hb=>(h2 hn).2 b hb⟩⟩
 rcases hat with hat | hat
 ·exact(h2 hn).1 b (by rw[←hat];exact hb) e
 ·have h3:=hat b hb
  have h4:=h1.blk hn e;omega
theorem own_setK {α:Type} {enc:α→List Value} {k:Nat} (hk0:0<k) (hk:∀x,(enc x).length=k) {w:World} {base g i:Nat} {T:TypeId} {u:Value} {ps:List α} {x:α} (hi:i<ps.length) (h:w.ownsRow base T k u ps.length (ps.flatMap enc)) (hb:u.ownBlock=some g):(w.setCells g (i*k) (enc x)).ownsRow base T k u ps.length ((ps.set i x).flatMap enc):=by
 rcases h.2 with⟨h1,h2⟩ | ⟨g',cap,cur,rfl,hbg,hg,hn,hm,hs,ht⟩
 ·omega
 have:g'=g:=Option.some.inj hb;subst this;refine⟨by rw[ef enc k hk,List.length_set],.inr ⟨g',cap,setAll cur (i*k) (enc x),rfl,hbg,ez g' T (enc x) (i*k) w cur hg,hn,hm,by rw[eU];exact hs,?_⟩⟩
 have hle:ps.length*k≤cur.size:=by rw[hs];exact Nat.mul_le_mul_right k hn
 have hik:i*k+k≤ps.length*k:=by
  have:=Nat.mul_le_mul_right k hi;rw[Nat.succ_mul]at this;exact this
 apply List.ext_getElem?
 intro j;by_cases hj:j<ps.length*k
 ·rw[List.getElem?_take_of_lt hj,bw,eS _ _ _ _ (by rw[hk];omega),hk]
  have hq:j=j / k*k+j % k:=by rw[Nat.mul_comm];exact(Nat.div_add_mod j k).symm
  have hm2:j % k<k:=Nat.mod_lt _ hk0;have hold:cur[j]? =(ps.flatMap enc)[j]?:=by rw[←ht,List.getElem?_take_of_lt hj,bw]
  have e1:((ps.set i x).flatMap enc)[j]? =((ps.set i x)[j / k]?).bind fun y=>(enc y)[j % k]?:=by
   conv=>lhs;rw[hq]
   exact eG enc k hk _ _ _ hm2
  have e2:(ps.flatMap enc)[j]? =(ps[j / k]?).bind fun y=>(enc y)[j % k]?:=by
   conv=>lhs;rw[hq]
   exact eG enc k hk _ _ _ hm2
  have hqi:i*k≤j∧j<i*k+k↔j / k=i:=by
   constructor
   ·rintro⟨a,b⟩
    exact Nat.div_eq_of_lt_le (by rw[Nat.mul_comm]at a ⊢;omega) (by rw[Nat.succ_mul];omega)
   ·intro e
    subst e;omega
  rw[e1];by_cases hd:j / k=i
  ·rw[if_pos (hqi.2 hd),hd,List.getElem?_set_self hi]
   show(enc x)[j-i*k]? =(enc x)[j % k]?
   congr 1
   rw[←hd];omega
  ·rw[if_neg (fun h=>hd (hqi.1 h)),hold,e2,List.getElem?_set_ne (fun e=>hd e.symm)]
 ·rw[List.getElem?_take_eq_none (by omega),bj (by rw[ef enc k hk,List.length_set];omega)]
def OpenPost (ts:List Tk) (uq uc ub:Value) (w:World) (e:Ending) (w':World):Prop:=(∃u,e= .returned (.agg #[uq,uc,ub,u])∧OwnT w' w.heap.size [] u ts)∧Below w.heap.size w w'
theorem mQ (ts:List Tk) (uq uc ub ut:Value) (w:World) (hq:∃a k c,uq= .slice a k c) (hc:∃a k c,uc= .slice a k c) (hub:∃a k c,ub= .slice a k c) (ht:RTks w ut ts) (hl:ts.length≤64):
  Calls Tryz.prog 43 #[.agg #[uq,uc,ub,ut]] w (OpenPost ts uq uc ub w):=by
 obtain⟨aq,kq,cq,rfl⟩:=hq;obtain⟨ac,kc,cc,rfl⟩:=hc;obtain⟨ab,kb,cb,rfl⟩:=hub;obtain⟨ps,hps,hrow,hrh⟩:=ht;have hpl:ps.length=ts.length:=by rw[hps];simp
 have HPS:=aa hps;have HRH:=aa hrh;have HROW:=aa hrow;have hone:∀v∈ps.flatMap tkP,v.oneCell'=true:=oX (fun _=>trivial) (fun p hp=>by obtain⟨a,c,e,_⟩:=hrh p hp;exact⟨a,_,c,e⟩);have HONE:=aa hone;obtain⟨a,c,rfl,h1,h2,-,-⟩:=hrow;unfold maxLen at h2;have hp64:ps.length≤64:=by omega
 clear hps hrh hone hpl;go_enter Tryz.func43,Tryz.ntmps43
 go_upto_region 1 with fail
 obtain⟨w1,hw1⟩:=cR ((w.alloc (.cells #[.slice aq kq cq,.slice ac kc cc,.slice ab kb cb,.slice a ps.length c] 36)).alloc (.cells #[.slice none 0 0,.slice none 0 0,.slice none 0 0,.slice none 0 0] 105))
 rw[hw1];have B1:Below w.heap.size w w1:=by rw[←hw1];exact cZ
 have X0:w1.heap[w.heap.size]? =some (.cells #[.slice aq kq cq,.slice ac kc cc,.slice ab kb cb,.slice a ps.length c] 36 (0,0)):=by rw[←hw1];exact(ak _ _ _ (by simp)).trans cW
 have X1:w1.heap[w.heap.size+1]? =some (.cells #[.slice none 0 0,.slice none 0 0,.slice none 0 0,.slice none 0 0] 105 (0,0)):=by rw[←hw1];exact cY (by simp)
 have z1:w.heap.size+1<w1.heap.size:=(ai.1 X1).1;have z1':w.heap.size<w1.heap.size:=by omega
 have cx0:=fun q=>cU X0 q
 have HX:=aa (cS X0 X1);have HB1:=aa B1;clear hw1 X0 X1 B1;go_wp2_with fail
 refine(pK ps _ _ (HROW.out.below' HB1.out) HONE.out (by omega)).mono ?_
 rintro e w2 ⟨⟨uv,rfl,how⟩,hb2⟩;obtain⟨va,vc,rfl⟩:=dg how;have HOW:=aa how;have B2:Below w.heap.size w w2:=dq HB1.out hb2;have Y0:=(hb2.block _ z1').trans HX.out.1;have Y1:=(hb2.block _ z1).trans HX.out.2;have z2:w.heap.size+1<w2.heap.size:=by have:=hb2.size;omega
 have z2':w.heap.size<w2.heap.size:=by omega
 have cy:=fun q=>cU Y0 q
 have fy:=fun q=>dC Y0 q
 have HY:=aa (cS Y0 (cS Y1 B2));clear how hb2 B2 cx0;go_upto_region 2 with fail
 obtain⟨w3,hw3⟩:=cR (w2.setCell ⟨w.heap.size,3,none⟩ (.slice va ps.length vc))
 rw[hw3];have X3:w3.heap[w.heap.size]? =some (.cells #[.slice aq kq cq,.slice ac kc cc,.slice ab kb cb,.slice va ps.length vc] 36 (0,0)):=by rw[←hw3];exact eD Y0 3 _
 have hne3:∀q,q≠w.heap.size→w3.heap[q]? =w2.heap[q]?:=fun q h=>by rw[←hw3];exact heap_setCell_other w2 ⟨w.heap.size,3,none⟩ q _ h
 have hs3:w3.heap.size=w2.heap.size:=by rw[←hw3];simp
 have hb3:Below w.heap.size w w3:=by rw[←hw3];exact bset HY.out.2.2 (aj _)
 have Z3:=aa ((hne3 _ (by omega)).trans Y1);have c3:=fun q=>cU X3 q
 have z3:w.heap.size<w3.heap.size:=by omega
 have H3:=aa (cS hne3 (cS hs3 hb3));clear hw3 X3 hne3 hs3 hb3 Y0 Y1 cy fy;go_wp2_with (refine dv rfl 105 _ _ rfl (w.heap.size+1) #[.slice aq kq cq,.slice ac kc cc,.slice ab kb cb,.slice va ps.length vc] _ 105 rfl rfl Z3.out rfl (by kernel_rfl) (by simp[Value.oneCell']) ?_;intro wF hW hbW hsW hoW;have HBF:Hid (Below w.heap.size w wF):=aa (H3.out.2.2.trans (hbW _ (by omega)));have HOF:=aa (cS hoW hsW);have zF:w.heap.size+1<wF.heap.size:=(ai.1 hW).1;have cF:=fun o=>cU hW o;clear hW hbW hsW hoW)
 refine bodyPost_ret (v:=.agg #[.slice aq kq cq,.slice ac kc cc,.slice ab kb cb,.slice va ps.length vc]) (by simp[results,Tryz.results43,go_sem,aP,cF,zF]) rfl ?_
 have hown:=HOW.out;have hge:∀g,(Value.slice va ps.length vc).ownBlock=some g→w1.heap.size≤g:=fun g hg=>(hown.lt g hg).1
 have hk:∀g,(Value.slice va ps.length vc).ownBlock=some g→wF.heap[g]? =w2.heap[g]?:=fun g hg=>by
  have:=hge g hg;exact(HOF.out.1 g (by omega)).trans (H3.out.1 g (by omega))
 refine⟨⟨_,rfl,ps,HPS.out,jW (cV hown hk) (by omega),fun p hp=>⟨(HRH.out p hp).below' HBF.out,fun hn=>⟨fun b hb e=>?_,fun b hb=>by cases hb⟩⟩⟩,HBF.out⟩
 have h5:=(HRH.out p hp).blk hn e;have h6:=hge b hb;omega
end
end Go.Proofs.YtfnciigbbolckaaGreat
