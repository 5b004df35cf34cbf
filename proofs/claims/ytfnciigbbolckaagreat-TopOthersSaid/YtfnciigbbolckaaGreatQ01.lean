/- Part 1 of the proof about mailboattop.TopOthers. No condition. -/
import Derived.Test.YtfnciigbbolckaaGreatQ00
set_option linter.unusedVariables false
set_option linter.unusedSimpArgs false
set_option maxRecDepth 100000
set_option maxHeartbeats 64000000
namespace Go.Proofs.YtfnciigbbolckaaGreat
section
open Go.ChangeShapes Go.WideShapes Go.ChangeAt Go.RowKit
theorem gY {H:Type} {enc:TypeId×Value→H} {P:Program} (hl:laidOutB P=true) {W W':World} {sp:Nat→Bool}:
  ∀{ts:List TypeId} {vs:List Value} {ds:List (DataW H)} {ps:List MemPlace},(ts.all fun t=>P.readableRec t&&decide (t<P.types.size))=true→
   DataW.TrodAll enc P W 0 (fun _=>true) true ts vs ds ps→(∀p∈ps,W.sameAt W' p)→(∀p∈ps,sp p.block=true)→DataW.TrodAll enc P W' 0 sp true ts vs ds ps
 | [],vs,ds,ps,_,h,_,_=>by
  obtain⟨rfl,rfl,rfl⟩:=trodAll_nil h;exact rfl
 | t::ts,vs,ds,ps,hr,h,h1,h2=>by
  obtain⟨v,vs',d,ds',p,q,rfl,rfl,rfl,hp,hq⟩:=trodAll_cons h;simp only[List.all_cons,aQ,decide_eq_true_eq]at hr;exact⟨p,q,WideElems.Trod_stays hl hr.1.1 hr.1.2 hp (fun x hx=>h1 x (List.mem_append_left _ hx)) (fun x hx=>h2 x (List.mem_append_left _ hx)),
   gY hl hr.2 hq (fun x hx=>h1 x (List.mem_append_right _ hx)) (fun x hx=>h2 x (List.mem_append_right _ hx)),rfl⟩
theorem law_post {H:Type} {enc:TypeId×Value→H} {P:Program} {f:Func} {s:ChangeSpec} {W W':World} {args:Array Value} {ds gs:List (DataW H)} {before:List MemPlace} {b:TypeId}
  (hl:laidOutB P=true) (hr:(f.params.toList.all fun t=>P.readableRec t&&decide (t<P.types.size))=true) (hrt:f.resultTypes=#[b]) (hb:P.underlying b=some .bool)
  (hv:s.vars=[]) (hs:∀es:List (DataW H),es.length=f.params.size→s.fn H es={results:=[.lit (.bool true)],args:=es})
  (hW:DataW.Whole enc P f.params.toList s.vars false W args.toList ds gs before) (hB:Below W.heap.size W W'):
  s.post enc P f false true false false W args (.bool true) W':=by
 have hW':=hW;obtain⟨p,q,hA,hV,rfl,_,_⟩:=hW;rw[hv]at hV;obtain⟨rfl,rfl⟩:=trodVars_none hV;have hlt:∀x∈p,x.block<W.heap.size:=fun x hx=>hW'.lt x (by simpa using hx)
 have hlen:ds.length=f.params.size:=by
  have:∀{ts:List TypeId} {vs:List Value} {ds:List (DataW H)} {ps:List MemPlace},DataW.TrodAll enc P W 0 (fun _=>true) true ts vs ds ps→ds.length=ts.length:=by
   intro ts;induction ts with
   | nil=>intro vs ds ps h;obtain⟨_,rfl,_⟩:=trodAll_nil h;rfl
   | cons t ts ih=>intro vs ds ps h;obtain⟨_,_,_,_,_,_,_,rfl,_,_,hq⟩:=trodAll_cons h;simp[ih hq]
  simpa using this hA
 have e:=hs ds hlen;refine⟨ds,[],p++[],[],p,[],hW',?_,?_,?_,hB.frame _,fun h=>by cases h⟩
 ·rw[cK,e,hrt]
  exact trodAll_cons_mk (p:=[]) (shut_bool hb _) trodAll_mk0
 ·rw[cK,e]
  exact gY hl hr hA (fun x hx=>hB.same (hlt x hx)) (fun x hx=>by simpa using hlt x hx)
 ·rw[cK,e,hv]
  exact rfl
end
section
open Go.RowKit
theorem bcell {W w1:World} (hb:Below W.heap.size W w1):(∀b o,b<W.heap.size→w1.cell? ⟨b,o,none⟩=W.cell? ⟨b,o,none⟩)∧(∀b o,b<W.heap.size→w1.frozen? ⟨b,o,none⟩=W.frozen? ⟨b,o,none⟩):=
 ⟨fun b o h=>hb.cell (p:=⟨b,o,none⟩) h,fun b o h=>hb.frozen (p:=⟨b,o,none⟩) h⟩
theorem eu {B:Nat} {a w:World} (h:Below B a w) (n:Nat):Below B a (w.drewN n):=⟨h.os,h.tape,h.output,h.size,h.block⟩
theorem bdrew {B:Nat} {a w:World} (h:Below B a w):Below B a w.drew:=⟨h.os,h.tape,h.output,h.size,h.block⟩
theorem btrans {B C:Nat} {a b c:World} (h:Below B a b) (k:Below C b c) (hC:B≤C):Below B a c:=h.trans (k.mono hC)
theorem bset {B:Nat} {a w:World} {p:Addr} {u:Value} (h:Below B a w) (hp:B≤p.block):Below B a (w.setCell p u):=h.setCell hp u
theorem balloc {B:Nat} {a w:World} {o:Obj} (h:Below B a w) (hp:B≤w.heap.size):Below B a (w.alloc o):=h.alloc hp o
theorem dq {a b c:World} (h:Below a.heap.size a b) (k:Below b.heap.size b c):Below a.heap.size a c:=h.trans (k.mono h.size)
theorem de {a w:World} {o:Obj} (h:Below a.heap.size a w):Below a.heap.size a (w.alloc o):=h.alloc h.size o
theorem cZ {B:Nat} {a w:World} (h:Below B a w:=by repeat' (first | with_reducible (first | refine bset ?_ ?_ | exact ap _ _ | assumption | refine eu ?_ _ | refine bdrew ?_ | refine de ?_ | refine balloc ?_ ?_ | (apply dq;rotate_left;assumption) | (apply btrans;rotate_left;assumption)) | exact ap _ _ | assumption | (apply dq;rotate_left;assumption) | (apply btrans;rotate_left;assumption) | (simp;done) | omega | (simp;omega))):Below B a w:=h
theorem lN {k:IntKind} {a b:Int} (h:a=b):Ending.returned (.int k a)=Ending.returned (.int k b):=by rw[h]
open Go Go.RowKit
def B (l:List UInt8):ByteArray:=⟨l.toArray⟩
theorem gu (l:List UInt8):(B l).size=l.length:=by simp[B,ByteArray.size]
theorem B_app (a b:List UInt8):B a++B b=B (a++b):=ByteArray.mk_append_mk a b
theorem B_toList (l:List UInt8):(B l).toList=l:=by
 have h:∀(n i:Nat) (r:List UInt8),(B l).size - i=n→ByteArray.toList.loop (B l) i r=r.reverse++l.drop i:=by
  intro n;induction n with
  | zero=>
   intro i r hn;rw[gu]at hn;unfold ByteArray.toList.loop;rw[if_neg (by rw[gu];omega),List.drop_eq_nil_of_le (by omega),cK]
  | succ n ih=>
   intro i r hn;have hi:i<l.length:=by rw[gu]at hn;omega
   unfold ByteArray.toList.loop;rw[if_pos (by rw[gu];exact hi),ih (i+1) _ (by omega),bX hi];have:(B l).get! i=l[i]:=by
    show l.toArray[i]! =_
    simp[hi]
   rw[this];simp
 unfold ByteArray.toList;rw[h _ 0 [] rfl];simp
theorem pv (l:List UInt8) (a b:Nat):(B l).extract a b=B ((l.drop a).take (b-a)):=ByteArray.extract_mk l a b
theorem B_get (l:List UInt8) (i:Nat):(B l)[i]? =l[i]?:=by
 show(if h:i<(B l).size then some ((B l)[i])else none)=_
 by_cases h:i<l.length
 ·rw[dif_pos (by rw[gu];exact h),am h];rfl
 ·rw[dif_neg (by rw[gu];exact h),bj (by omega)]
theorem pw (l:List UInt8) (i:Nat) (h:i<(B l).size):(B l)[i]=l[i]'(by rw[gu]at h;exact h):=rfl
open Go Go.RowKit
section
variable {P:Program} {ops:Array Oper} {Q:Exit→Act→World→Prop} {md:Region.Mode} {S:World→Prop} {kd:List Nat}
def Turns (kd:List Nat) (S:World→Prop) (i:Nat) (w w':World):Prop:=
 (kd.getD i 2≤1→w'=w)∧(kd.getD i 2=2→S w')
def Live (kd:List Nat) (listed:Array Bool):Prop:=∃m,kd.getD m 2=1∧listed.getD m true=false
def Closed (md:Region.Mode) (ops:Array Oper) (listed:Array Bool):Prop:=
 ∀j oj,ops[j]? =some oj→listed.getD j false=true→∀e∈oj.after,Region.binds md e=true→listed.getD e.on false=true
def reachB (md:Region.Mode) (ops:Array Oper):Nat→Nat→Nat→Bool
 | 0,_,_=>false
 | f+1,e,m=>Region.waitsFor md ops e m || (List.range ops.size).any fun k=>Region.waitsFor md ops e k&&reachB md ops f k m
theorem ij {listed:Array Bool} (hc:Closed md ops listed):∀(f e m:Nat),reachB md ops f e m=true→(∀oe,ops[e]? =some oe→∀d∈oe.after,Region.binds md d=true→listed.getD d.on false=true)→listed.getD m false=true
 | 0,_,_,h,_=>by cases h
 | f+1,e,m,h,he=>by
  simp only[reachB,Bool.or_eq_true,List.any_eq_true,aQ]at h;rcases h with h | ⟨k,_,h1,h2⟩
  ·obtain⟨oe,hoe,d,hd,hb,hon⟩:=Region.waitsFor_spec h
   rw[←hon];exact he oe hoe d hd hb
  ·obtain⟨oe,hoe,d,hd,hb,hon⟩:=Region.waitsFor_spec h1
   have hk:listed.getD k false=true:=by rw[←hon];exact he oe hoe d hd hb
   exact ij hc f k m h2 fun ok hok d hd hb=>hc k ok hok hk d hd hb
def lateB (md:Region.Mode) (ops:Array Oper) (kd:List Nat):Bool:=
 decide (kd.length=ops.size)&&
 (List.range ops.size).all fun e=>kd.getD e 2 != 3 || (List.range ops.size).all fun m=>kd.getD m 2 != 1 || reachB md ops ops.size e m
theorem Closed.set {listed:Array Bool} {i:Nat} (inv:Closed md ops listed) (hi:i∈Region.ready md ops listed):Closed md ops (listed.setIfInBounds i true):=by
 obtain⟨_,oi,hoi,hall⟩:=mem_ready.1 hi;intro j oj hj hl e he hb;by_cases hij:i=j
 ·subst hij
  have:oj=oi:=Option.some.inj (hj.symm.trans hoi);subst this;exact getD_set_true (hall e he hb)
 ·rw[getD_set_ne false hij]at hl
  exact getD_set_true (inv j oj hj hl e he hb)
theorem k9 {listed:Array Bool} {j:Nat} (hB:lateB md ops kd=true) (hc:Closed md ops listed) (hj:j∈Region.ready md ops listed) (hk:kd.getD j 2=3):¬Live kd listed:=by
 rintro⟨m,hm,hl⟩;simp only[lateB,aQ,List.all_eq_true,List.mem_range,decide_eq_true_eq,Bool.or_eq_true,bne_iff_ne,ne_eq]at hB;obtain⟨hjun,oj,hoj,hall⟩:=mem_ready.1 hj;have hjlt:j<ops.size:=(ai.1 hoj).1;have hmlt:m<ops.size:=by
  rcases bq m ops.size with h | h
  ·exact h
  ·rw[aJ,bj (by omega)]at hm;simp at hm
 have h1:=(hB.2 j hjlt).resolve_left (fun h=>h hk) m hmlt;have h2:=h1.resolve_left (fun h=>h hm);have h3:=ij hc ops.size j m h2 (fun oe hoe d hd hb=>by
  have:oe=oj:=Option.some.inj (hoe.symm.trans hoj);subst this;exact hall d hd hb)
 rw[getD_both hl]at h3
 cases h3
def wpAnyM (P:Program) (md:Region.Mode) (ops:Array Oper) (Q:Exit→Act→World→Prop) (S:World→Prop) (kd:List Nat):Nat→Array Bool→Act→World→Prop
 | 0,listed,a,w=>Region.ready md ops listed=[]∧Q .normal a w
 | fuel+1,listed,a,w=>
  (Region.ready md ops listed=[]→Q .normal a w)∧
  ∀i∈Region.ready md ops listed,wpOp P ops Q i (fun a' w'=>Turns kd S i w w'∧wpAnyM P md ops Q S kd fuel (listed.setIfInBounds i true) a' w') a w
theorem gj:∀(fuel:Nat) (listed:Array Bool) (a:Act) (w:World),wpAnyM P md ops Q S kd fuel listed a w→wpAny P md ops Q fuel listed a w
 | 0,_,_,_,h=>h
 | fuel+1,_,_,_,h=>⟨h.1,fun i hi=>wpOp_mono (fun a' w' h'=>gj fuel _ a' w' h'.2) (h.2 i hi)⟩
theorem gw {listed:Array Bool} {i:Nat} (h:Live kd (listed.setIfInBounds i true)):Live kd listed:=by
 obtain⟨m,hm,hl⟩:=h;refine⟨m,hm,?_⟩
 by_cases e:i=m
 ·subst e
  rcases bq i listed.size with h' | h'
  ·simp[h']at hl
  ·simp at hl
 ·rwa [getD_set_ne true e]at hl
theorem dU {listed:Array Bool} {j:Nat} {w w':World} (hB:lateB md ops kd=true) (hc:Closed md ops listed) (hj:j∈Region.ready md ops listed)
  (hS:Live kd listed→S w) (ht:Turns kd S j w w') (hlt:kd.getD j 2≤3):Live kd (listed.setIfInBounds j true)→S w':=fun hl=>by
 have hl':=gw hl;by_cases h1:kd.getD j 2≤1
 ·rw[ht.1 h1];exact hS hl'
 ·by_cases h2:kd.getD j 2=2
  ·exact ht.2 h2
  ·exact absurd hl' (k9 hB hc hj (by omega))
def smallB (kd:List Nat):Bool:=kd.all fun k=>decide (k≤3)
theorem dQ (h:smallB kd=true) (j:Nat):kd.getD j 2≤3:=by
 rcases bq j kd.length with h' | h'
 ·rw[aJ,am h']
  simp only[smallB,List.all_eq_true,decide_eq_true_eq]at h;exact h _ (bY h')
 ·rw[aJ,bj h'];simp
theorem gk {i:Nat} {oi:Oper} {v:Value} (hB:lateB md ops kd=true) (hB2:smallB kd=true) (hi:ops[i]? =some oi) (hk:kd.getD i 2≤1) (hsel:∀(j:Nat) (o:Oper) cs b,ops[j]? =some o→o.op≠.select cs b)
  (hQ:∀c a w,Q (.panic c) (a.put oi.dst v) w→Q (.panic c) a w):
  ∀(fuel:Nat) (listed:Array Bool) (a:Act) (w:World),Closed md ops listed→
   (∀j oj,ops[j]? =some oj→j≠i→listed.getD j true=false→(∀e∈oj.after,Region.binds md e=true→e.on≠i)→oi.apart ops oj=true)→
   i∈Region.ready md ops listed→YieldsIf P ops (fun w=>kd.getD i 2=1→S w) oi v a→(Live kd listed→S w)→
   wpAnyM P md ops Q S kd fuel (listed.setIfInBounds i true) (a.put oi.dst v) w→wpAnyM P md ops Q S kd (fuel+1) listed a w:=by
 intro fuel;induction fuel with
 | zero=>
  intro listed a w _ _ hr hy hS H;refine⟨fun h=>(by rw[h]at hr;cases hr),fun j hj=>?_⟩
  by_cases hji:j=i
  ·subst hji;exact hy.wpOp hi (fun hm=>hS ⟨j,hm,(mem_ready.1 hr).1⟩) ⟨⟨fun _=>rfl,fun h=>by omega⟩,H⟩
  ·have:=ready_mono hj hji
   rw[H.1]at this
   cases this
 | succ fuel ih=>
  intro listed a w hc hfree hr hy hS H;refine⟨fun h=>(by rw[h]at hr;cases hr),fun j hj=>?_⟩
  by_cases hji:j=i
  ·subst hji;exact hy.wpOp hi (fun hm=>hS ⟨j,hm,(mem_ready.1 hr).1⟩) ⟨⟨fun _=>rfl,fun h=>by omega⟩,H⟩
  ·have h1:=H.2 j (ready_mono hj hji)
   obtain⟨hjun,oj,hoj,hall⟩:=mem_ready.1 hj;have hnot:∀e∈oj.after,Region.binds md e=true→e.on≠i:=fun e he hb heq=>by
    have h1:=hall e he hb;have h0:=(mem_ready.1 hr).1;rw[heq,getD_both h0]at h1
    cases h1
   have h2:=wpOp_putIf hoj (hfree j oj hoj hji hjun hnot) (fun cs b=>hsel i oi cs b hi) (fun cs b=>hsel j oj cs b hoj) hQ hy h1;have hfree':∀k ok,ops[k]? =some ok→k≠i→(listed.setIfInBounds j true).getD k true=false→
     (∀e∈ok.after,Region.binds md e=true→e.on≠i)→oi.apart ops ok=true:=fun k ok hk hki hun hno=>by
    refine hfree k ok hk hki ?_ hno
    by_cases hjk:j=k
    ·subst hjk;exact hjun
    ·rw[getD_set_ne true hjk]at hun;exact hun
   refine wpOp_mono (fun a' w' h3=>⟨h3.2.1,ih (listed.setIfInBounds j true) a' w' (hc.set hj) hfree' (ready_mono hr (Ne.symm hji)) h3.1 (dU hB hc hj hS h3.2.1 (dQ hB2 j)) ?_⟩) h2
   rw[Array.setIfInBounds_comm _ _ hji];exact h3.2.2
def planB (md:Region.Mode) (ops:Array Oper) (kd:List Nat):List Nat→Array Bool→Bool
 | [],listed=>(Region.ready md ops listed).isEmpty
 | i::r,listed=>
  (if kd.getD i 2≤1 then(Region.ready md ops listed).contains i&&Region.free md ops listed i else decide (Region.ready md ops listed=[i]))&&planB md ops kd r (listed.setIfInBounds i true)
def wpPlan (P:Program) (ops:Array Oper) (Q:Exit→Act→World→Prop) (S:World→Prop) (kd:List Nat):List Nat→Act→World→Prop
 | [],a,w=>Q .normal a w
 | i::r,a,w=>
  match ops[i]? with
  | none=>False
  | some o=>
   if kd.getD i 2≤1 then ∃v,YieldsIf P ops (fun w=>kd.getD i 2=1→S w) o v a∧wpPlan P ops Q S kd r (a.put o.dst v) w
   else if kd.getD i 2=2 then wpOp P ops Q i (fun a' w'=>S w'∧wpPlan P ops Q S kd r a' w') a w
   else wpOp P ops Q i (wpPlan P ops Q S kd r) a w
theorem fb (hB:lateB md ops kd=true) (hB2:smallB kd=true) (hsel:Region.noSelect ops=true) (hQ:∀c a a' w,Q (.panic c) a w→Q (.panic c) a' w):
  ∀(l:List Nat) (listed:Array Bool) (a:Act) (w:World),Closed md ops listed→planB md ops kd l listed=true→(Live kd listed→S w)→wpPlan P ops Q S kd l a w→wpAnyM P md ops Q S kd l.length listed a w
 | [],listed,a,w,_,hp,_,h=>⟨by simpa [planB]using hp,h⟩
 | i::r,listed,a,w,hc,hp,hS,h=>by
  simp only[planB,aQ]at hp;unfold wpPlan at h
  cases ho:ops[i]? with
  | none=>rw[ho]at h;exact h.elim
  | some o=>
   rw[ho]at h;simp only at h;by_cases hk:kd.getD i 2≤1
   ·rw[if_pos hk]at hp h
    obtain⟨v,hy,h'⟩:=h;have hr:i∈Region.ready md ops listed:=by have:=hp.1;simp only[aQ]at this;simpa using this.1
    have hf:Region.free md ops listed i=true:=by have:=hp.1;simp only[aQ]at this;exact this.2
    refine gk hB hB2 ho hk (Region.noSelect_spec hsel) (fun c a w=>hQ c _ _ w) r.length listed a w hc (Region.free_spec ho hf) hr hy hS ?_
    exact fb hB hB2 hsel hQ r _ _ _ (hc.set hr) hp.2 (fun hl=>hS (gw hl)) h'
   ·rw[if_neg hk]at hp h
    have hr:Region.ready md ops listed=[i]:=by simpa using hp.1
    have hri:i∈Region.ready md ops listed:=by rw[hr];simp
    refine⟨fun h0=>(by rw[hr]at h0;cases h0),fun j hj=>?_⟩
    have hji:j=i:=by rw[hr]at hj;simpa using hj
    subst hji;by_cases hk2:kd.getD j 2=2
    ·rw[if_pos hk2]at h
     refine wpOp_mono (fun a' w' h'=>?_) h
     have ht:Turns kd S j w w':=⟨fun h1=>absurd h1 hk,fun _=>h'.1⟩
     exact⟨ht,fb hB hB2 hsel hQ r _ _ _ (hc.set hri) hp.2 (dU hB hc hri hS ht (dQ hB2 j)) h'.2⟩
    ·rw[if_neg hk2]at h
     refine wpOp_mono (fun a' w' h'=>?_) h
     have ht:Turns kd S j w w':=⟨fun h1=>absurd h1 hk,fun h2=>absurd h2 hk2⟩
     exact⟨ht,fb hB hB2 hsel hQ r _ _ _ (hc.set hri) hp.2 (dU hB hc hri hS ht (dQ hB2 j)) h'⟩
def planAllB (md:Region.Mode) (ops:Array Oper) (kd l:List Nat):Bool:=
 lateB md ops kd&&smallB kd&&Region.noSelect ops&&decide (l.length=ops.size)&&planB md ops kd l (Array.replicate ops.size false)
def Calm (Q:Exit→Act→World→Prop):Exit→Act→World→Prop
 | .panic _,_,_=>False
 | e,a,w=>Q e a w
theorem Calm.imp {Q:Exit→Act→World→Prop} (e:Exit) (a:Act) (w:World) (h:Calm Q e a w):Q e a w:=by
 cases e<;>first | exact h | exact(h:False).elim
theorem dd {id:Nat} {a:Act} {w:World} (S:World→Prop) (kd l:List Nat) (hm:P.follows .mixedOrders=true) (hB:planAllB .any ops kd l=true)
  (hS:S w.drew) (h:wpPlan P ops (Calm Q) S kd l a w.drew):(Code.region id ops true).wp P Q a w:=by
 simp only[planAllB,aQ,decide_eq_true_eq]at hB;obtain⟨⟨⟨⟨h1,h2⟩,h3⟩,h4⟩,h5⟩:=hB;refine Code.wp_mono Calm.imp (wp_region_any hm (gj (S:=S) (kd:=kd) _ _ _ _ ?_))
 rw[←h4];refine fb h1 h2 h3 (fun _ _ _ _ h=>h) l _ a _ (fun j oj _ hl=>?_) (by rw[h4];exact h5) (fun _=>hS) h
 rw[getD_replicate_false]at hl;cases hl
theorem eq {l r:List Oper} {o:Oper} {i:Nat} (h:l.drop i=o::r):l.toArray[i]? =some o:=by
 have:=List.getElem?_drop (xs:=l) (i:=i) (j:=0);rw[h]at this;simpa using this.symm
theorem cX {l rl:List Oper} {i:Nat} {r:List Nat} {o:Oper} {v:Value} {a:Act} {w:World} (hd:l.drop i=o::rl) (hk:kd.getD i 2≤1) (hw:Region.wanted o (yielded l.toArray a.tmps)=true)
  (hy:∀w,(kd.getD i 2=1→S w)→(execOp a.eval o).run P w= .ok (.value v) w) (h:wpPlan P l.toArray Q S kd r (a.put o.dst v) w):wpPlan P l.toArray Q S kd (i::r) a w:=by
 have ho:=eq hd;unfold wpPlan;rw[ho];simp only;rw[if_pos hk];exact⟨v,.inl ⟨hw,hy⟩,h⟩
theorem dm {l rl:List Oper} {i:Nat} {r:List Nat} {o:Oper} {a:Act} {w:World} (hd:l.drop i=o::rl) (hk:kd.getD i 2≤1) (hw:Region.wanted o (yielded l.toArray a.tmps)=false)
  (h:wpPlan P l.toArray Q S kd r (a.put o.dst undef) w):wpPlan P l.toArray Q S kd (i::r) a w:=by
 have ho:=eq hd;unfold wpPlan;rw[ho];simp only;rw[if_pos hk];exact⟨undef,.inr ⟨hw,rfl⟩,h⟩
theorem dA {l rl:List Oper} {i:Nat} {r:List Nat} {o:Oper} {a:Act} {w:World} (hd:l.drop i=o::rl) (hk:kd.getD i 2=2) (hw:Region.wanted o (yielded l.toArray a.tmps)=true)
  (h:∀K:Act→World→Prop,(∀a' w',S w'→wpPlan P l.toArray Q S kd r a' w'→K a' w')→Oper.wp P o a w K Q):wpPlan P l.toArray Q S kd (i::r) a w:=by
 have ho:=eq hd;unfold wpPlan;rw[ho];simp only;rw[if_neg (by omega),if_pos hk];unfold wpOp;simp only[ho,hw,if_true];exact .inl (h _ fun a' w' h1 h2=>⟨h1,h2⟩)
theorem di {l rl:List Oper} {i:Nat} {r:List Nat} {o:Oper} {a:Act} {w:World} (hd:l.drop i=o::rl) (hk:kd.getD i 2=3) (hw:Region.wanted o (yielded l.toArray a.tmps)=true)
  (h:∀K:Act→World→Prop,(∀a' w',wpPlan P l.toArray Q S kd r a' w'→K a' w')→Oper.wp P o a w K Q):wpPlan P l.toArray Q S kd (i::r) a w:=by
 have ho:=eq hd;unfold wpPlan;rw[ho];simp only;rw[if_neg (by omega),if_neg (by omega)];unfold wpOp;simp only[ho,hw,if_true];exact .inl (h _ fun a' w' h2=>h2)
theorem du {a:Act} {w:World} (h:Q .normal a w):wpPlan P ops (Calm Q) S kd [] a w:=h
end
open Go Go.RowKit
section
variable {F:Fence} {n:Nat} {P:Program} {ops:Array Oper} {Q:Exit→Act→World→Prop} {md:Region.Mode} {S:World→Prop} {kd:List Nat}
theorem gK {o:Oper} (h:∀c,o.op≠.defer c) (r:Option Nat) (ρ:Operand→Value):o.semAt r ρ=execOp ρ o:=by
 cases r with
 | none=>exact Oper.semAt_none ρ o
 | some l=>exact Oper.semAt_some l ρ o h
def noDefer (ops:Array Oper):Bool:=ops.all fun o=>match o.op with | .defer _=>false | _=>true
theorem ik {ops:Array Oper} (h:noDefer ops=true) {j:Nat} {o:Oper} (hj:ops[j]? =some o):∀c,o.op≠.defer c:=by
 intro c hc;obtain⟨hlt,rfl⟩:=ai.1 hj;have:=(Array.all_eq_true.1 h) j hlt;rw[hc]at this
 cases this
def YieldsIfIn (P:Program) (ops:Array Oper) (S:World→Prop) (o:Oper) (v:Value) (a:Act):Prop:=YieldsIf P ops S o v a∧∀w,o.about P w a.eval=none
theorem YieldsIfIn.wpOp (nd:noDefer ops=true) {i:Nat} {o:Oper} {v:Value} {a:Act} (hi:ops[i]? =some o) (hy:YieldsIfIn P ops S o v a)
  {K:Act→World→Prop} {w:World} (hS:S w) (h:K (a.put o.dst v) w):wpOpIn F n P ops Q i K a w:=by
 unfold Go.wpOpIn;simp only[hi];have hab:∀f,o.about P w a.eval=some f→F.fn f:=fun f hf=>by rw[hy.2 w]at hf;cases hf
 rcases hy.1 with⟨hw,hv⟩ | ⟨hw,rfl⟩
 ·simp only[hw,if_true,Oper.wpIn,gK (ik nd hi),hv w hS,Oper.uponIn];exact⟨hab,h⟩
 ·simp only[hw,Bool.false_eq_true,if_false];exact⟨hab,h⟩
theorem YieldsIfIn.of_same {o:Oper} {v:Value} {a a':Act} (hy:YieldsIfIn P ops S o v a) (he:execOp a'.eval o=execOp a.eval o)
  (hw:Region.wanted o (yielded ops a'.tmps)=Region.wanted o (yielded ops a.tmps)) (hb:∀w,o.about P w a'.eval=o.about P w a.eval):YieldsIfIn P ops S o v a':=
 ⟨hy.1.of_same he hw,fun w=>by rw[hb w];exact hy.2 w⟩
theorem lO (nd:noDefer ops=true) {j:Nat} {oi oj:Oper} {v:Value} (hj:ops[j]? =some oj) (hap:oi.apart ops oj=true)
  (hsi:∀cs b,oi.op≠.select cs b) (hsj:∀cs b,oj.op≠.select cs b)
  (hQ:∀c a w,Q (.panic c) (a.put oi.dst v) w→Q (.panic c) a w) {K:Act→World→Prop} {a:Act} {w:World}
  (hy:YieldsIfIn P ops S oi v a) (h:wpOpIn F n P ops Q j K (a.put oi.dst v) w):
  wpOpIn F n P ops Q j (fun a' w'=>YieldsIfIn P ops S oi v a'∧K (a'.put oi.dst v) w') a w:=by
 obtain⟨h1,h2,h3⟩:=Oper.apart_spec hap;have keep:∀(a:Act),YieldsIfIn P ops S oi v a→∀u,YieldsIfIn P ops S oi v (a.put oj.dst u):=fun a hy u=>
  hy.of_same (execOp_put oi hsi a oj.dst u h3) (wanted_put oi a oj.dst u h3) (fun w=>about_put oi w a oj.dst u h3)
 have keepD:∀d,YieldsIfIn P ops S oi v {a with defers:=d::a.defers}:=fun d=>hy.of_same rfl rfl (fun _=>rfl)
 have nj:=ik nd hj;unfold wpOpIn at*;simp only[hj]at*;rw[wanted_put oj a oi.dst v h1,about_put oj w a oi.dst v h1]at h;split
 ·rename_i hw
  simp only[hw,if_true]at h;unfold Oper.wpIn at*;rw[about_put oj w a oi.dst v h1]at h;refine⟨h.1,?_⟩
  have h:=h.2;rw[gK nj,execOp_put oj hsj a oi.dst v h1]at h;rw[gK nj];generalize (execOp a.eval oj).run P w=r at*
  cases r with
  | ok x w'=>
   cases x<;>simp only[Oper.uponIn]at h ⊢
   case value u=>exact⟨keep a hy u,by rw[←Act.put_comm a v u h2];exact h⟩
   case skip=>exact⟨keep a hy _,by rw[←Act.put_comm a v undef h2];exact h⟩
   case defer d=>
    refine⟨keep _ (keepD d) _,?_⟩
    rw[←Act.put_comm _ v undef h2,←Act.put_defers];exact h
   case enter f args=>
    refine⟨h.1,CallsIn.mono h.2 fun e w'' he=>?_⟩
    cases e with
    | returned u=>exact⟨keep a hy u,by rw[←Act.put_comm a v u h2];exact he⟩
    | panicked c=>exact hQ _ _ _ he
    | outgrown=>exact he
   case row row args=>exact⟨h.1,RowsIn.mono h.2 fun u w'' he=>⟨keep a hy u,by rw[←Act.put_comm a v u h2];exact he⟩⟩
   case round l f tmps assign body=>
    refine⟨h.1,RoundIn.mono h.2 fun e w'' he=>?_⟩
    cases e with
    | returned u=>exact⟨keep a hy u,by rw[←Act.put_comm a v u h2];exact he⟩
    | panicked c=>exact hQ _ _ _ he
    | outgrown=>exact he
  | halt x w'=>
   cases x<;>simp only[Oper.uponIn]at h ⊢
   case panic u=>exact hQ _ _ _ h
 ·rename_i hw
  simp only[hw]at h;exact⟨h.1,keep a hy _,by rw[←Act.put_comm a v undef h2];exact h.2⟩
def wpAnyMI (F:Fence) (n:Nat) (P:Program) (md:Region.Mode) (ops:Array Oper) (Q:Exit→Act→World→Prop) (S:World→Prop) (kd:List Nat):Nat→Array Bool→Act→World→Prop
 | 0,listed,a,w=>Region.ready md ops listed=[]∧Q .normal a w
 | fuel+1,listed,a,w=>
  (Region.ready md ops listed=[]→Q .normal a w)∧
  ∀i∈Region.ready md ops listed,wpOpIn F n P ops Q i (fun a' w'=>Turns kd S i w w'∧wpAnyMI F n P md ops Q S kd fuel (listed.setIfInBounds i true) a' w') a w
theorem il:∀(fuel:Nat) (listed:Array Bool) (a:Act) (w:World),wpAnyMI F n P md ops Q S kd fuel listed a w→wpAnyIn F n P md ops Q fuel listed a w
 | 0,_,_,_,h=>h
 | fuel+1,_,_,_,h=>⟨h.1,fun i hi=>wpOpIn_mono (fun a' w' h'=>il fuel _ a' w' h'.2) (h.2 i hi)⟩
theorem ld {i:Nat} {oi:Oper} {v:Value} (nd:noDefer ops=true) (hB:lateB md ops kd=true) (hB2:smallB kd=true) (hi:ops[i]? =some oi) (hk:kd.getD i 2≤1) (hsel:∀(j:Nat) (o:Oper) cs b,ops[j]? =some o→o.op≠.select cs b)
  (hQ:∀c a w,Q (.panic c) (a.put oi.dst v) w→Q (.panic c) a w):
  ∀(fuel:Nat) (listed:Array Bool) (a:Act) (w:World),Closed md ops listed→
   (∀j oj,ops[j]? =some oj→j≠i→listed.getD j true=false→(∀e∈oj.after,Region.binds md e=true→e.on≠i)→oi.apart ops oj=true)→
   i∈Region.ready md ops listed→YieldsIfIn P ops (fun w=>kd.getD i 2=1→S w) oi v a→(Live kd listed→S w)→
   wpAnyMI F n P md ops Q S kd fuel (listed.setIfInBounds i true) (a.put oi.dst v) w→wpAnyMI F n P md ops Q S kd (fuel+1) listed a w:=by
 intro fuel;induction fuel with
 | zero=>
  intro listed a w _ _ hr hy hS H;refine⟨fun h=>(by rw[h]at hr;cases hr),fun j hj=>?_⟩
  by_cases hji:j=i
  ·subst hji;exact hy.wpOp nd hi (fun hm=>hS ⟨j,hm,(mem_ready.1 hr).1⟩) ⟨⟨fun _=>rfl,fun h=>by omega⟩,H⟩
  ·have:=ready_mono hj hji
   rw[H.1]at this
   cases this
 | succ fuel ih=>
  intro listed a w hc hfree hr hy hS H;refine⟨fun h=>(by rw[h]at hr;cases hr),fun j hj=>?_⟩
  by_cases hji:j=i
  ·subst hji;exact hy.wpOp nd hi (fun hm=>hS ⟨j,hm,(mem_ready.1 hr).1⟩) ⟨⟨fun _=>rfl,fun h=>by omega⟩,H⟩
  ·have h1:=H.2 j (ready_mono hj hji)
   obtain⟨hjun,oj,hoj,hall⟩:=mem_ready.1 hj;have hnot:∀e∈oj.after,Region.binds md e=true→e.on≠i:=fun e he hb heq=>by
    have h1:=hall e he hb;have h0:=(mem_ready.1 hr).1;rw[heq,getD_both h0]at h1
    cases h1
   have h2:=lO nd hoj (hfree j oj hoj hji hjun hnot) (fun cs b=>hsel i oi cs b hi) (fun cs b=>hsel j oj cs b hoj) hQ hy h1;have hfree':∀k ok,ops[k]? =some ok→k≠i→(listed.setIfInBounds j true).getD k true=false→
     (∀e∈ok.after,Region.binds md e=true→e.on≠i)→oi.apart ops ok=true:=fun k ok hk hki hun hno=>by
    refine hfree k ok hk hki ?_ hno
    by_cases hjk:j=k
    ·subst hjk;exact hjun
    ·rw[getD_set_ne true hjk]at hun;exact hun
   refine wpOpIn_mono (fun a' w' h3=>⟨h3.2.1,ih (listed.setIfInBounds j true) a' w' (hc.set hj) hfree' (ready_mono hr (Ne.symm hji)) h3.1 (dU hB hc hj hS h3.2.1 (dQ hB2 j)) ?_⟩) h2
   rw[Array.setIfInBounds_comm _ _ hji];exact h3.2.2
def wpPlanIn (F:Fence) (n:Nat) (P:Program) (ops:Array Oper) (Q:Exit→Act→World→Prop) (S:World→Prop) (kd:List Nat):List Nat→Act→World→Prop
 | [],a,w=>Q .normal a w
 | i::r,a,w=>
  match ops[i]? with
  | none=>False
  | some o=>
   if kd.getD i 2≤1 then ∃v,YieldsIfIn P ops (fun w=>kd.getD i 2=1→S w) o v a∧wpPlanIn F n P ops Q S kd r (a.put o.dst v) w
   else if kd.getD i 2=2 then wpOpIn F n P ops Q i (fun a' w'=>S w'∧wpPlanIn F n P ops Q S kd r a' w') a w
   else wpOpIn F n P ops Q i (wpPlanIn F n P ops Q S kd r) a w
theorem eN (nd:noDefer ops=true) (hB:lateB md ops kd=true) (hB2:smallB kd=true) (hsel:Region.noSelect ops=true) (hQ:∀c a a' w,Q (.panic c) a w→Q (.panic c) a' w):
  ∀(l:List Nat) (listed:Array Bool) (a:Act) (w:World),Closed md ops listed→planB md ops kd l listed=true→(Live kd listed→S w)→wpPlanIn F n P ops Q S kd l a w→wpAnyMI F n P md ops Q S kd l.length listed a w
 | [],listed,a,w,_,hp,_,h=>⟨by simpa [planB]using hp,h⟩
 | i::r,listed,a,w,hc,hp,hS,h=>by
  simp only[planB,aQ]at hp;unfold wpPlanIn at h
  cases ho:ops[i]? with
  | none=>rw[ho]at h;exact h.elim
  | some o=>
   rw[ho]at h;simp only at h;by_cases hk:kd.getD i 2≤1
   ·rw[if_pos hk]at hp h
    obtain⟨v,hy,h'⟩:=h;have hr:i∈Region.ready md ops listed:=by have:=hp.1;simp only[aQ]at this;simpa using this.1
    have hf:Region.free md ops listed i=true:=by have:=hp.1;simp only[aQ]at this;exact this.2
    refine ld nd hB hB2 ho hk (Region.noSelect_spec hsel) (fun c a w=>hQ c _ _ w) r.length listed a w hc (Region.free_spec ho hf) hr hy hS ?_
    exact eN nd hB hB2 hsel hQ r _ _ _ (hc.set hr) hp.2 (fun hl=>hS (gw hl)) h'
   ·rw[if_neg hk]at hp h
    have hr:Region.ready md ops listed=[i]:=by simpa using hp.1
    have hri:i∈Region.ready md ops listed:=by rw[hr];simp
    refine⟨fun h0=>(by rw[hr]at h0;cases h0),fun j hj=>?_⟩
    have hji:j=i:=by rw[hr]at hj;simpa using hj
    subst hji;by_cases hk2:kd.getD j 2=2
    ·rw[if_pos hk2]at h
     refine wpOpIn_mono (fun a' w' h'=>?_) h
     have ht:Turns kd S j w w':=⟨fun h1=>absurd h1 hk,fun _=>h'.1⟩
     exact⟨ht,eN nd hB hB2 hsel hQ r _ _ _ (hc.set hri) hp.2 (dU hB hc hri hS ht (dQ hB2 j)) h'.2⟩
    ·rw[if_neg hk2]at h
     refine wpOpIn_mono (fun a' w' h'=>?_) h
     have ht:Turns kd S j w w':=⟨fun h1=>absurd h1 hk,fun h2=>absurd h2 hk2⟩
     exact⟨ht,eN nd hB hB2 hsel hQ r _ _ _ (hc.set hri) hp.2 (dU hB hc hri hS ht (dQ hB2 j)) h'⟩
theorem dN {id:Nat} {a:Act} {w:World} (S:World→Prop) (kd l:List Nat) (hm:P.follows .mixedOrders=true) (hB:(noDefer ops&&planAllB .any ops kd l)=true)
  (hS:S w.drew) (h:wpPlanIn F n P ops (Calm Q) S kd l a w.drew):(Code.region id ops true).wpIn F n P Q a w:=by
 simp only[planAllB,aQ,decide_eq_true_eq]at hB;obtain⟨nd,⟨⟨⟨h1,h2⟩,h3⟩,h4⟩,h5⟩:=hB;refine Code.wpIn_mono Calm.imp (wpIn_region_any hm (il (S:=S) (kd:=kd) _ _ _ _ ?_))
 rw[←h4];refine eN nd h1 h2 h3 (fun _ _ _ _ h=>h) l _ a _ (fun j oj _ hl=>?_) (by rw[h4];exact h5) (fun _=>hS) h
 rw[getD_replicate_false]at hl;cases hl
theorem dP {l rl:List Oper} {i:Nat} {r:List Nat} {o:Oper} {v:Value} {a:Act} {w:World} (hd:l.drop i=o::rl) (hk:kd.getD i 2≤1) (hw:Region.wanted o (yielded l.toArray a.tmps)=true)
  (hb:∀w,o.about P w a.eval=none) (hy:∀w,(kd.getD i 2=1→S w)→(execOp a.eval o).run P w= .ok (.value v) w) (h:wpPlanIn F n P l.toArray Q S kd r (a.put o.dst v) w):wpPlanIn F n P l.toArray Q S kd (i::r) a w:=by
 have ho:=eq hd;unfold wpPlanIn;rw[ho];simp only;rw[if_pos hk];exact⟨v,⟨.inl ⟨hw,hy⟩,hb⟩,h⟩
theorem gm {l rl:List Oper} {i:Nat} {r:List Nat} {o:Oper} {a:Act} {w:World} (hd:l.drop i=o::rl) (hk:kd.getD i 2=2) (hw:Region.wanted o (yielded l.toArray a.tmps)=true)
  (h:∀K:Act→World→Prop,(∀a' w',S w'→wpPlanIn F n P l.toArray Q S kd r a' w'→K a' w')→Oper.wpIn F n P o a w K Q):wpPlanIn F n P l.toArray Q S kd (i::r) a w:=by
 have ho:=eq hd;unfold wpPlanIn;rw[ho];simp only;rw[if_neg (by omega),if_pos hk];unfold wpOpIn;simp only[ho,hw,if_true];exact h _ fun a' w' h1 h2=>⟨h1,h2⟩
theorem fi {l rl:List Oper} {i:Nat} {r:List Nat} {o:Oper} {a:Act} {w:World} (hd:l.drop i=o::rl) (hk:kd.getD i 2=3) (hw:Region.wanted o (yielded l.toArray a.tmps)=true)
  (h:∀K:Act→World→Prop,(∀a' w',wpPlanIn F n P l.toArray Q S kd r a' w'→K a' w')→Oper.wpIn F n P o a w K Q):wpPlanIn F n P l.toArray Q S kd (i::r) a w:=by
 have ho:=eq hd;unfold wpPlanIn;rw[ho];simp only;rw[if_neg (by omega),if_neg (by omega)];unfold wpOpIn;simp only[ho,hw,if_true];exact h _ fun a' w' h2=>h2
theorem ev {a:Act} {w:World} (h:Q .normal a w):wpPlanIn F n P ops (Calm Q) S kd [] a w:=h
theorem jw {o:Oper} {a:Act} {w w':World} {v:Value} {K:Act→World→Prop} (nd:∀c,o.op≠.defer c) (hb:o.about P w a.eval=none) (hr:(execOp a.eval o).run P w= .ok (.value v) w') (h:K (a.put o.dst v) w'):Oper.wpIn F n P o a w K Q:=by
 unfold Oper.wpIn;rw[gK nd,hr];exact⟨(fun f hf=>by rw[hb]at hf;cases hf),h⟩
theorem iZ {o:Oper} {a:Act} {w:World} {K:Act→World→Prop} (s x:Operand) (t:TypeId)
  (ho:o.op= .call {callee:=.builtin .append,args:=#[s,x],argTypes:=#[t,t]}) (hb:o.about P w a.eval=none)
  (base:Nat) (e:TypeId) (i:TypeInfo) (z:Value) (size bytes:Nat) (ht:P.underlying t=some (.slice e)) (hi:P.info? e=some i) (hz:i.zero=some z)
  (hsize:i.size=size) (hby:i.bytes=bytes) (hzs:z.cells.size=size) (hsz:0<size)
  (v:Value) (m:Nat) (xs:List Value) (hs:a.eval s=v) (hown:w.ownsRow base e size v m xs)
  (ad:Addr) (k c:Nat) (news:List Value) (hx:a.eval x= .slice (some ad) k c) (hl:news.length=k*size) (hnews:∀j u,news[j]? =some u→w.cell? (ad.add j)=some u) (h1:∀u∈news,u.oneCell'=true)
  (hm:0<k) (h63:m+k≤maxLen) (hbytes:(m+k)*bytes≤140737488355328) (hbase:base≤w.heap.size) (H:Nat) (hH:w.heap.size=H)
  (h:∀g cap w',w'.ownsRow base e size (.slice (some ⟨g,0,none⟩) (m+k) cap) (m+k) (xs++news)→w.grownBy w' v.ownBlock→(v.ownBlock=some g∨g=H)→g<w'.heap.size→K (a.put o.dst (.slice (some ⟨g,0,none⟩) (m+k) cap)) w'):Oper.wpIn F n P o a w K Q:=by
 obtain⟨g,cap,w',hr,h2,h3,h4,h5⟩:=run_append_lies (P:=P) w t o.type base e i z size bytes ht hi hz hsize hby hzs hsz v m xs hown ad k c news hl hnews h1 hm h63 hbytes hbase H hH;refine jw (v:=.slice (some ⟨g,0,none⟩) (m+k) cap) (w':=w') (fun c hc=>by rw[ho]at hc;cases hc) hb ?_ (h g cap w' h2 h3 h4 h5)
 unfold execOp;simp only[ho,resolve,invoke,builtin,Sem.run_bind,Sem.run_pure,Result.andThen_ok,List.map_toArray,List.map_cons,List.map_nil,hs,hx,hr]
end
open Go Go.RowKit
section
variable {P:Program} {ops:Array Oper} {Q:Exit→Act→World→Prop} {md:Region.Mode} {S:World→Prop} {kd:List Nat}
end
end
section
open Go Go.RowKit
open Go Go.RowKit
theorem eG {α:Type} (enc:α→List Value) (s:Nat) (hs:∀x,(enc x).length=s):∀(l:List α) (i k:Nat),k<s→(l.flatMap enc)[i*s+k]? =(l[i]?).bind fun x=>(enc x)[k]?
 | [],i,k,hk=>by simp
 | x::r,0,k,hk=>by
  rw[cG,Nat.zero_mul,bx,bH (by rw[hs];exact hk)];simp
 | x::r,i+1,k,hk=>by
  rw[cG,bz (by rw[hs,Nat.succ_mul];omega),hs];rw[show(i+1)*s+k-s=i*s+k by rw[Nat.succ_mul];omega,eG enc s hs r i k hk];simp
theorem ef {α:Type} (enc:α→List Value) (s:Nat) (hs:∀x,(enc x).length=s) (l:List α):(l.flatMap enc).length=l.length*s:=by
 induction l with
 | nil=>simp
 | cons x r ih=>rw[cG,ay,hs,ih,aI,Nat.succ_mul];omega
theorem px {α:Type} (enc:α→List Value) (s:Nat) (h0:0<s) (hs:∀x,(enc x).length=s) {l:List α} {j:Nat} {u:Value} (h:(l.flatMap enc)[j]? =some u):∃i k x,j=i*s+k∧k<s∧l[i]? =some x∧(enc x)[k]? =some u:=by
 have e:j=j / s*s+j % s:=by rw[Nat.mul_comm];exact(Nat.div_add_mod j s).symm
 have hk:=Nat.mod_lt j h0;rw[e,eG enc s hs l _ _ hk]at h
 cases hx:l[j / s]? with
 | none=>rw[hx]at h;simp at h
 | some x=>rw[hx]at h;exact⟨_,_,x,e,hk,hx,h⟩
theorem fj (b o j:Nat):(⟨b,o,none⟩:Addr).add j=⟨b,o+j,none⟩:=by
 unfold Addr.add;split
 ·rename_i h;simp[h]
 ·simp
def RFrom (N:Nat) (v:Value):Prop:=∀(a:Addr) (n c:Nat),v= .slice (some a) n c→N≤a.block
theorem dI {W:World} {g:Nat} {t:TypeId} {cs:List Value} (h:W.heap[g]? =some (.cells cs.toArray t (0,0))):∀j u,cs[j]? =some u→W.cell? ((⟨g,0,none⟩:Addr).add j)=some u:=by
 intro j u hu;rw[fj,bx];have:=cell_of_row W g j cs.toArray t (0,0) h;rw[this];simpa using hu
theorem cW {W:World} {o:Obj}:(W.alloc o).heap[W.heap.size]? =some o:=heap_alloc_new W o
theorem cY {W:World} {o:Obj} {k:Nat} (hk:k=W.heap.size):(W.alloc o).heap[k]? =some o:=by subst hk;exact heap_alloc_new W o
open Go Go.RowKit
theorem cU {w:World} {g:Nat} {t:TypeId} {cs:Array Value} (h:w.heap[g]? =some (.cells cs t (0,0))) (o:Nat):w.cell? ⟨g,o,none⟩=cs[o]?:=cell_of_row w g o cs t (0,0) h
theorem dC {w:World} {g:Nat} {t:TypeId} {cs:Array Value} (h:w.heap[g]? =some (.cells cs t (0,0))) (o:Nat):w.frozen? ⟨g,o,none⟩=false:=by simp[World.frozen?,h]
theorem eD {w:World} {g:Nat} {t:TypeId} {cs:Array Value} (h:w.heap[g]? =some (.cells cs t (0,0))) (o:Nat) (u:Value):(w.setCell ⟨g,o,none⟩ u).heap[g]? =some (.cells (cs.setIfInBounds o u) t (0,0)):=by
 simp[World.setCell,Array.getElem?_modify,h]
theorem ownC {A B':World} {row:Option Nat} {Pr:Nat→Prop} (hg:A.grownBy B' row) (hr:∀r,row=some r→Pr r∧∃o:Obj,A.heap[r]? =some o∧o.isCells=false) (q:Nat) (cs:Array Value) (e:TypeId) (f:Nat×Nat) (hq:A.heap[q]? =some (.cells cs e f)):B'.heap[q]? =A.heap[q]?:=by
 have hlt:q<A.heap.size:=by
  rcases bq q A.heap.size with h | h
  ·exact h
  ·rw[bQ h]at hq;cases hq
 refine hg.block q hlt (fun e'=>?_)
 obtain⟨_,o,ho,hc⟩:=hr q e'.symm;rw[hq]at ho;injection ho with ho
 subst ho
 cases hc
open Go Go.RowKit
def KpX (n₀ z:Nat) (A B:World):Prop:=A.heap.size≤B.heap.size∧∀k,k<n₀→k≠z→B.heap[k]? =A.heap[k]?
theorem KpX.refl (n₀ z:Nat) (A:World):KpX n₀ z A A:=⟨aj _,fun _ _ _=>rfl⟩
theorem KpX.trans {n₀ z:Nat} {A B C:World} (h:KpX n₀ z A B) (k:KpX n₀ z B C):KpX n₀ z A C:=⟨aK h.1 k.1,fun q h1 h2=>(k.2 q h1 h2).trans (h.2 q h1 h2)⟩
theorem KpX.putObj {n₀ z l:Nat} (W:World) (o:Obj) (h:n₀≤l):KpX n₀ z W (W.putObj l o):=
 ⟨(grownBy_putObj' W l o).size,fun k hk _=>by
  rcases bq k W.heap.size with hlt | hge
  ·exact(grownBy_putObj' W l o).block k hlt (fun e=>by injection e with e;omega)
  ·have:(W.putObj l o).heap.size=W.heap.size:=by simp[World.putObj]
   rw[bQ hge,bQ (by omega)]⟩
end
end Go.Proofs.YtfnciigbbolckaaGreat
