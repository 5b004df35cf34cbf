/- Part 2 of the proof about mailboattop.TopOthers. No condition. -/
import Derived.Test.YtfnciigbbolckaaGreatQ00
import Derived.Test.YtfnciigbbolckaaGreatQ01
set_option linter.unusedVariables false
set_option linter.unusedSimpArgs false
set_option maxRecDepth 100000
set_option maxHeartbeats 64000000
namespace Go.Proofs.YtfnciigbbolckaaGreat
section
namespace Iv
abbrev Sp:=Int×Int
def inS (l:List Sp) (t:Int):Bool:=l.any fun x=>decide (x.1≤t)&&decide (t<x.2)
theorem io {l:List Sp} {t:Int}:inS l t=true↔∃x∈l,x.1≤t∧t<x.2:=by
 unfold inS;simp[List.any_eq_true]
theorem eP (t:Int):inS [] t=false:=rfl
theorem dM (x:Sp) (r:List Sp) (t:Int):inS (x::r) t=((decide (x.1≤t)&&decide (t<x.2)) || inS r t):=rfl
def NF:Int→List Sp→Prop
 | _,[]=>True
 | b,x::r=>b<x.1∧x.1<x.2∧NF x.2 r
theorem NF.lo {b:Int} {l:List Sp} (h:NF b l):∀x∈l,b<x.1∧x.1<x.2:=by
 induction l generalizing b with
 | nil=>intro x hx;cases hx
 | cons y r ih=>
  intro x hx;obtain⟨h1,h2,h3⟩:=h;rcases aG.1 hx with rfl | hx
  ·exact⟨h1,h2⟩
  ·have:=ih h3 x hx
   omega
theorem NF.le {b c:Int} {l:List Sp} (h:NF b l) (hc:c≤b):NF c l:=by
 cases l with
 | nil=>trivial
 | cons y r=>exact⟨by have:=h.1;omega,h.2.1,h.2.2⟩
theorem NF.out {b t:Int} {l:List Sp} (h:NF b l) (ht:t≤b):inS l t=false:=by
 rw[Bool.eq_false_iff];intro hc;obtain⟨x,hx,h1,h2⟩:=io.1 hc;have:=h.lo x hx;omega
theorem NF.uniq {l:List Sp}:∀{m:List Sp} {b c:Int},NF b l→NF c m→(∀t,inS l t=inS m t)→l=m:=by
 induction l with
 | nil=>
  intro m b c _ h h2
  cases m with
  | nil=>rfl
  | cons y s=>
   have:=h2 y.1;rw[eP,dM]at this;have:=h.2.1;simp at*
   omega
 | cons x r ih=>
  intro m b c hl hm h
  cases m with
  | nil=>
   have:=h x.1;rw[eP,dM]at this;have:=hl.2.1;simp at*
   omega
  | cons y s=>
   obtain⟨a1,a2,a3⟩:=hl;obtain⟨b1,b2,b3⟩:=hm;have e1:x.1=y.1:=by
    have p:=h x.1;have q:=h y.1;rw[dM,dM]at p q;rcases Int.lt_trichotomy x.1 y.1 with z | z | z
    ·have:=NF.out (t:=x.1) b3 (by omega)
     rw[this,decide_eq_true (aR _),decide_eq_true a2,decide_eq_false (show ¬y.1≤x.1 by omega)]at p;simp at p
    ·exact z
    ·have:=NF.out (t:=y.1) a3 (by omega)
     rw[this,decide_eq_true (aR _),decide_eq_true b2,decide_eq_false (show ¬x.1≤y.1 by omega)]at q;simp at q
   have e2:x.2=y.2:=by
    have p:=h x.2;have q:=h y.2;rw[dM,dM]at p q;rcases Int.lt_trichotomy x.2 y.2 with z | z | z
    ·rw[NF.out a3 (by omega)]at p
     simp at p
     omega
    ·exact z
    ·rw[NF.out b3 (by omega)]at q
     simp at q
     omega
   have hxy:x=y:=Prod.ext e1 e2;subst hxy;rw[ih a3 b3 (fun t=>?_)];have p:=h t;rw[dM,dM]at p;rcases Int.lt_or_le x.2 t with z | z
   ·rw[show decide (t<x.2)=false from by simp;omega]at p
    simpa using p
   ·rw[NF.out a3 z,NF.out b3 z]
def outs (m:Int):Int→List Sp→List Sp
 | f,[]=>if f<m then[(f,m)]else[]
 | f,x::r=>if f<x.1 then(f,x.1)::outs m x.2 r else outs m x.2 r
theorem outs_in (m:Int):∀(l:List Sp) (f:Int),NF (f-1) l→(∀x∈l,x.2≤m)→∀t,inS (outs m f l) t=(decide (f≤t)&&decide (t<m)&& !inS l t)
 | [],f,_,_,t=>by
  unfold outs;by_cases h:f<m
  ·rw[if_pos h];simp[dM,eP]
  ·rw[if_neg h,eP]
   symm
   rw[Bool.eq_false_iff];simp[eP]
   omega
 | x::r,f,h,hm,t=>by
  obtain⟨h1,h2,h3⟩:=h;have hxm:=hm x (by simp);have ih:=outs_in m r x.2 (h3.le (by omega)) (fun y hy=>hm y (by simp[hy])) t;have ho:=fun(ht:t≤x.2)=>h3.out ht
  unfold outs;by_cases hh:f<x.1
  ·rw[if_pos hh,dM,ih,dM]
   rcases Int.lt_or_le x.2 t with z | z
   ·cases inS r t<;>rw[Bool.eq_iff_iff]<;>simp<;>omega
   ·rw[ho z]
    rw[Bool.eq_iff_iff];simp;omega
  ·rw[if_neg hh,ih,dM]
   rcases Int.lt_or_le x.2 t with z | z
   ·cases inS r t<;>rw[Bool.eq_iff_iff]<;>simp<;>omega
   ·rw[ho z]
    rw[Bool.eq_iff_iff];simp;omega
abbrev Sd:=List Sp×Bool
def nxt:Sd→Option Int
 | ([],_)=>none
 | (x::_,true)=>some x.2
 | (x::_,false)=>some x.1
def pass (s:Sd) (t:Int):Sd:=if nxt s=some t then(if s.2=true then(s.1.tail,false)else(s.1,true))else s
def tmin (a b:Option Int):Option Int:=match a,b with
 | none,none=>none
 | some m,none=>some m
 | none,some n=>some n
 | some m,some n=>some (if n<m then n else m)
abbrev Pt:=Int×Bool×Bool
def pts:Nat→Sd→Sd→List Pt
 | 0,_,_=>[]
 | k+1,a,b=>match tmin (nxt a) (nxt b)with
  | none=>[]
  | some t=>(t,(pass a t).2,(pass b t).2)::pts k (pass a t) (pass b t)
abbrev CSt:=List Sp×Option Int
def stepC (f:Bool→Bool→Bool) (st:CSt) (p:Pt):CSt:=match st.2,f p.2.1 p.2.2 with
 | none,true=>(st.1,some p.1)
 | none,false=>(st.1,none)
 | some s,true=>(st.1,some s)
 | some s,false=>(st.1++[(s,p.1)],none)
def SV (T:Int):Sd→Prop
 | (l,false)=>NF T l
 | ([],true)=>False
 | (x::r,true)=>T<x.2∧NF x.2 r
def memS:Sd→Int→Bool
 | (l,false),t=>inS l t
 | ([],true),_=>false
 | (x::r,true),t=>decide (t<x.2) || inS r t
theorem sv_mem {T t':Int}:∀{s:Sd},SV T s→T≤t'→(∀e,nxt s=some e→t'<e)→memS s t'=s.2
 | ([],false),_,_,_=>rfl
 | (x::r,false),h,h1,h2=>by
  have h2:=h2 x.1 rfl;show inS (x::r) t'=false
  rw[dM,NF.out h.2.2 (by have:=h.2.1;omega),decide_eq_false (by omega)];rfl
 | (x::r,true),h,h1,h2=>by
  have h2:=h2 x.2 rfl;show(decide (t'<x.2) || inS r t')=true
  rw[decide_eq_true h2];rfl
theorem sv_gt {T:Int}:∀{s:Sd},SV T s→∀e,nxt s=some e→T<e
 | ([],false),_,e,he=>by cases he
 | (x::r,false),h,e,he=>by cases he;exact h.1
 | (x::r,true),h,e,he=>by cases he;exact h.1
theorem oJ {T t:Int}:∀{s:Sd},SV T s→T<t→(∀e,nxt s=some e→t≤e)→SV t (pass s t)∧∀t',t≤t'→memS (pass s t) t'=memS s t'
 | ([],false),h,h1,h2=>⟨trivial,fun _ _=>rfl⟩
 | (x::r,false),h,h1,h2=>by
  have h3:=h2 x.1 rfl;unfold pass;by_cases z:nxt (x::r,false)=some t
  ·have e:x.1=t:=Option.some.inj z
   rw[if_pos z];refine⟨⟨by have:=h.2.1;omega,h.2.2⟩,fun t' ht=>?_⟩
   show(decide (t'<x.2) || inS r t')=inS (x::r) t'
   rw[dM,decide_eq_true (show x.1≤t' by omega)];rfl
  ·rw[if_neg z]
   have:x.1≠t:=fun e=>z (by rw[←e];rfl)
   exact⟨⟨by omega,h.2.1,h.2.2⟩,fun _ _=>rfl⟩
 | (x::r,true),h,h1,h2=>by
  have h3:=h2 x.2 rfl;unfold pass;by_cases z:nxt (x::r,true)=some t
  ·have e:x.2=t:=Option.some.inj z
   rw[if_pos z];refine⟨by rw[←e];exact h.2,fun t' ht=>?_⟩
   show inS r t'=(decide (t'<x.2) || inS r t')
   rw[decide_eq_false (by omega)];rfl
  ·rw[if_neg z]
   have:x.2≠t:=fun e=>z (by rw[←e];rfl)
   exact⟨⟨by omega,h.2⟩,fun _ _=>rfl⟩
def wgt (s:Sd):Nat:=2*s.1.length-(if s.2=true then 1 else 0)
theorem ml {t:Int}:∀{s:Sd} {T:Int},SV T s→wgt (pass s t)≤wgt s∧(nxt s=some t→wgt (pass s t)<wgt s)
 | ([],false),_,_=>⟨aj _,fun h=>by cases h⟩
 | (x::r,false),T,h=>by
  unfold pass;by_cases z:nxt (x::r,false)=some t
  ·rw[if_pos z];exact⟨by simp[wgt],fun _=>by simp[wgt];omega⟩
  ·rw[if_neg z];exact⟨aj _,fun h=>absurd h z⟩
 | (x::r,true),T,h=>by
  unfold pass;by_cases z:nxt (x::r,true)=some t
  ·rw[if_pos z];exact⟨by simp[wgt];omega,fun _=>by simp[wgt];omega⟩
  ·rw[if_neg z];exact⟨aj _,fun h=>absurd h z⟩
def Out (f:Bool→Bool→Bool) (T:Int) (a b:Sd):Option Int→List Sp→Prop
 | none,out=>NF T out∧∀t,T≤t→inS out t=f (memS a t) (memS b t)
 | some s,out=>∃e r,out=(s,e)::r∧T<e∧NF e r∧∀t,T≤t→(decide (t<e) || inS r t)=f (memS a t) (memS b t)
theorem pz {a b:Option Int} {t:Int} (h:tmin a b=some t):(∀e,a=some e→t≤e)∧(∀e,b=some e→t≤e)∧(a=some t∨b=some t):=by
 cases a with
 | none=>cases b with
  | none=>cases h
  | some n=>cases h;exact⟨fun e he=>(by cases he),fun e he=>(by cases he;exact aR _),.inr rfl⟩
 | some m=>cases b with
  | none=>cases h;exact⟨fun e he=>(by cases he;exact aR _),fun e he=>(by cases he),.inl rfl⟩
  | some n=>
   by_cases z:n<m
   ·simp only[tmin,if_pos z]at h;cases h
    exact⟨fun e he=>(by cases he;omega),fun e he=>(by cases he;exact aR _),.inr rfl⟩
   ·simp only[tmin,if_neg z]at h;cases h
    exact⟨fun e he=>(by cases he;exact aR _),fun e he=>(by cases he;omega),.inl rfl⟩
theorem pA {a b:Option Int} (h:tmin a b=none):a=none∧b=none:=by
 cases a<;>cases b<;>first | exact⟨rfl,rfl⟩ | cases h
theorem ip {s:Sd} {T:Int} (h:SV T s) (hn:nxt s=none):s=([],false):=by
 obtain⟨l,i⟩:=s
 cases l with
 | nil=>cases i with
  | false=>rfl
  | true=>exact absurd h (by simp[SV])
 | cons x r=>cases i<;>cases hn
theorem fX (f:Bool→Bool→Bool) (hf:f false false=false):∀(k:Nat) (a b:Sd) (T:Int) (done:List Sp) (st:Option Int),wgt a+wgt b≤k→SV T a→SV T b→st.isSome=f a.2 b.2→
  ∃out,(pts k a b).foldl (stepC f) (done,st)=(done++out,none)∧Out f T a b st out
 | 0,a,b,T,done,st,hk,ha,hb,hst=>by
  have e1:nxt a=none:=by
   obtain⟨l,i⟩:=a
   cases l with
   | nil=>rfl
   | cons x r=>simp[wgt]at hk;cases i<;>simp at hk<;>omega
  have e2:nxt b=none:=by
   obtain⟨l,i⟩:=b
   cases l with
   | nil=>rfl
   | cons x r=>simp[wgt]at hk;cases i<;>simp at hk<;>omega
  have e1:=ip ha e1;have e2:=ip hb e2;subst e1 e2;rw[show f ([],false).2 ([],false).2=false from hf]at hst
  cases st with
  | some s=>cases hst
  | none=>exact⟨[],by simp[pts],trivial,fun t _=>by rw[eP];exact hf.symm⟩
 | k+1,a,b,T,done,st,hk,ha,hb,hst=>by
  unfold pts
  cases ht:tmin (nxt a) (nxt b)with
  | none=>
   obtain⟨e1,e2⟩:=pA ht;have e1:=ip ha e1;have e2:=ip hb e2;subst e1 e2;rw[show f ([],false).2 ([],false).2=false from hf]at hst
   cases st with
   | some s=>cases hst
   | none=>exact⟨[],by simp,trivial,fun t _=>by rw[eP];exact hf.symm⟩
  | some t=>
   obtain⟨h1,h2,h3⟩:=pz ht;have hT:T<t:=by
    rcases h3 with h | h
    ·exact sv_gt ha t h
    ·exact sv_gt hb t h
   obtain⟨pa,ma⟩:=oJ ha hT h1;obtain⟨pb,mb⟩:=oJ hb hT h2;have wa:=ml (t:=t) ha;have wb:=ml (t:=t) hb;have hw:wgt (pass a t)+wgt (pass b t)≤k:=by
    rcases h3 with h | h
    ·have:=wa.2 h;have:=wb.1;omega
    ·have:=wb.2 h;have:=wa.1;omega
   have hmid:∀t',T≤t'→t'<t→f (memS a t') (memS b t')=st.isSome:=fun t' h4 h5=>by
    rw[sv_mem ha h4 (fun e he=>by have:=h1 e he;omega),sv_mem hb h4 (fun e he=>by have:=h2 e he;omega),hst]
   rw[List.foldl_cons]
   cases st with
   | none=>
    cases hfn:f (pass a t).2 (pass b t).2 with
    | true=>
     rw[show stepC f (done,none) (t,(pass a t).2,(pass b t).2)=(done,some t)from by unfold stepC;simp only[hfn]];obtain⟨out,e1,e,r,e2,e3,e4,e5⟩:=fX f hf k (pass a t) (pass b t) t done (some t) hw pa pb (by rw[hfn];rfl);refine⟨out,e1,?_,fun t' h4=>?_⟩
     ·rw[e2];exact⟨hT,e3,e4⟩
     ·rw[e2,dM]
      rcases Int.lt_or_le t' t with z | z
      ·rw[hmid t' h4 z,decide_eq_false (show ¬(t,e).1≤t' by simp only;omega),NF.out e4 (by omega)]
       rfl
      ·rw[←ma t' z,←mb t' z,←e5 t' z,decide_eq_true (show(t,e).1≤t' from z)]
       rfl
    | false=>
     rw[show stepC f (done,none) (t,(pass a t).2,(pass b t).2)=(done,none)from by unfold stepC;simp only[hfn]];obtain⟨out,e1,e2,e3⟩:=fX f hf k (pass a t) (pass b t) t done none hw pa pb (by rw[hfn];rfl);refine⟨out,e1,e2.le (by omega),fun t' h4=>?_⟩
     rcases Int.lt_or_le t' t with z | z
     ·rw[hmid t' h4 z,NF.out e2 (by omega)]
      rfl
     ·rw[e3 t' z,ma t' z,mb t' z]
   | some s=>
    cases hfn:f (pass a t).2 (pass b t).2 with
    | true=>
     rw[show stepC f (done,some s) (t,(pass a t).2,(pass b t).2)=(done,some s)from by unfold stepC;simp only[hfn]];obtain⟨out,e1,e,r,e2,e3,e4,e5⟩:=fX f hf k (pass a t) (pass b t) t done (some s) hw pa pb (by rw[hfn];rfl);refine⟨out,e1,e,r,e2,by omega,e4,fun t' h4=>?_⟩
     rcases Int.lt_or_le t' t with z | z
     ·rw[hmid t' h4 z,decide_eq_true (show t'<e by omega)]
      rfl
     ·rw[e5 t' z,ma t' z,mb t' z]
    | false=>
     rw[show stepC f (done,some s) (t,(pass a t).2,(pass b t).2)=(done++[(s,t)],none)from by unfold stepC;simp only[hfn]];obtain⟨out,e1,e2,e3⟩:=fX f hf k (pass a t) (pass b t) t (done++[(s,t)]) none hw pa pb (by rw[hfn];rfl);refine⟨(s,t)::out,by rw[e1];simp,t,out,rfl,hT,e2,fun t' h4=>?_⟩
     rcases Int.lt_or_le t' t with z | z
     ·rw[hmid t' h4 z,decide_eq_true z]
      rfl
     ·rw[←ma t' z,←mb t' z,←e3 t' z,decide_eq_false (by omega)]
      rfl
def cmb (f:Bool→Bool→Bool) (a b:List Sp):List Sp:=((pts (2*a.length+2*b.length) (a,false) (b,false)).foldl (stepC f) ([],none)).1
theorem mm (f:Bool→Bool→Bool) (hf:f false false=false) (a b:List Sp) (T:Int) (ha:NF T a) (hb:NF T b):
  (pts (2*a.length+2*b.length) (a,false) (b,false)).foldl (stepC f) ([],none)=(cmb f a b,none)∧NF T (cmb f a b)∧∀t,inS (cmb f a b) t=f (inS a t) (inS b t):=by
 obtain⟨out,e1,e2,e3⟩:=fX f hf (2*a.length+2*b.length) (a,false) (b,false) T [] none (by simp[wgt]) ha hb hf.symm;have e:cmb f a b=out:=by unfold cmb;rw[e1];rfl
 rw[e1,e];refine⟨rfl,e2,fun t=>?_⟩
 rcases Int.lt_or_le t T with z | z
 ·rw[NF.out e2 (by omega),NF.out ha (by omega),NF.out hb (by omega),hf]
 ·exact e3 t z
end Iv
end
section
open Go Go.RowKit Iv
attribute [local go_sem] Oper.semAt_some
attribute [local go_sem] pw gu B_app pv B_get B_toList
def spC (x:Sp):List Value:=[.int .i64 x.1,.int .i64 x.2]
theorem lQ (x:Sp):(spC x).length=2:=rfl
def sps (l:List Sp):List Value:=l.flatMap spC
theorem sps_len (l:List Sp):(sps l).length=l.length*2:=ef spC 2 lQ l
def RSps (w:World) (N:Nat) (v:Value) (l:List Sp):Prop:=
 ∃(a:Option Addr) (c:Nat),v= .slice a l.length c∧l.length≤c∧c≤maxLen∧(a=none→c=0)∧
  (0<l.length→∃b o,a=some ⟨b,o,none⟩∧b<N∧∀(j:Nat) (u:Value),(sps l)[j]? =some u→w.cell? ⟨b,o+j,none⟩=some u)
theorem RSps.keep {w w':World} {N M:Nat} {v:Value} {l:List Sp} (h:RSps w N v l) (k:∀b o,b<N→w'.cell? ⟨b,o,none⟩=w.cell? ⟨b,o,none⟩) (hM:N≤M):RSps w' M v l:=by
 obtain⟨a,c,rfl,h1,h2,h3,h4⟩:=h;refine⟨a,c,rfl,h1,h2,h3,fun hp=>?_⟩
 obtain⟨b,o,rfl,hb,hc⟩:=h4 hp;exact⟨b,o,rfl,by omega,fun j u hu=>(k b _ hb).trans (hc j u hu)⟩
theorem RSps.below {w w':World} {N C M:Nat} {v:Value} {l:List Sp} (h:RSps w N v l) (k:Below C w w') (hC:N≤C) (hM:N≤M):RSps w' M v l:=
 h.keep (fun b o hb=>k.cell (p:=⟨b,o,none⟩) (show b<C by omega)) hM
theorem RSps.below' {w w':World} {v:Value} {l:List Sp} (h:RSps w w.heap.size v l) (k:Below w.heap.size w w'):RSps w' w'.heap.size v l:=h.below k (aj _) k.size
theorem RSps.nil (w:World) (N:Nat):RSps w N (.slice none 0 0) []:=⟨none,0,rfl,aj _,aE _,fun _=>rfl,fun h=>by cases h⟩
theorem RSps.of_own {w:World} {base n:Nat} {e:TypeId} {v:Value} {l:List Sp} (h:w.ownsRow base e 2 v n (sps l)):RSps w w.heap.size v l:=by
 have hl:n=l.length:=by have:=h.1;rw[sps_len]at this;omega
 subst hl;have hh:=h;rcases h.2 with⟨rfl,hz⟩ | ⟨g,cap,cur,rfl,hb,hg,hn,hm,hs,ht⟩
 ·have:l=[]:=aF hz
  subst this;exact RSps.nil _ _
 ·have hlt:g<w.heap.size:=by
   rcases bq g w.heap.size with h | h
   ·exact h
   ·rw[bQ h]at hg;cases hg
  refine⟨_,_,rfl,hn,hm,(fun h=>by cases h),fun _=>⟨g,0,rfl,hlt,fun j u hu=>?_⟩⟩
  have:=hh.cells (g:=g) rfl j u hu;rwa [fj]at this
theorem sp0 {w:World} {b o k:Nat} {l:List Sp} {x:Sp} (h:∀(j:Nat) (u:Value),(sps l)[j]? =some u→w.cell? ⟨b,o+j,none⟩=some u) (hx:l[k]? =some x):w.cell? ⟨b,o+k*2,none⟩=some (.int .i64 x.1):=by
 refine h (k*2) _ ?_
 have:=eG spC 2 lQ l k 0 (by omega);rw[hx]at this;exact this
theorem sp1 {w:World} {b o k:Nat} {l:List Sp} {x:Sp} (h:∀(j:Nat) (u:Value),(sps l)[j]? =some u→w.cell? ⟨b,o+j,none⟩=some u) (hx:l[k]? =some x):w.cell? ⟨b,o+k*2+1,none⟩=some (.int .i64 x.2):=by
 refine h (k*2+1) _ ?_
 have:=eG spC 2 lQ l k 1 (by omega);rw[hx]at this;exact this
theorem RSps.one {w:World} {g:Nat} {x:Sp} {t:TypeId} {f:Nat×Nat} (h:w.heap[g]? =some (.cells (spC x).toArray t f)) (hf:f=(0,0)):RSps w w.heap.size (.slice (some ⟨g,0,none⟩) 1 1) [x]:=by
 subst hf;have hlt:g<w.heap.size:=by
  rcases bq g w.heap.size with h' | h'
  ·exact h'
  ·rw[bQ h']at h;cases h
 refine⟨_,1,rfl,aj _,(by simp[maxLen]),(fun h=>by cases h),fun _=>⟨g,0,rfl,hlt,fun j u hu=>?_⟩⟩
 rw[cU h];simpa [sps]using hu
theorem pC (N n c:Nat):RFrom N (.slice none n c):=fun a m d h=>by cases h
theorem gx {w:World} {base n s:Nat} {e:TypeId} {v:Value} {xs:List Value} (h:w.ownsRow base e s v n xs):RFrom base v:=fun a m c hv=>by
 subst hv;rcases h.2 with⟨h0,_⟩ | ⟨g,cap,cur,h0,hb,_⟩
 ·cases h0
 ·injection h0 with h0 _ _;injection h0 with h0;subst h0;exact hb
theorem RFrom.le {N M:Nat} {v:Value} (h:RFrom M v) (k:N≤M):RFrom N v:=fun a n c e=>aK k (h a n c e)
def vSp (x:Sp):Bool:=decide (x.1<x.2)&&decide (x.1≥ -1152921504606846976)&&decide (x.2≤1152921504606846976)
def ordSp:Option Int→Int→Bool
 | none,_=>false
 | some q,f=>decide (f≤q)
def chkR:Option Int→List Sp→Int
 | _,[]=>0
 | p,x::r=>if vSp x=false then 2 else if ordSp p x.1=true then 9 else chkR (some x.2) r
def chkSp (l:List Sp):Int:=if 1000<l.length then 4 else chkR none l
theorem oK:∀{l:List Sp} {p:Option Int},(∀q,p=some q→NF q l)→(p=none→NF (-1152921504606846977) l)→(∀x∈l,-1152921504606846976≤x.1∧x.2≤1152921504606846976)→chkR p l=0
 | [],p,_,_,_=>rfl
 | x::r,p,h1,h2,h3=>by
  have hx:=h3 x (by simp);have hb:∃b,NF b (x::r):=by
   cases p with
   | none=>exact⟨_,h2 rfl⟩
   | some q=>exact⟨_,h1 q rfl⟩
  obtain⟨b,hb1,hb2,hb3⟩:=hb;have hv:vSp x=true:=by unfold vSp;simp;omega
  unfold chkR;rw[if_neg (by simp[hv]),if_neg]
  ·exact oK (fun q hq=>by cases hq;exact hb3) (fun h=>by cases h) (fun y hy=>h3 y (by simp[hy]))
  ·cases p with
   | none=>simp[ordSp]
   | some q=>have:=(h1 q rfl).1;simp[ordSp];omega
theorem chkSp_of {l:List Sp} (h1:l.length≤1000) (h2:NF (-1152921504606846977) l) (h3:∀x∈l,-1152921504606846976≤x.1∧x.2≤1152921504606846976):chkSp l=0:=by
 unfold chkSp;rw[if_neg (by omega)];unfold chkR
 cases l with
 | nil=>rfl
 | cons x r=>exact oK (p:=none) (fun q hq=>by cases hq) (fun _=>h2) h3
end
section
open Go Go.RowKit Iv
attribute [local go_sem] Oper.semAt_some
attribute [local go_sem] pw gu B_app pv B_get B_toList
structure Con where
 fr:Int
 tt:Int
 st:Int
 en:Int
 ra:Int
 rg:Int
 lo:Int
def conC (x:Con):List Value:=[.int .i64 x.fr,.int .i64 x.tt,.int .i64 x.st,.int .i64 x.en,.int .i64 x.ra,.int .i64 x.rg,.int .i64 x.lo]
theorem mo (x:Con):(conC x).length=7:=rfl
structure Bkg where
 ct:Int
 bg:Int
 en:Int
 tk:Int
def bkgC (x:Bkg):List Value:=[.int .i64 x.ct,.int .i64 x.bg,.int .i64 x.en,.int .i64 x.tk]
theorem dL (x:Bkg):(bkgC x).length=4:=rfl
structure Hld where
 nd:Int
 fr:Int
 tt:Int
 sz:Int
 tk:Int
def hldC (x:Hld):List Value:=[.int .i64 x.nd,.int .i64 x.fr,.int .i64 x.tt,.int .i64 x.sz,.int .i64 x.tk]
theorem dO (x:Hld):(hldC x).length=5:=rfl
def intC (x:Int):List Value:=[.int .i64 x]
def RRow {α:Type} (enc:α→List Value) (s:Nat) (w:World) (N:Nat) (v:Value) (l:List α):Prop:=
 ∃(a:Option Addr) (c:Nat),v= .slice a l.length c∧l.length≤c∧c≤maxLen∧(a=none→c=0)∧
  (0<l.length→∃b o,a=some ⟨b,o,none⟩∧b<N∧∀(i:Nat) (x:α),l[i]? =some x→∀(j:Nat) (u:Value),(enc x)[j]? =some u→w.cell? ⟨b,o+i*s+j,none⟩=some u)
theorem RRow.keep {α:Type} {enc:α→List Value} {s:Nat} {w w':World} {N M:Nat} {v:Value} {l:List α} (h:RRow enc s w N v l) (k:∀b o,b<N→w'.cell? ⟨b,o,none⟩=w.cell? ⟨b,o,none⟩) (hM:N≤M):RRow enc s w' M v l:=by
 obtain⟨a,c,rfl,h1,h2,h3,h4⟩:=h;refine⟨a,c,rfl,h1,h2,h3,fun hp=>?_⟩
 obtain⟨b,o,rfl,hb,hc⟩:=h4 hp;exact⟨b,o,rfl,by omega,fun i x hx j u hu=>(k b _ hb).trans (hc i x hx j u hu)⟩
theorem RRow.below {α:Type} {enc:α→List Value} {s:Nat} {w w':World} {N C M:Nat} {v:Value} {l:List α} (h:RRow enc s w N v l) (k:Below C w w') (hC:N≤C) (hM:N≤M):RRow enc s w' M v l:=
 h.keep (fun b o hb=>k.cell (p:=⟨b,o,none⟩) (show b<C by omega)) hM
theorem RRow.below' {α:Type} {enc:α→List Value} {s:Nat} {w w':World} {v:Value} {l:List α} (h:RRow enc s w w.heap.size v l) (k:Below w.heap.size w w'):RRow enc s w' w'.heap.size v l:=h.below k (aj _) k.size
theorem RRow.nil {α:Type} (enc:α→List Value) (s:Nat) (w:World) (N:Nat):RRow enc s w N (.slice none 0 0) []:=⟨none,0,rfl,aj _,aE _,fun _=>rfl,fun h=>by cases h⟩
theorem RRow.take {α:Type} {enc:α→List Value} {s:Nat} {w:World} {N:Nat} {a:Option Addr} {n c:Nat} {l:List α} (h:RRow enc s w N (.slice a n c) l) (k:Nat) (hk:k≤l.length):RRow enc s w N (.slice a k c) (l.take k):=by
 obtain⟨a',c',e,h1,h2,h3,h4⟩:=h;injection e with e1 e2 e3
 subst e1 e3;have hl:(l.take k).length=k:=by rw[aS,Nat.min_eq_left hk]
 refine⟨a,c,by rw[hl],by omega,h2,h3,fun hp=>?_⟩
 obtain⟨b,o,rfl,hb,hc⟩:=h4 (by omega);refine⟨b,o,rfl,hb,fun i x hx j u hu=>hc i x ?_ j u hu⟩
 rw[bA]at hx;split at hx
 ·exact hx
 ·cases hx
theorem RRow.ints {w:World} {g N:Nat} {l:List Int} {t:TypeId} {f:Nat×Nat} (h:w.heap[g]? =some (.cells (l.map (Value.int .i64)).toArray t f)) (hf:f=(0,0)) (hg:g<N) (hl:l.length≤1000):RRow intC 1 w N (.slice (some ⟨g,0,none⟩) l.length l.length) l:=by
 subst hf;refine⟨_,l.length,rfl,aj _,(by unfold maxLen;omega),(fun h=>by cases h),fun _=>⟨g,0,rfl,hg,fun i y hy j u hu=>?_⟩⟩
 have hj:j=0:=by
  have:=(aw.1 hu).1;simp[intC]at this;omega
 subst hj;simp[intC]at hu
 subst hu;rw[cU h];simp[hy]
def wth (n lo hi:Int):Bool:=decide (n≥lo)&&decide (n≤hi)
theorem jI {n lo hi:Int}:wth n lo hi=true↔lo≤n∧n≤hi:=by unfold wth;simp
def chkCon (c:Con):Int:=
 if wth c.fr 0 15=false∨wth c.tt 0 15=false∨wth c.ra 1 1000=false∨wth c.rg 1 1048576=false∨wth c.lo 0 16=false then 2
 else if c.fr=c.tt then 1 else if c.st<0∨c.en≤c.st∨1099511627776-2*c.rg<c.en then 2 else 0
theorem mq {c:Con} (h:chkCon c=0):0≤c.st∧c.st<c.en∧c.en≤1099511627776:=by
 unfold chkCon at h;split at h
 ·cases h
 ·rename_i h1
  split at h
  ·cases h
  ·split at h
   ·cases h
   ·rename_i h3
    have h4:wth c.rg 1 1048576=true:=by
     cases hz:wth c.rg 1 1048576 with
     | true=>rfl
     | false=>exact absurd (.inr (.inr (.inr (.inl hz)))) h1
    have:=jI.1 h4;omega
def ovl (a b:Con):Bool:=(a.fr==b.fr&&a.tt==b.tt)&&decide (max a.st b.st<min a.en b.en)
def qOK (q:Int):Prop:=0≤q∧q≤1073741824
def cOK (n:Nat) (cs:List Con) (k:Nat) (c:Con):Prop:=chkCon c=0∧c.fr<n∧c.tt<n∧(cs.take k).any (ovl c)=false
def PlanOK (qs:List Int) (cs:List Con):Prop:=(1≤qs.length∧qs.length≤16∧cs.length≤64)∧(∀q∈qs,qOK q)∧∀k c,cs[k]? =some c→cOK qs.length cs k c
theorem PlanOK.con {qs:List Int} {cs:List Con} (h:PlanOK qs cs) {k:Nat} {c:Con} (hk:cs[k]? =some c):0≤c.st∧c.st<c.en∧c.en≤1099511627776:=mq (h.2.2 k c hk).1
def cmpI (a b:Int):Int:=if a<b then -1 else if b<a then 1 else 0
theorem dV {a b:Int}:cmpI a b=0↔a=b:=by unfold cmpI;split<;>(try split)<;>omega
def orL:List Int→Int
 | []=>0
 | a::l=>if a=0 then orL l else a
def cmpB (a b:Bkg):Int:=orL [cmpI a.ct b.ct,cmpI a.bg b.bg]
theorem lR {a b:Bkg} (h:cmpB a b<0):a.ct<b.ct∨(a.ct=b.ct∧a.bg<b.bg):=by
 unfold cmpB at h;simp only[orL]at h;unfold cmpI at h
 repeat' (split at h)
 all_goals omega
def bVal (cs:List Con) (b:Bkg):Prop:=(0≤b.ct∧b.ct<cs.length)∧(0≤b.tk∧b.tk≤1152921504606846976)∧∀c,cs[b.ct.toNat]? =some c→c.st≤b.bg∧b.bg<b.en∧b.en≤c.en
def bNext (a b:Bkg):Prop:=cmpB a b<0∧¬(a.ct=b.ct∧b.bg<a.en)
def BkOK (cs:List Con) (l:List Bkg):Prop:=l.length≤512∧(∀b∈l,bVal cs b)∧∀k a b,l[k]? =some a→l[k+1]? =some b→bNext a b
def busyS (l:List Bkg) (i:Int):List Sp:=(l.filter fun b=>b.ct==i).map fun b=>(b.bg,b.en)
theorem nR (l:List Bkg) (i:Int) (b:Bkg):busyS (l++[b]) i=if b.ct=i then busyS l i++[(b.bg,b.en)]else busyS l i:=by
 unfold busyS;rw[aW,bL];by_cases h:b.ct=i
 ·rw[if_pos h,List.filter_cons_of_pos (by simp[h])];rfl
 ·rw[if_neg h,List.filter_cons_of_neg (by simp[h])];simp
theorem jT {l:List Bkg} {k:Nat} {b:Bkg} (i:Int) (h:l[k]? =some b):busyS (l.take (k+1)) i=if b.ct=i then busyS (l.take k) i++[(b.bg,b.en)]else busyS (l.take k) i:=by
 rw[aN,h];exact nR _ _ _
theorem gL (l:List Bkg) (i:Int):(busyS l i).length≤l.length:=by
 unfold busyS;rw[aZ];exact bn _ _
def RB (a b:Bkg):Prop:=a.ct<b.ct∨(a.ct=b.ct∧a.en≤b.bg)
theorem bNext.rb {a b:Bkg} (h:bNext a b):RB a b:=by
 have h1:=lR h.1;have h2:=h.2;unfold RB;omega
theorem oL:∀{l:List Bkg},(∀x∈l,x.bg<x.en)→(∀k a b,l[k]? =some a→l[k+1]? =some b→RB a b)→l.Pairwise RB
 | [],_,_=>List.Pairwise.nil
 | x::r,h1,h2=>by
  have ih:=oL (l:=r) (fun y hy=>h1 y (by simp[hy])) (fun k a b ha hb=>h2 (k+1) a b (by simpa using ha) (by simpa using hb));refine List.Pairwise.cons (fun y hy=>?_) ih
  cases r with
  | nil=>cases hy
  | cons z s=>
   have hz:RB x z:=h2 0 x z rfl rfl;rcases aG.1 hy with rfl | hy
   ·exact hz
   ·have h3:=(aM.1 ih).1 y hy
    have h4:=h1 z (by simp);unfold RB at*;omega
end
end Go.Proofs.YtfnciigbbolckaaGreat
