/- Part 4 of the proof about mailboattop.TopOthers. No condition. -/
import Derived.Test.YtfnciigbbolckaaGreatQ00
import Derived.Test.YtfnciigbbolckaaGreatQ01
import Derived.Test.YtfnciigbbolckaaGreatQ02
import Derived.Test.YtfnciigbbolckaaGreatQ03
set_option linter.unusedVariables false
set_option linter.unusedSimpArgs false
set_option maxRecDepth 100000
set_option maxHeartbeats 64000000
namespace Go.Proofs.YtfnciigbbolckaaGreat
section
open Go Go.RowKit Iv
attribute [local go_sem] Oper.semAt_some
attribute [local go_sem] pw gu B_app pv B_get B_toList
theorem fits_ok (c:Con) (b:Int) (s:Nat) (w:World) (hc:chkCon c=0) (s1:1≤s) (hs:s≤65536) (hb:c.st≤b) (b1:b≤1099511627776):
  Calls Tryz.prog 139 #[.agg #[.int .i64 c.fr,.int .i64 c.tt,.int .i64 c.st,.int .i64 c.en,.int .i64 c.ra,.int .i64 c.rg,.int .i64 c.lo],.int .i64 b,.int .i64 (s:Int)] w fun e w'=>e= .returned (.bool (decide (b≤c.en-durS c s)))∧Below w.heap.size w w':=by
 obtain⟨D,hD⟩:=cR (durS c s)
 have hf:=ee hc;have hdb:=fM hf (by omega:0<s) hs;have f1:=hf.st0;have f2:=hf.en0;have f3:=hf.en1;have f4:=hf.rg0;rw[hD]at hdb ⊢;have HD:=aa hD;have HF:=aa hf;have d1:decide (c.st≤b)=true:=decide_eq_true hb;have w1_:IntKind.i64.wrap (c.en-D)=c.en-D:=by rw[ax];omega
 clear hc hD hf;go_enter Tryz.func139,Tryz.ntmps139
 go_upto_region 1 with fail
 obtain⟨w1,hw1⟩:=cR (w.alloc (.cells #[.int .i64 c.fr,.int .i64 c.tt,.int .i64 c.st,.int .i64 c.en,.int .i64 c.ra,.int .i64 c.rg,.int .i64 c.lo] 95))
 rw[hw1];have B1:Below w.heap.size w w1:=by rw[←hw1];exact cZ
 have X1:w1.heap[w.heap.size]? =some (.cells #[.int .i64 c.fr,.int .i64 c.tt,.int .i64 c.st,.int .i64 c.en,.int .i64 c.ra,.int .i64 c.rg,.int .i64 c.lo] 95 (0,0)):=by rw[←hw1];exact cW
 have z1:w.heap.size<w1.heap.size:=(ai.1 X1).1;have cb:=fun o=>cU X1 o
 have HX1:=aa X1;clear X1 hw1;refine dd (fun V=>Below (w1).heap.size (w1) V) [0,0,1,0,0,0,0,1,1,0,2,0,0,0,0] [0,1,2,3,4,5,6,7,8,9,10,11,12,13,14] (by kernel_rfl) (by kernel_rfl) ?_ ?_
 case refine_1=>exact cZ
 (iterate 10 (first | (refine cX rfl (by decide) (by rfl) (fun w1 hS=>by(try(obtain⟨_,_⟩:=bcell (hS rfl)));go_simp;rfl) ?_;simp only[Act.put,ae,af,ag]) | (refine dm rfl (by decide) (by rfl) ?_;simp only[Act.put,ae,af,ag])))
 (refine dA rfl rfl (by rfl) (fun K hK=>?_);go_simp)
 refine(oM c s _ HF.out hs).mono ?_
 rw[HD.out];rintro e wc17 ⟨rfl,hbc17⟩
 (refine hK _ _ (by exact cZ) ?_;clear hK K;(try simp only[Act.put,ae,af,ag]))
 (iterate 4 (first | (refine cX rfl (by decide) (by rfl) (fun w1 hS=>by(try(obtain⟨_,_⟩:=bcell (hS rfl)));go_simp;rfl) ?_;simp only[Act.put,ae,af,ag]) | (refine dm rfl (by decide) (by rfl) ?_;simp only[Act.put,ae,af,ag])))
 refine du ?_
 go_wp2
 go_ret
 refine⟨?_,cZ⟩
 simp[*]
end
section
open Go Go.RowKit
section
variable {P:Program} (w:World)
theorem ir (base:Nat) (t ty e:TypeId) (i:TypeInfo) (z:Value) (size bytes:Nat) (ht:P.underlying t=some (.slice e)) (hi:P.info? e=some i) (hz:i.zero=some z)
  (hsize:i.size=size) (hby:i.bytes=bytes) (hzs:z.cells.size=size) (hsz:0<size)
  (v:Value) (n:Nat) (xs:List Value) (hown:w.ownsRow base e size v n xs)
  (a:Addr) (m c:Nat) (news:List Value) (hl:news.length=m*size) (hnews:∀j u,news[j]? =some u→w.cell? (a.add j)=some u) (h1:∀u∈news,u.oneCell'=true)
  (h63:n+m≤maxLen) (hbytes:(n+m)*bytes≤140737488355328) (hbase:base≤w.heap.size) (hm:0<m):
  ∃v' w',(Builtin.append_ #[t,t] ty #[v,.slice (some a) m c]).run P w= .ok v' w'∧w'.ownsRow base e size v' (n+m) (xs++news)∧w.grownBy w' v.ownBlock∧(v'.ownBlock=v.ownBlock∨v'.ownBlock=some w.heap.size):=by
 obtain⟨v',w',hr,h2,h3,_⟩:=run_append_own (P:=P) w base t ty e i z size bytes ht hi hz hsize hby hzs hsz v n xs hown a m c news hl hnews h1 h63 hbytes hbase;refine⟨v',w',hr,h2,h3,?_⟩
 subst hsize hby
 have hsmall:n+m≤9223372036854775807:=by simp only[maxLen]at h63;omega
 rcases hown.2 with⟨rfl,rfl⟩ | ⟨g,cap,cur,rfl,hbg,hg,hnc,hcm,hcs,htake⟩
 ·have hr2:=run_append_nil (P:=P) w t ty e i z ht hi hz a m c news hl hnews hm (by omega) (by have hb:=hbytes;simp only[bx]at hb;omega)
  rw[hr]at hr2;injection hr2 with e1 e2
  subst e1;exact .inr rfl
 ·by_cases hroom:n+m≤cap
  ·have hfit:n*i.size+news.length≤cur.size:=by rw[hl,hcs,←Nat.add_mul];exact Nat.mul_le_mul_right _ hroom
   have hr2:=run_append_room (P:=P) w t ty e i ht hi g n cap cur hg a m c news hl hnews h1 hroom hfit;rw[hr]at hr2;injection hr2 with e1 e2
   subst e1;exact .inl rfl
  ·have holds:∀j u,xs[j]? =some u→w.cell? ((⟨g,0,none⟩:Addr).add j)=some u:=hown.cells (g:=g) rfl
   have hr2:=run_append_grow (P:=P) w t ty e i z ht hi hz ⟨g,0,none⟩ n cap xs hown.1 holds a m c news hl hnews (by omega) (by omega) (growslice_fits (by omega) hbytes);rw[hr]at hr2;injection hr2 with e1 e2
   subst e1;exact .inr rfl
theorem dW {o:Oper} {a:Act} {K:Act→World→Prop} {Q:Exit→Act→World→Prop} (s x:Operand) (t:TypeId)
  (ho:o.op= .call {callee:=.builtin .append,args:=#[s,x],argTypes:=#[t,t]})
  (base:Nat) (e:TypeId) (i:TypeInfo) (z:Value) (size bytes:Nat) (ht:P.underlying t=some (.slice e)) (hi:P.info? e=some i) (hz:i.zero=some z)
  (hsize:i.size=size) (hby:i.bytes=bytes) (hzs:z.cells.size=size) (hsz:0<size)
  (v:Value) (n:Nat) (xs:List Value) (hs:a.eval s=v) (hown:w.ownsRow base e size v n xs)
  (ad:Addr) (m c:Nat) (news:List Value) (hx:a.eval x= .slice (some ad) m c) (hl:news.length=m*size) (hnews:∀j u,news[j]? =some u→w.cell? (ad.add j)=some u) (h1:∀u∈news,u.oneCell'=true)
  (h63:n+m≤maxLen) (hbytes:(n+m)*bytes≤140737488355328) (hbase:base≤w.heap.size) (hm:0<m)
  (h:∀v' w',w'.ownsRow base e size v' (n+m) (xs++news)→w.grownBy w' v.ownBlock→(v'.ownBlock=v.ownBlock∨v'.ownBlock=some w.heap.size)→K (a.put o.dst v') w'):o.wp P a w K Q:=by
 obtain⟨v',w',hr,h2,h3,h4⟩:=ir (P:=P) w base t o.type e i z size bytes ht hi hz hsize hby hzs hsz v n xs hown ad m c news hl hnews h1 h63 hbytes hbase hm;unfold Oper.wp execOp;simp only[ho,resolve,invoke,builtin,Sem.run_bind,Sem.run_pure,Result.andThen_ok,List.map_toArray,List.map_cons,List.map_nil,hs,hx,hr];exact h v' w' h2 h3 h4
theorem dK {ops:Array Oper} {rest:List Oper} {o:Oper} {a:Act} {Q:Exit→Act→World→Prop} (hgd:o.guard=none) (s x:Operand) (t:TypeId)
  (ho:o.op= .call {callee:=.builtin .append,args:=#[s,x],argTypes:=#[t,t]})
  (base:Nat) (e:TypeId) (i:TypeInfo) (z:Value) (size bytes:Nat) (ht:P.underlying t=some (.slice e)) (hi:P.info? e=some i) (hz:i.zero=some z)
  (hsize:i.size=size) (hby:i.bytes=bytes) (hzs:z.cells.size=size) (hsz:0<size)
  (v:Value) (n:Nat) (xs:List Value) (hs:a.eval s=v) (hown:w.ownsRow base e size v n xs)
  (ad:Addr) (m c:Nat) (news:List Value) (hx:a.eval x= .slice (some ad) m c) (hl:news.length=m*size) (hnews:∀j u,news[j]? =some u→w.cell? (ad.add j)=some u) (h1:∀u∈news,u.oneCell'=true)
  (h63:n+m≤maxLen) (hbytes:(n+m)*bytes≤140737488355328) (hbase:base≤w.heap.size) (hm:0<m)
  (h:∀v' w',w'.ownsRow base e size v' (n+m) (xs++news)→w.grownBy w' v.ownBlock→(v'.ownBlock=v.ownBlock∨v'.ownBlock=some w.heap.size)→wpList P ops Q rest (a.put o.dst v') w'):wpList P ops Q (o::rest) a w:=
 wpList_plain hgd fun _ hK=>dW w s x t ho base e i z size bytes ht hi hz hsize hby hzs hsz v n xs hs hown ad m c news hx hl hnews h1 h63 hbytes hbase hm fun v' w' h2 h3 h4=>hK _ _ (h v' w' h2 h3 h4)
end
theorem cV {w w':World} {base n size:Nat} {e:TypeId} {v:Value} {xs:List Value} (h:w.ownsRow base e size v n xs) (k:∀g,v.ownBlock=some g→w'.heap[g]? =w.heap[g]?):w'.ownsRow base e size v n xs:=by
 refine⟨h.1,?_⟩
 rcases h.2 with h0 | ⟨g,cap,cur,rfl,hb,hh,r⟩
 ·exact .inl h0
 ·exact .inr ⟨g,cap,cur,rfl,hb,by rw[k g rfl];exact hh,r⟩
theorem i6 {w:World} {base n size:Nat} {e:TypeId} {v:Value} {xs:List Value} (h:w.ownsRow base e size v n xs) {g:Nat} (hg:v.ownBlock=some g):∃cur,w.heap[g]? =some (.cells cur e (0,0)):=by
 rcases h.2 with⟨rfl,_⟩ | ⟨g',cap,cur,rfl,hb,hh,_⟩
 ·cases hg
 ·cases hg;exact⟨cur,hh⟩
theorem iu {w:World} {base size:Nat} {e:TypeId}:w.ownsRow base e size (.slice none 0 0) 0 []:=aX _ _ _ _
section
variable {α:Type} {e f:TypeId} {size:Nat} {enc:List α→List Value} {w w':World} {B:Nat} {vo:Value} {gs:List (List α)} {vals:List Value}
theorem dw {row:Option Nat} {q:Nat} (hg:w.grownBy w' row) (hq:q<w.heap.size) (hne:row≠some q):w'.heap[q]? =w.heap[q]?:=hg.block q hq fun h=>hne h.symm
end
open Go Go.RowKit
attribute [local go_sem] pw gu B_app pv B_get B_toList
theorem dg {w:World} {base n size:Nat} {e:TypeId} {v:Value} {xs:List Value} (h:w.ownsRow base e size v n xs):∃a c,v= .slice a n c:=by
 rcases h.2 with⟨rfl,rfl⟩ | ⟨g,cap,cur,rfl,_⟩
 ·exact⟨_,_,rfl⟩
 ·exact⟨_,_,rfl⟩
theorem fd {w:World} {base n size:Nat} {e:TypeId} {v:Value} {xs:List Value} (h:w.ownsRow base e size v n xs) (hn:0<n):∃g c,v= .slice (some ⟨g,0,none⟩) n c:=by
 rcases h.2 with⟨rfl,rfl⟩ | ⟨g,cap,cur,rfl,_⟩
 ·omega
 ·exact⟨_,_,rfl⟩
open Go Go.RowKit
theorem jW {w:World} {base base' n size:Nat} {e:TypeId} {v:Value} {xs:List Value} (h:w.ownsRow base e size v n xs) (hb:base'≤base):w.ownsRow base' e size v n xs:=by
 refine⟨h.1,?_⟩
 rcases h.2 with h0 | ⟨g,cap,cur,hv,hg,r⟩
 ·exact .inl h0
 ·exact .inr ⟨g,cap,cur,hv,by omega,r⟩
section
variable {most:Int} {w:World} {gs:List (List Int)} {ss:List Int} {vals:List Value} {s6 s7:Value} {wr:World}
end
end
section
open Go Go.RowKit
def setAll (cs:Array Value) (o:Nat):List Value→Array Value
 | []=>cs
 | v::r=>setAll (cs.setIfInBounds o v) (o+1) r
theorem ez (g:Nat) (t:TypeId):∀(vs:List Value) (o:Nat) (w:World) (cs:Array Value),w.heap[g]? =some (.cells cs t (0,0))→(w.setCells g o vs).heap[g]? =some (.cells (setAll cs o vs) t (0,0))
 | [],o,w,cs,h=>h
 | v::r,o,w,cs,h=>by
  rw[World.setCells,setAll];exact ez g t r (o+1) _ _ (eD h o v)
theorem eU:∀(vs:List Value) (o:Nat) (cs:Array Value),(setAll cs o vs).size=cs.size
 | [],_,_=>rfl
 | v::r,o,cs=>by rw[setAll,eU r];simp
theorem eS:∀(vs:List Value) (o:Nat) (cs:Array Value) (j:Nat),o+vs.length≤cs.size→(setAll cs o vs)[j]? =if o≤j∧j<o+vs.length then vs[j-o]? else cs[j]?
 | [],o,cs,j,_=>by rw[setAll,if_neg (by simp only[bE];omega)]
 | v::r,o,cs,j,h=>by
  simp only[aI]at h;rw[setAll,eS r (o+1) _ j (by rw[Array.size_setIfInBounds];omega)];by_cases hj:j=o
  ·subst hj
   rw[if_neg (by omega),if_pos (by simp only[aI];omega),Nat.sub_self,List.getElem?_cons_zero,Array.getElem?_setIfInBounds_self_of_lt (by omega)]
  ·by_cases hk:o+1≤j∧j<o+1+r.length
   ·rw[if_pos hk,if_pos (by simp only[aI];omega),show j-o=(j-(o+1))+1 by omega,List.getElem?_cons_succ]
   ·rw[if_neg hk,if_neg (by simp only[aI];omega)]
    rw[Array.getElem?_setIfInBounds_ne (by omega)]
theorem jX {vs:List Value} {cs:Array Value} (h:vs.length=cs.size):setAll cs 0 vs=vs.toArray:=by
 apply Array.ext_getElem?
 intro j;rw[eS vs 0 cs j (by omega)];by_cases hj:j<vs.length
 ·rw[if_pos (by omega)];simp
 ·rw[if_neg (by omega),bQ (by omega),bQ (by simp;omega)]
theorem dX (g:Nat):∀(vs:List Value) (o:Nat) (w:World) (B:Nat),B≤g→Below B w (w.setCells g o vs)
 | [],o,w,B,_=>ap _ _
 | v::r,o,w,B,h=>by
  rw[World.setCells];exact(bset (ap _ _) (by simpa using h)).trans (dX g r (o+1) _ B h)
theorem fW (g:Nat):∀(vs:List Value) (o:Nat) (w:World),(w.setCells g o vs).heap.size=w.heap.size
 | [],o,w=>rfl
 | v::r,o,w=>by
  rw[World.setCells,fW g r];simp
theorem dR (g q:Nat) (hq:q≠g):∀(vs:List Value) (o:Nat) (w:World),(w.setCells g o vs).heap[q]? =w.heap[q]?
 | [],o,w=>rfl
 | v::r,o,w=>by
  rw[World.setCells,dR g q hq r];exact heap_setCell_other w _ q v hq
theorem dv {P:Program} {ops:Array Oper} {rest:List Oper} {op:Oper} {a:Act} {w:World} {Q:Exit→Act→World→Prop} (hgd:op.guard=none) (ty:TypeId) (x y:Operand) (ho:op.op= .store ty x y)
  (g:Nat) (cells cs:Array Value) (t:TypeId) (hx:a.eval x= .pointer (some ⟨g,0,none⟩)) (hy:a.eval y= .agg cells) (hg:w.heap[g]? =some (.cells cs t (0,0))) (hsz:cells.size=cs.size)
  (hi:(P.info? ty).map (·.size)=some cells.size) (h1:∀v∈cells.toList,v.oneCell'=true)
  (h:∀W,W.heap[g]? =some (.cells cells t (0,0))→(∀B,B≤g→Below B w W)→W.heap.size=w.heap.size→(∀q,q≠g→W.heap[q]? =w.heap[q]?)→wpList P ops Q rest (a.put op.dst undef) W):
  wpList P ops Q (op::rest) a w:=by
 refine wpList_store_mid hgd ty x y ho g 0 cells hx hy (fun j hj=>?_) hi (Array.all_eq_true_iff_forall_mem.2 (fun v hv=>h1 v (by simpa using hv))) (h _ ?_ (fun B hB=>dX g _ _ _ B hB) (fW g _ _ _) (fun q hq=>dR g q hq _ _ _))
 ·rw[bx,cU hg,dC hg]
  exact⟨by rw[bI (by omega)];rfl,rfl⟩
 ·have:=ez g t cells.toList 0 w cs hg
  rw[jX (by simpa using hsz)]at this;simpa using this
open Go Go.RowKit
theorem eh {P:Program} {op:Oper} {a:Act} {w:World} {K:Act→World→Prop} {Q:Exit→Act→World→Prop} (ty:TypeId) (x y:Operand) (ho:op.op= .store ty x y)
  (g:Nat) (cells cs:Array Value) (t:TypeId) (hx:a.eval x= .pointer (some ⟨g,0,none⟩)) (hy:a.eval y= .agg cells) (hg:w.heap[g]? =some (.cells cs t (0,0))) (hsz:cells.size=cs.size)
  (hi:(P.info? ty).map (·.size)=some cells.size) (h1:∀v∈cells.toList,v.oneCell'=true)
  (h:∀W,W.heap[g]? =some (.cells cells t (0,0))→(∀B,B≤g→Below B w W)→W.heap.size=w.heap.size→(∀q,q≠g→W.heap[q]? =w.heap[q]?)→K (a.put op.dst undef) W):op.wp P a w K Q:=by
 refine wp_store_mid ty x y ho g 0 cells hx hy (fun j hj=>?_) hi (Array.all_eq_true_iff_forall_mem.2 (fun v hv=>h1 v (by simpa using hv))) (h _ ?_ (fun B hB=>dX g _ _ _ B hB) (fW g _ _ _) (fun q hq=>dR g q hq _ _ _))
 ·rw[bx,cU hg,dC hg]
  exact⟨by rw[bI (by omega)];rfl,rfl⟩
 ·have:=ez g t cells.toList 0 w cs hg
  rw[jX (by simpa using hsz)]at this;simpa using this
end
section
open Go Go.RowKit Iv
attribute [local go_sem] Oper.semAt_some
attribute [local go_sem] pw gu B_app pv B_get B_toList
theorem lk (n:Int) (w:World):Calls Tryz.prog 67 #[.int .i64 n] w fun e w'=>e= .returned (.bool false)∧w=w':=by
 have h:(n != n)=false:=by simp
 go_enter Tryz.func67,Tryz.ntmps67
 go_wp2
 go_ret
 exact⟨rfl,rfl⟩
theorem dD (a b:Int) (w:World):Calls Tryz.prog 26 #[.int .i64 a,.int .i64 b] w fun e w'=>e= .returned (.int .i64 (cmpI a b))∧w=w':=by
 obtain⟨r,hr⟩:=cR (cmpI a b)
 have HE:=aa hr;rw[hr];clear hr;go_enter Tryz.func26,Tryz.ntmps26
 go_wp2_with fail
 refine(lk a _).mono ?_
 rintro e w1 ⟨rfl,rfl⟩;go_wp2_with fail
 refine(lk b _).mono ?_
 rintro e w1 ⟨rfl,rfl⟩;go_wp2
 all_goals
  go_ret
  refine⟨lN ?_,rfl⟩
  rw[←HE.out];unfold cmpI
  (try simp only[Bool.not_eq_true',Bool.not_eq_false',decide_eq_true_eq,decide_eq_false_iff_not,beq_iff_eq,beq_eq_false_iff_ne,bne_iff_ne,bne_eq_false_iff_eq,ne_eq,aQ,Bool.or_eq_true,Bool.and_eq_false_imp,Bool.or_eq_false_iff]at*)
  repeat' (first | omega | split)
theorem fS (l:List Int) (u:Value) (w:World) (h:RRow intC 1 w w.heap.size u l):
  Calls Tryz.prog 25 #[u] w fun e w'=>e= .returned (.int .i64 (orL l))∧w=w':=by
 obtain⟨a,c,rfl,h1,h2,h3,h4⟩:=h;unfold maxLen at h2;have hlen:l.length≤9223372036854775807:=by omega
 have H4:=aa h4;obtain⟨r,hr⟩:=cR (orL l)
 have HE:=aa hr;rw[hr];clear h3 h4 hr;go_enter Tryz.func25,Tryz.ntmps25
 go_wp2
 go_loopw [8] (fun i wr=>∃k:Nat,k≤l.length∧i= .int .i64 k∧Hid (orL (l.drop k)=r)∧wr=w) (fun i _=>l.length-(intOf i).toNat)
 case atStart=>exact⟨0,aE _,rfl,aa (by simpa using HE.out),rfl⟩
 case round=>
  obtain⟨k,hk,rfl,HF,rfl⟩:=hrel;have k0:(0:Int)≤(k:Int):=by omega
  by_cases hlt:k<l.length
  ·obtain⟨bb,o,rfl,hbn,hcell⟩:=H4.out (by omega)
   obtain⟨x,hx⟩:∃x,l[k]? =some x:=⟨_,am hlt⟩
   have c1:wr.cell? ⟨bb,o+k,none⟩=some (.int .i64 x):=by have:=hcell k x hx 0 _ rfl;simpa using this
   have q1:(k:Int)<(l.length:Int):=by omega
   have hst:orL (l.drop k)=if x=0 then orL (l.drop (k+1))else x:=by
    obtain⟨h1,e1⟩:=aw.1 hx;rw[bX h1,e1];rfl
   rw[HF.out]at hst;clear hx hcell;by_cases hz:x=0
   ·rw[if_pos hz]at hst
    have HS:=aa hst;have hz':(x != 0)=false:=by simpa using hz
    clear hst hz;go_wp2
    go_roundw
    case rel=>exact⟨k+1,by omega,by go_num,aa HS.out.symm,trivial⟩
    case measure=>simp[intOf];omega
   ·rw[if_neg hz]at hst
    have HS:=aa hst;have hz':(x != 0)=true:=by rw[bne_iff_ne];exact hz
    clear hst hz;go_wp2
    go_ret
    exact⟨lN HS.out.symm,rfl⟩
  ·obtain rfl:k=l.length:=by omega
   have HG:Hid (r=0):=aa (by rw[←HF.out,List.drop_eq_nil_of_le (aj _)];rfl);go_wp2
   go_ret
   exact⟨lN HG.out.symm,rfl⟩
def cmpH (a b:Hld):Int:=orL [cmpI a.nd b.nd,cmpI a.fr b.fr,cmpI a.tt b.tt,cmpI a.tk b.tk,cmpI a.sz b.sz]
theorem jY (a b:Bkg) (w:World):Calls Tryz.prog 68 #[.agg #[.int .i64 a.ct,.int .i64 a.bg,.int .i64 a.en,.int .i64 a.tk],.agg #[.int .i64 b.ct,.int .i64 b.bg,.int .i64 b.en,.int .i64 b.tk]] w fun e w'=>e= .returned (.int .i64 (cmpB a b))∧Below w.heap.size w w':=by
 obtain⟨c0,hc0⟩:=cR (cmpI a.ct b.ct)
 obtain⟨c1,hc1⟩:=cR (cmpI a.bg b.bg)
 obtain⟨r,hr⟩:=cR (orL [c0,c1])
 rw[show cmpB a b=r from by unfold cmpB;rw[hc0,hc1,hr]];have HC0:=aa hc0;have HC1:=aa hc1;have HR:=aa hr;clear hr hc0 hc1;go_enter Tryz.func68,Tryz.ntmps68
 go_upto_region 1 with fail
 obtain⟨W,hW⟩:=cR ((w.alloc (.cells #[.int .i64 a.ct,.int .i64 a.bg,.int .i64 a.en,.int .i64 a.tk] 53)).alloc (.cells #[.int .i64 b.ct,.int .i64 b.bg,.int .i64 b.en,.int .i64 b.tk] 53))
 rw[hW];have GA:W.heap[w.heap.size]? =some (.cells #[.int .i64 a.ct,.int .i64 a.bg,.int .i64 a.en,.int .i64 a.tk] 53 (0,0)):=by rw[←hW];exact(ak _ _ _ (by simp)).trans cW
 have GB:W.heap[w.heap.size+1]? =some (.cells #[.int .i64 b.ct,.int .i64 b.bg,.int .i64 b.en,.int .i64 b.tk] 53 (0,0)):=by rw[←hW];exact cY (by simp)
 have hB:Below w.heap.size w W:=by rw[←hW];exact cZ
 have zW:w.heap.size+1<W.heap.size:=by rw[←hW];simp
 clear hW;have ca:=fun o=>cU GA o
 have cb:=fun o=>cU GB o
 refine dd (fun V=>(∀o,V.cell? ⟨w.heap.size,o,none⟩=(#[.int .i64 a.ct,.int .i64 a.bg,.int .i64 a.en,.int .i64 a.tk])[o]?)∧(∀o,V.cell? ⟨w.heap.size+1,o,none⟩=(#[.int .i64 b.ct,.int .i64 b.bg,.int .i64 b.en,.int .i64 b.tk])[o]?)) [0,1,0,1,2,0,1,0,1,3,3,3,0] [0,1,2,3,5,6,7,8,4,9,10,11,12] (by kernel_rfl) (by kernel_rfl) ?_ ?_
 case refine_1=>exact⟨ca,cb⟩
 (iterate 8 (refine cX rfl (by decide) (by rfl) (fun w1 hS=>by(try(have hS:=hS rfl;obtain hS:=hS;repeat (obtain⟨_,hS⟩:=hS)));go_simp;rfl) ?_;simp only[Act.put,ae,af,ag]))
 (refine dA rfl rfl (by rfl) (fun K hK=>?_);go_simp)
 refine(dD a.ct b.ct _).mono ?_
 rw[HC0.out];rintro e w3 ⟨rfl,rfl⟩
 (refine hK _ _ (by exact⟨ca,cb⟩) ?_;clear hK K;(try simp only[Act.put,ae,af,ag]))
 (refine di rfl rfl (by rfl) (fun K hK=>?_);go_simp)
 refine(dD a.bg b.bg _).mono ?_
 rw[HC1.out];rintro e w3 ⟨rfl,rfl⟩
 (refine hK _ _ ?_;clear hK K;(try simp only[Act.put,ae,af,ag]))
 (refine di rfl rfl (by rfl) (fun K hK=>?_);go_simp)
 (refine hK _ _ ?_;clear hK K;(try simp only[Act.put,ae,af,ag]))
 (refine di rfl rfl (by rfl) (fun K hK=>?_);go_simp)
 refine(fS [c0,c1] _ _ (RRow.ints (l:=[c0,c1]) (t:=3) ?_ rfl ?_ (by simp))).mono ?_
 ·exact cW
 ·simp
 rw[HR.out];rintro e w8 ⟨rfl,rfl⟩
 (refine hK _ _ ?_;clear hK K;(try simp only[Act.put,ae,af,ag]))
 (iterate 1 (refine cX rfl (by decide) (by rfl) (fun w1 hS=>by(try(have hS:=hS rfl;obtain hS:=hS;repeat (obtain⟨_,hS⟩:=hS)));go_simp;rfl) ?_;simp only[Act.put,ae,af,ag]))
 refine du ?_
 go_wp2
 go_ret
 exact⟨rfl,cZ⟩
theorem jZ (a b:Hld) (w:World):Calls Tryz.prog 61 #[.agg #[.int .i64 a.nd,.int .i64 a.fr,.int .i64 a.tt,.int .i64 a.sz,.int .i64 a.tk],.agg #[.int .i64 b.nd,.int .i64 b.fr,.int .i64 b.tt,.int .i64 b.sz,.int .i64 b.tk]] w fun e w'=>e= .returned (.int .i64 (cmpH a b))∧Below w.heap.size w w':=by
 obtain⟨c0,hc0⟩:=cR (cmpI a.nd b.nd)
 obtain⟨c1,hc1⟩:=cR (cmpI a.fr b.fr)
 obtain⟨c2,hc2⟩:=cR (cmpI a.tt b.tt)
 obtain⟨c3,hc3⟩:=cR (cmpI a.tk b.tk)
 obtain⟨c4,hc4⟩:=cR (cmpI a.sz b.sz)
 obtain⟨r,hr⟩:=cR (orL [c0,c1,c2,c3,c4])
 rw[show cmpH a b=r from by unfold cmpH;rw[hc0,hc1,hc2,hc3,hc4,hr]];have HC0:=aa hc0;have HC1:=aa hc1;have HC2:=aa hc2;have HC3:=aa hc3;have HC4:=aa hc4;have HR:=aa hr;clear hr hc0 hc1 hc2 hc3 hc4;go_enter Tryz.func61,Tryz.ntmps61
 go_upto_region 1 with fail
 obtain⟨W,hW⟩:=cR ((w.alloc (.cells #[.int .i64 a.nd,.int .i64 a.fr,.int .i64 a.tt,.int .i64 a.sz,.int .i64 a.tk] 75)).alloc (.cells #[.int .i64 b.nd,.int .i64 b.fr,.int .i64 b.tt,.int .i64 b.sz,.int .i64 b.tk] 75))
 rw[hW];have GA:W.heap[w.heap.size]? =some (.cells #[.int .i64 a.nd,.int .i64 a.fr,.int .i64 a.tt,.int .i64 a.sz,.int .i64 a.tk] 75 (0,0)):=by rw[←hW];exact(ak _ _ _ (by simp)).trans cW
 have GB:W.heap[w.heap.size+1]? =some (.cells #[.int .i64 b.nd,.int .i64 b.fr,.int .i64 b.tt,.int .i64 b.sz,.int .i64 b.tk] 75 (0,0)):=by rw[←hW];exact cY (by simp)
 have hB:Below w.heap.size w W:=by rw[←hW];exact cZ
 have zW:w.heap.size+1<W.heap.size:=by rw[←hW];simp
 clear hW;have ca:=fun o=>cU GA o
 have cb:=fun o=>cU GB o
 refine dd (fun V=>(∀o,V.cell? ⟨w.heap.size,o,none⟩=(#[.int .i64 a.nd,.int .i64 a.fr,.int .i64 a.tt,.int .i64 a.sz,.int .i64 a.tk])[o]?)∧(∀o,V.cell? ⟨w.heap.size+1,o,none⟩=(#[.int .i64 b.nd,.int .i64 b.fr,.int .i64 b.tt,.int .i64 b.sz,.int .i64 b.tk])[o]?)) [0,1,0,1,2,0,1,0,1,2,0,1,0,1,2,0,1,0,1,2,0,1,0,1,3,3,3,0] [0,1,2,3,5,6,7,8,10,11,12,13,15,16,17,18,20,21,22,23,4,9,14,19,24,25,26,27] (by kernel_rfl) (by kernel_rfl) ?_ ?_
 case refine_1=>exact⟨ca,cb⟩
 (iterate 20 (refine cX rfl (by decide) (by rfl) (fun w1 hS=>by(try(have hS:=hS rfl;obtain hS:=hS;repeat (obtain⟨_,hS⟩:=hS)));go_simp;rfl) ?_;simp only[Act.put,ae,af,ag]))
 (refine dA rfl rfl (by rfl) (fun K hK=>?_);go_simp)
 refine(dD a.nd b.nd _).mono ?_
 rw[HC0.out];rintro e w3 ⟨rfl,rfl⟩
 (refine hK _ _ (by exact⟨ca,cb⟩) ?_;clear hK K;(try simp only[Act.put,ae,af,ag]))
 (refine dA rfl rfl (by rfl) (fun K hK=>?_);go_simp)
 refine(dD a.fr b.fr _).mono ?_
 rw[HC1.out];rintro e w3 ⟨rfl,rfl⟩
 (refine hK _ _ (by exact⟨ca,cb⟩) ?_;clear hK K;(try simp only[Act.put,ae,af,ag]))
 (refine dA rfl rfl (by rfl) (fun K hK=>?_);go_simp)
 refine(dD a.tt b.tt _).mono ?_
 rw[HC2.out];rintro e w3 ⟨rfl,rfl⟩
 (refine hK _ _ (by exact⟨ca,cb⟩) ?_;clear hK K;(try simp only[Act.put,ae,af,ag]))
 (refine dA rfl rfl (by rfl) (fun K hK=>?_);go_simp)
 refine(dD a.tk b.tk _).mono ?_
 rw[HC3.out];rintro e w3 ⟨rfl,rfl⟩
 (refine hK _ _ (by exact⟨ca,cb⟩) ?_;clear hK K;(try simp only[Act.put,ae,af,ag]))
 (refine di rfl rfl (by rfl) (fun K hK=>?_);go_simp)
 refine(dD a.sz b.sz _).mono ?_
 rw[HC4.out];rintro e w3 ⟨rfl,rfl⟩
 (refine hK _ _ ?_;clear hK K;(try simp only[Act.put,ae,af,ag]))
 (refine di rfl rfl (by rfl) (fun K hK=>?_);go_simp)
 (refine hK _ _ ?_;clear hK K;(try simp only[Act.put,ae,af,ag]))
 (refine di rfl rfl (by rfl) (fun K hK=>?_);go_simp)
 refine(fS [c0,c1,c2,c3,c4] _ _ (RRow.ints (l:=[c0,c1,c2,c3,c4]) (t:=3) ?_ rfl ?_ (by simp))).mono ?_
 ·exact cW
 ·simp
 rw[HR.out];rintro e w8 ⟨rfl,rfl⟩
 (refine hK _ _ ?_;clear hK K;(try simp only[Act.put,ae,af,ag]))
 (iterate 1 (refine cX rfl (by decide) (by rfl) (fun w1 hS=>by(try(have hS:=hS rfl;obtain hS:=hS;repeat (obtain⟨_,hS⟩:=hS)));go_simp;rfl) ?_;simp only[Act.put,ae,af,ag]))
 refine du ?_
 go_wp2
 go_ret
 exact⟨rfl,cZ⟩
end
section
open Go Go.RowKit Iv
attribute [local go_sem] Oper.semAt_some
attribute [local go_sem] pw gu B_app pv B_get B_toList
structure Lbl where
 nd:Int
 fr:Int
 tt:Int
 tm:Int
def lblC (x:Lbl):List Value:=[.int .i64 x.nd,.int .i64 x.fr,.int .i64 x.tt,.int .i64 x.tm]
theorem fA (x:Lbl):(lblC x).length=4:=rfl
def cmpL (a b:Lbl):Int:=orL [cmpI a.tm b.tm,cmpI a.nd b.nd,cmpI a.fr b.fr]
def sameL (a b:Lbl):Bool:=(a.nd==b.nd)&&(a.fr==b.fr)
theorem lcmp_any (a b:Lbl) (w:World):Calls Tryz.prog 120 #[.agg #[.int .i64 a.nd,.int .i64 a.fr,.int .i64 a.tt,.int .i64 a.tm],.agg #[.int .i64 b.nd,.int .i64 b.fr,.int .i64 b.tt,.int .i64 b.tm]] w fun e w'=>e= .returned (.int .i64 (cmpL a b))∧Below w.heap.size w w':=by
 obtain⟨c0,hc0⟩:=cR (cmpI a.tm b.tm)
 obtain⟨c1,hc1⟩:=cR (cmpI a.nd b.nd)
 obtain⟨c2,hc2⟩:=cR (cmpI a.fr b.fr)
 obtain⟨r,hr⟩:=cR (orL [c0,c1,c2])
 rw[show cmpL a b=r from by unfold cmpL;rw[hc0,hc1,hc2,hr]];have HC0:=aa hc0;have HC1:=aa hc1;have HC2:=aa hc2;have HR:=aa hr;clear hr hc0 hc1 hc2;go_enter Tryz.func120,Tryz.ntmps120
 go_upto_region 1 with fail
 obtain⟨W,hW⟩:=cR ((w.alloc (.cells #[.int .i64 a.nd,.int .i64 a.fr,.int .i64 a.tt,.int .i64 a.tm] 153)).alloc (.cells #[.int .i64 b.nd,.int .i64 b.fr,.int .i64 b.tt,.int .i64 b.tm] 153))
 rw[hW];have GA:W.heap[w.heap.size]? =some (.cells #[.int .i64 a.nd,.int .i64 a.fr,.int .i64 a.tt,.int .i64 a.tm] 153 (0,0)):=by rw[←hW];exact(ak _ _ _ (by simp)).trans cW
 have GB:W.heap[w.heap.size+1]? =some (.cells #[.int .i64 b.nd,.int .i64 b.fr,.int .i64 b.tt,.int .i64 b.tm] 153 (0,0)):=by rw[←hW];exact cY (by simp)
 have hB:Below w.heap.size w W:=by rw[←hW];exact cZ
 have zW:w.heap.size+1<W.heap.size:=by rw[←hW];simp
 clear hW;have ca:=fun o=>cU GA o
 have cb:=fun o=>cU GB o
 refine dd (fun V=>(∀o,V.cell? ⟨w.heap.size,o,none⟩=(#[.int .i64 a.nd,.int .i64 a.fr,.int .i64 a.tt,.int .i64 a.tm])[o]?)∧(∀o,V.cell? ⟨w.heap.size+1,o,none⟩=(#[.int .i64 b.nd,.int .i64 b.fr,.int .i64 b.tt,.int .i64 b.tm])[o]?)) [0,1,0,1,2,0,1,0,1,2,0,1,0,1,3,3,3,0] [0,1,2,3,5,6,7,8,10,11,12,13,4,9,14,15,16,17] (by kernel_rfl) (by kernel_rfl) ?_ ?_
 case refine_1=>exact⟨ca,cb⟩
 (iterate 12 (refine cX rfl (by decide) (by rfl) (fun w1 hS=>by(try(have hS:=hS rfl;obtain hS:=hS;repeat (obtain⟨_,hS⟩:=hS)));go_simp;rfl) ?_;simp only[Act.put,ae,af,ag]))
 (refine dA rfl rfl (by rfl) (fun K hK=>?_);go_simp)
 refine(dD a.tm b.tm _).mono ?_
 rw[HC0.out];rintro e w3 ⟨rfl,rfl⟩
 (refine hK _ _ (by exact⟨ca,cb⟩) ?_;clear hK K;(try simp only[Act.put,ae,af,ag]))
 (refine dA rfl rfl (by rfl) (fun K hK=>?_);go_simp)
 refine(dD a.nd b.nd _).mono ?_
 rw[HC1.out];rintro e w3 ⟨rfl,rfl⟩
 (refine hK _ _ (by exact⟨ca,cb⟩) ?_;clear hK K;(try simp only[Act.put,ae,af,ag]))
 (refine di rfl rfl (by rfl) (fun K hK=>?_);go_simp)
 refine(dD a.fr b.fr _).mono ?_
 rw[HC2.out];rintro e w3 ⟨rfl,rfl⟩
 (refine hK _ _ ?_;clear hK K;(try simp only[Act.put,ae,af,ag]))
 (refine di rfl rfl (by rfl) (fun K hK=>?_);go_simp)
 (refine hK _ _ ?_;clear hK K;(try simp only[Act.put,ae,af,ag]))
 (refine di rfl rfl (by rfl) (fun K hK=>?_);go_simp)
 refine(fS [c0,c1,c2] _ _ (RRow.ints (l:=[c0,c1,c2]) (t:=3) ?_ rfl ?_ (by simp))).mono ?_
 ·exact cW
 ·simp
 rw[HR.out];rintro e w8 ⟨rfl,rfl⟩
 (refine hK _ _ ?_;clear hK K;(try simp only[Act.put,ae,af,ag]))
 (iterate 1 (refine cX rfl (by decide) (by rfl) (fun w1 hS=>by(try(have hS:=hS rfl;obtain hS:=hS;repeat (obtain⟨_,hS⟩:=hS)));go_simp;rfl) ?_;simp only[Act.put,ae,af,ag]))
 refine du ?_
 go_wp2
 go_ret
 exact⟨rfl,cZ⟩
theorem j3 (a b:Lbl) (w:World):Calls Tryz.prog 81 #[.agg #[.int .i64 a.nd,.int .i64 a.fr,.int .i64 a.tt,.int .i64 a.tm],.agg #[.int .i64 b.nd,.int .i64 b.fr,.int .i64 b.tt,.int .i64 b.tm]] w fun e w'=>e= .returned (.bool (sameL a b))∧Below w.heap.size w w':=by
 by_cases z:a.nd=b.nd
 ·have e1:(a.nd==b.nd)=true:=by simpa using z
  have e:sameL a b=(a.fr==b.fr):=by unfold sameL;rw[e1,Bool.true_and]
  rw[e];clear z e;go_enter Tryz.func81,Tryz.ntmps81
  go_wp2
  go_ret
  exact⟨by simp,cZ⟩
 ·have e1:(a.nd==b.nd)=false:=by simpa using z
  have e:sameL a b=false:=by unfold sameL;rw[e1,Bool.false_and]
  rw[e];clear z e;go_enter Tryz.func81,Tryz.ntmps81
  go_wp2
  go_ret
  exact⟨by simp,cZ⟩
theorem lab1_any (x y:Lbl) (z:Nat) (w:World) (hz:w.heap[z]? =some (.cells #[.int .i64 x.nd,.int .i64 x.fr,.int .i64 x.tt,.int .i64 x.tm] 153 (0,0))):
  Calls Tryz.prog 122 #[.agg #[.int .i64 y.nd,.int .i64 y.fr,.int .i64 y.tt,.int .i64 y.tm],.pointer (some ⟨z,0,none⟩)] w fun e w'=>e= .returned (.bool (sameL x y))∧Below w.heap.size w w':=by
 have cz:=fun o=>cU hz o
 have hzl:z<w.heap.size:=(ai.1 hz).1;obtain⟨r,hr⟩:=cR (sameL x y)
 have HR:=aa hr;rw[hr];clear hr hz;go_enter Tryz.func122,Tryz.ntmps122
 go_wp2_with fail
 refine(j3 x y _).mono ?_
 rw[HR.out];rintro e w1 ⟨rfl,hb1⟩;go_wp2
 go_ret
 exact⟨rfl,cZ⟩
theorem lab2_any (x y:Lbl) (h:Int×Int×Int×Int) (z:Nat) (w:World) (hz:w.heap[z]? =some (.cells #[.int .i64 x.nd,.int .i64 x.fr,.int .i64 x.tt,.int .i64 x.tm,.int .i64 h.1,.int .i64 h.2.1,.int .i64 h.2.2.1,.int .i64 h.2.2.2] 158 (0,0))):
  Calls Tryz.prog 124 #[.agg #[.int .i64 y.nd,.int .i64 y.fr,.int .i64 y.tt,.int .i64 y.tm],.pointer (some ⟨z,0,none⟩)] w fun e w'=>e= .returned (.bool (sameL x y))∧Below w.heap.size w w':=by
 have cz:=fun o=>cU hz o
 have hzl:z<w.heap.size:=(ai.1 hz).1;obtain⟨r,hr⟩:=cR (sameL x y)
 have HR:=aa hr;rw[hr];clear hr hz;go_enter Tryz.func124,Tryz.ntmps124
 go_wp2_with fail
 refine(j3 x y _).mono ?_
 rw[HR.out];rintro e w1 ⟨rfl,hb1⟩;go_wp2
 go_ret
 exact⟨rfl,cZ⟩
def PredL (f:FuncId) (caps:Array Value) (Pd:Lbl→Bool) (w:World) (l:List Lbl):Prop:=(∀args W,(callFunc f args).run Tryz.prog W= .ok (.enter f args) W)∧
 ∀(x:Lbl) (W:World),x∈l→Below w.heap.size w W→Calls Tryz.prog f (#[.agg #[.int .i64 x.nd,.int .i64 x.fr,.int .i64 x.tt,.int .i64 x.tm]]++caps) W fun e W'=>e= .returned (.bool (Pd x))∧Below W.heap.size W W'
def PredLIdx (Pd:Lbl→Bool) (l:List Lbl) (w:World) (e:Ending) (w':World):Prop:=Below w.heap.size w w'∧
 ((e= .returned (.int .i64 (-1))∧∀x∈l,Pd x=false)∨∃k:Nat,e= .returned (.int .i64 k)∧k<l.length∧(∀x∈l.take k,Pd x=false)∧∀x,l[k]? =some x→Pd x=true)
theorem jx (l:List Lbl) (u:Value) (f:FuncId) (caps:Array Value) (Pd:Lbl→Bool) (w:World) (h:RRow lblC 4 w w.heap.size u l) (hp:PredL f caps Pd w l):
  Calls Tryz.prog 159 #[u,.func (.func f) #[] caps] w (PredLIdx Pd l w):=by
 obtain⟨a,c,rfl,h1,h2,h3,h4⟩:=h;unfold maxLen at h2;have hlen:l.length≤9223372036854775807:=by omega
 have H4:=aa h4;obtain⟨hcall,hq⟩:=hp;have HP:=aa hq;clear h3 h4 hq;go_enter Tryz.func159,Tryz.ntmps159
 go_wp2
 go_loopw [8] (fun i wr=>∃k:Nat,k≤l.length∧i= .int .i64 k∧Hid (∀x∈l.take k,Pd x=false)∧Below w.heap.size w wr) (fun i _=>l.length-(intOf i).toNat)
 case atStart=>exact⟨0,aE _,rfl,aa (by simp),ap _ _⟩
 case round=>
  obtain⟨k,hk,rfl,HF,hB⟩:=hrel;by_cases hlt:k<l.length
  ·obtain⟨bb,o,rfl,hbn,hcell⟩:=H4.out (by omega)
   obtain⟨x,hx⟩:∃x,l[k]? =some x:=⟨_,am hlt⟩
   have q0:wr.cell? ⟨bb,o+k*4,none⟩=some (.int .i64 x.nd):=(hB.cell (p:=⟨bb,o+k*4+0,none⟩) hbn).trans (hcell k x hx 0 _ rfl);have q1:wr.cell? ⟨bb,o+k*4+1,none⟩=some (.int .i64 x.fr):=(hB.cell (p:=⟨bb,o+k*4+1,none⟩) hbn).trans (hcell k x hx 1 _ rfl);have q2:wr.cell? ⟨bb,o+k*4+2,none⟩=some (.int .i64 x.tt):=(hB.cell (p:=⟨bb,o+k*4+2,none⟩) hbn).trans (hcell k x hx 2 _ rfl);have q3:wr.cell? ⟨bb,o+k*4+3,none⟩=some (.int .i64 x.tm):=(hB.cell (p:=⟨bb,o+k*4+3,none⟩) hbn).trans (hcell k x hx 3 _ rfl);have k0:(0:Int)≤(k:Int):=by omega
   have k1:(k:Int)<(l.length:Int):=by omega
   obtain⟨q,hq⟩:=cR (Pd x)
   have HQ:=aa hq;have HX:=aa hx;have hsz:=hB.size;clear hq hx hcell;go_wp2_with fail
   refine(HP.out x _ (az HX.out) hB).mono ?_
   rw[HQ.out];rintro e w1 ⟨rfl,hb1⟩;have hb2:Below w.heap.size w w1:=cZ
   cases q with
   | false=>
    go_wp2
    go_roundw
    case rel=>
     refine⟨k+1,by omega,by go_num,aa ?_,hb2⟩
     intro y hy;rw[aN,HX.out]at hy;rcases aA.1 hy with hy | hy
     ·exact HF.out y hy
     ·simp at hy;subst hy;exact HQ.out
    case measure=>simp[intOf];omega
   | true=>
    go_wp2
    go_ret
    exact⟨hb2,.inr ⟨k,rfl,hlt,HF.out,fun y hy=>by rw[HX.out]at hy;injection hy with hy;subst hy;exact HQ.out⟩⟩
  ·obtain rfl:k=l.length:=by omega
   go_wp2
   go_ret
   exact⟨hB,.inl ⟨rfl,by have:=HF.out;rwa [aL]at this⟩⟩
theorem j4 (l:List Lbl) (u:Value) (f:FuncId) (caps:Array Value) (Pd:Lbl→Bool) (w:World) (h:RRow lblC 4 w w.heap.size u l) (hp:PredL f caps Pd w l):
  Calls Tryz.prog 123 #[u,.func (.func f) #[] caps] w fun e w'=>e= .returned (.bool (l.any Pd))∧Below w.heap.size w w':=by
 have HR:=aa h;have HP:=aa hp;clear h hp;go_enter Tryz.func123,Tryz.ntmps123
 go_wp2_with fail
 refine(jx l u f caps Pd _ HR.out HP.out).mono ?_
 rintro e w1 ⟨hb1,⟨rfl,hF⟩ | ⟨k,rfl,hk,hF,hT⟩⟩
 ·have HL:Hid (l.any Pd=false):=aa (by rw[cM];intro x hx;rw[hF x hx];simp)
  clear hF;go_wp2
  go_ret
  exact⟨by rw[HL.out];rfl,hb1⟩
 ·have HL:Hid (l.any Pd=true):=aa (by rw[List.any_eq_true];exact⟨l[k],bY hk,hT _ (am hk)⟩)
  clear hF hT;go_wp2
  go_ret
  exact⟨by rw[HL.out];first | rfl | (simp;done),hb1⟩
end
end Go.Proofs.YtfnciigbbolckaaGreat
