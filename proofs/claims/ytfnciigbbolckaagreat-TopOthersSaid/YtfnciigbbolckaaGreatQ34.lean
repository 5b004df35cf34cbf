/- Part 34 of the proof about mailboattop.TopOthers. No condition. -/
import Derived.Test.YtfnciigbbolckaaGreatQ00
import Derived.Test.YtfnciigbbolckaaGreatQ25
import Derived.Test.YtfnciigbbolckaaGreatQ32
import Derived.Test.YtfnciigbbolckaaGreatQ33
set_option linter.unusedVariables false
set_option linter.unusedSimpArgs false
set_option maxRecDepth 100000
set_option maxHeartbeats 64000000
namespace Go.Proofs.YtfnciigbbolckaaGreat
open Go Go.RowKit Iv
attribute [local go_sem] Oper.semAt_some
attribute [local go_sem] pw gu B_app pv B_get B_toList
section
theorem gh {P:Program} {ops:Array Oper} {rest:List Oper} {o:Oper} {a:Act} {Q:Exit→Act→World→Prop} {w:World} (hgd:o.guard=none) (s x:Operand) (t tn:TypeId) (ho:o.op= .call {callee:=.builtin .append,args:=#[s,x],argTypes:=#[t,tn]})
  (e:TypeId) (i0:TypeInfo) (z:Value) (k bytes:Nat) (ht:P.underlying t=some (.slice e)) (kn:IntKind) (htn:P.underlying tn=some (.int kn)) (hin:P.info? e=some i0) (hz0:i0.zero=some z) (hz1:i0.size=k) (hz2:i0.bytes=bytes) (hzs:z.cells.size=k) (hk:0<k) (hb:bytes≤1000)
  (g i c:Nat) (hs:a.eval s= .slice (some ⟨g,0,none⟩) i c) (n m:Nat) (kk:Int) (hx:a.eval x= .int .i64 kk) (hkk:kk=(m:Int)) (hm:0<m) (hn:n=i+m) (hc:c<n) (hbig:n≤10000) (X1:List Value) (hX1:X1.length=i*k) (hcell:∀j v,X1[j]? =some v→w.cell? ⟨g,j,none⟩=some v)
  (h:∀G w' Z,n≤G→G≤maxLen→X1.length+Z.length=G*k→Hid (w'.heap[w.heap.size]? =some (.cells (X1++Z).toArray e (0,0)))→Below w.heap.size w w'→wpList P ops Q rest (a.put o.dst (.slice (some ⟨w.heap.size,0,none⟩) n G)) w'):wpList P ops Q (o::rest) a w:=by
 subst hn hkk;have hold:(Builtin.firstCells i0.size i (.slice (some ⟨g,0,none⟩) i c)).run P w.drew= .ok X1.toArray w.drew:=by
  rw[hz1];exact run_firstCells_some w.drew k i ⟨g,0,none⟩ i c X1 (by rw[hX1]) (fun j v hj=>by rw[fj,bx];exact hcell j v hj)
 have hcz:c+0<i+m:=hc;have hfit:Builtin.nextslicecap (i+m) c*i0.bytes≤281474976710656:=by
  refine growslice_fits hc ?_
  rw[hz2];have:(i+m)*bytes≤10000*1000:=Nat.mul_le_mul hbig hb;omega
 have h48:m*i0.bytes≤281474976710656:=by
  rw[hz2];have:m*bytes≤10000*1000:=Nat.mul_le_mul (by omega) hb;omega
 have hr:=Lib.run_append_grow_zeros w t tn o.type e i0 z .i64 kn ht htn hin hz0 (some ⟨g,0,none⟩) i c X1 hold m hm (by omega) hc (by omega) h48 hfit;have hG:=grownCap_ge w (i+m) c e;have hGm:=grownCap_le_maxLen w (i+m) c e (by unfold maxLen;omega);refine wpList_plain hgd fun K hK=>?_
 unfold Oper.wp execOp;simp only[ho,resolve,invoke,builtin,Sem.run_bind,Sem.run_pure,Result.andThen_ok,List.map_toArray,List.map_cons,List.map_nil,hs,hx,hr];refine hK _ _ (h (grownCap w (i+m) c e) _ ((Builtin.zeroCells z.cells m).toList++(Builtin.zeroCells z.cells (grownCap w (i+m) c e-(i+m))).toList) hG hGm ?_ (aa ?_) ?_)
 ·have e1:((Builtin.zeroCells z.cells m).toList++(Builtin.zeroCells z.cells (grownCap w (i+m) c e-(i+m))).toList).length=m*k+(grownCap w (i+m) c e-(i+m))*k:=by
   simp[size_zeroCells,hzs]
  rw[e1,hX1,←Nat.add_mul,←Nat.add_mul];congr 1;omega
 ·rw[show(X1++((Builtin.zeroCells z.cells m).toList++(Builtin.zeroCells z.cells (grownCap w (i+m) c e-(i+m))).toList)).toArray=X1.toArray++Builtin.zeroCells z.cells m++Builtin.zeroCells z.cells (grownCap w (i+m) c e-(i+m))by simp]
  exact cW (W:=w.drew)
 ·exact de (bdrew (ap _ _))
theorem gt {cur:Array Value} {X:List Value} {n:Nat} (h:cur.toList.take n=X) {w:World} {g:Nat} {t:TypeId} (hg:w.heap[g]? =some (.cells cur t (0,0))) (j:Nat) (v:Value) (hj:X[j]? =some v):w.cell? ⟨g,j,none⟩=some v:=by
 rw[cU hg,←bw];rw[←h,bA]at hj;split at hj
 ·exact hj
 ·cases hj
def InsP_bkg (l:List Bkg) (x:Bkg) (i:Nat) (base:Nat) (w:World) (e:Ending) (w':World):Prop:=(∃r,e= .returned r∧w'.ownsRow base 53 4 r (l.length+1) ((l.take i++x::l.drop i).flatMap bkgC))∧Below base w w'
theorem ins_bkg (l:List Bkg) (x:Bkg) (i:Nat) (v:Value) (vb:Nat) (base:Nat) (w:World) (hown:w.ownsRow base 53 4 v l.length (l.flatMap bkgC)) (hi:i≤l.length) (hl:l.length≤600) (hvb:w.heap[vb]? =some (.cells (bkgC x).toArray 53 (0,0))) (hne:v.ownBlock≠some vb) (hbase:base≤w.heap.size):
  Calls Tryz.prog 71 #[v,.int .i64 (i:Int),.slice (some ⟨vb,0,none⟩) 1 1] w (InsP_bkg l x i base w):=by
 obtain⟨i0,hin,hz0,hz1,hz2⟩:=info_parts jP;have hsz:(Tryz.prog.info? 53).map (·.size)=some 4:=by rw[hin];simp[hz1]
 obtain⟨va,vc,rfl⟩:=dg hown;have hlen:=hown.1;have HOW:=aa hown;have HVB:=aa hvb;have hvlt:vb<w.heap.size:=(ai.1 hvb).1;have hi0:(0:Int)≤(i:Int):=by omega
 have hi1:(i:Int)≤(l.length:Int):=by omega
 have hln:l.length≤9223372036854775807:=by omega
 by_cases hie:i=l.length
 ·subst hie
  have HRX:Hid (RRow bkgC 4 w w.heap.size (.slice (some ⟨vb,0,none⟩) 1 1) [x]):=aa (by
   refine⟨_,_,rfl,aj _,by unfold maxLen;omega,(fun e=>by cases e),fun _=>⟨vb,0,rfl,hvlt,fun i y hy j u hu=>?_⟩⟩
   obtain rfl:i=0:=by have:=(aw.1 hy).1;simp at this;omega
   obtain rfl:x=y:=by simpa using hy
   rw[cU hvb];simpa using hu)
  clear hown hvb;go_enter Tryz.func71,Tryz.ntmps71
  go_upto_region 7 with fail
  go_wp2_with (at_builtin;refine ew bkgC 4 (by decide) dL rfl _ _ 33 53 rfl i0 _ 32 bU hin hz0 hz1 hz2 rfl base _ _ _ rfl HOW.out _ [x] rfl HRX.out (eF gD [x]) (by simp only[List.length_singleton];omega) (by omega) hbase rfl ?_;intro v3 w3 hO3 hg3 hat3;have HO3:=aa hO3;have HB3:Hid (Below base w w3):=aa ((ap base w).grown hg3 hbase (fun q hq=>(HOW.out.lt q hq).1));clear hO3 hg3 hat3)
  all_goals
   go_ret
   refine⟨⟨_,rfl,?_⟩,HB3.out⟩
   have e:(l.take l.length++x::l.drop l.length)=l++[x]:=by simp
   rw[e,aV];exact HO3.out
 ·have hil:i<l.length:=by omega
  rcases hown.2 with⟨h1,h2⟩ | ⟨g,cap,cur,h1,hbg,hcur,hn,hm,hs,ht⟩
  ·omega
  injection h1 with e1 _ e3
  subst e1 e3;obtain⟨X1,hX1⟩:=cR ((l.flatMap bkgC).take (i*4))
  obtain⟨X2,hX2⟩:=cR ((l.flatMap bkgC).drop (i*4))
  have hL1:X1.length=i*4:=by rw[←hX1,aS,hlen];omega
  have hL2:X2.length=(l.length-i)*4:=by rw[←hX2,List.length_drop,hlen];omega
  have hLY:(bkgC x).length=4:=dL x;have HFL:Hid ((l.take i++x::l.drop i).flatMap bkgC=X1++(bkgC x++X2)):=aa (by
   rw[aV,cG,jr bkgC 4 dL,js bkgC 4 dL,hX1,hX2])
  have HLN:Hid (X1.length=i*4∧X2.length=(l.length-i)*4∧(bkgC x).length=4):=aa ⟨hL1,hL2,hLY⟩;have hone:∀v∈X2,v.oneCell'=true:=fun v hv=>eF gD l v (by rw[←hX2]at hv;exact List.mem_of_mem_drop hv)
  have honeY:∀v∈bkgC x,v.oneCell'=true:=fun v hv=>eF gD [x] v (by simpa using hv)
  have hc1:∀j v,X1[j]? =some v→w.cell? ⟨g,j,none⟩=some v:=fun j v hj=>by
   refine gt ht hcur j v ?_
   rw[←hX1,bA]at hj;split at hj
   ·exact hj
   ·cases hj
  have hc2:∀j v,X2[j]? =some v→w.cell? ⟨g,i*4+j,none⟩=some v:=fun j v hj=>gt ht hcur _ v (by rw[←hX2,List.getElem?_drop]at hj;exact hj)
  have hcY:∀j v,(bkgC x)[j]? =some v→w.cell? ⟨vb,j,none⟩=some v:=fun j v hj=>by rw[cU hvb];simpa using hj
  have HX1:=aa hX1;have HON:=aa (cS hone (cS honeY (cS hc1 (cS hc2 hcY))));have hgl:g<w.heap.size:=(ai.1 hcur).1;have hgv:g≠vb:=fun e=>hne (by rw[e];rfl)
  have HCUR:=aa (cS hcur (cS hs ht));unfold maxLen at hm;clear hone honeY hc1 hc2 hcY hvb hown hX1 hX2 hL1 hL2 hLY hcur hs ht hne;have q1:((i:Int)==(l.length:Int))=false:=by rw[beq_eq_false_iff_ne];omega
  by_cases hroom:vc<l.length+1
  ·
   obtain rfl:vc=l.length:=by omega
   have q2:decide ((l.length:Int)+1>(l.length:Int))=true:=decide_eq_true (by omega);have q3:¬(l.length=i):=by omega
   go_enter Tryz.func71,Tryz.ntmps71
   go_upto_region 9 with fail
   go_upto_region 10 with(at_builtin;refine gh rfl _ _ 33 3 rfl 53 i0 _ 4 32 bU .i64 bp hin hz0 hz1 hz2 rfl (by decide) (by decide) g i _ rfl (l.length+1) (l.length+1-i) _ rfl (by omega) (by omega) (by omega) (by omega) (by omega) X1 HLN.out.1 HON.out.2.2.1 ?_;intro G w1 Z hG1 hG2 hG3 hW1 hb1;have HW1:=hW1;have HB1:=aa hb1;clear hW1 hb1)
   have hz1':w.heap.size<w1.heap.size:=(ai.1 HW1.out).1;obtain⟨N,hN⟩:=cR w.heap.size
   have HN:=aa hN;rw[hN]at HW1 hz1' hgl hvlt ⊢;have HL3:Hid (i*4+4+(l.length-i)*4≤(X1++Z).length):=aa (by
    rw[ay,hG3];omega)
   have q4:¬(G=i):=by omega
   have q5:¬(G=i+1):=by omega
   unfold maxLen at hG2;clear hN;go_wp2_with (refine eM rfl _ _ 33 33 rfl 53 4 N (i*4) _ _ ⟨vb,0,none⟩ 1 1 (X1++Z) 53 (bkgC x) bU hsz rfl rfl HW1.out (by rw[HLN.out.2.2];simp only[Nat.min_def];split<;>omega) (fun j v hj=>by rw[fj,bx];exact(HB1.out.cell (p:=⟨vb,j,none⟩) (by rw[HN.out];exact hvlt)).trans (HON.out.2.2.2.2 j v hj)) (by rw[HLN.out.2.2];have:=HL3.out;omega) HON.out.2.1 ?_;intro w2 HW2 hb2 ho2 hs2;have HH2:=aa (cS hb2 (cS ho2 hs2));clear hb2 ho2 hs2)
   have z2:N<w2.heap.size:=by rw[HH2.out.2.2];exact hz1'
   have hw1:IntKind.i64.wrap ((i:Int)+1)=((i+1:Nat):Int):=by rw[ax];omega
   have htn:(((i+1:Nat):Int)).toNat=i+1:=by omega
   have hp1:(0:Int)≤((i+1:Nat):Int):=by omega
   have hp2:((i+1:Nat):Int)≤((l.length+1:Nat):Int):=by omega
   have hp3:i+1≤l.length+1:=by omega
   refine dd (fun V=>Below w2.heap.size w2 V) [0,0,0,0,0,0,0,0,3] [0,1,2,3,4,5,6,7,8] (by kernel_rfl) (by kernel_rfl) ?_ ?_
   case refine_1=>exact bdrew (ap _ _)
   (iterate 8 (first | (refine cX rfl (by decide) (by rfl) (fun w1 hS=>by(try(obtain⟨_,_⟩:=bcell (hS rfl)));go_simp;rfl) ?_;simp only[Act.put,ae,af,ag]) | (refine dm rfl (by decide) (by rfl) ?_;simp only[Act.put,ae,af,ag])))
   refine di rfl rfl (by rfl) (fun K hK=>?_)
   refine fh _ _ 33 33 rfl 53 4 N ((i+1)*4) _ _ ⟨g,i*4,none⟩ (l.length-i) _ (splice (X1++Z) (i*4) (bkgC x)) 53 X2 bU hsz rfl rfl (show w2.drew.heap[N]? =_ from HW2.out) (by rw[HLN.out.2.1];congr 1;simp only[Nat.min_def];split<;>omega) (fun j v hj=>by
    rw[fj];refine((aU (HH2.out.2.1 g (by omega))).trans (HB1.out.cell (p:=⟨g,i*4+j,none⟩) (by rw[HN.out];exact hgl))).trans (HON.out.2.2.2.1 j v hj)) (by rw[eb _ _ _ (by rw[HLN.out.2.2];have:=HL3.out;omega),HLN.out.2.1];have:=HL3.out;omega) HON.out.1 ?_
   intro w3 HW3 hb3 ho3 hs3;have HBB:Hid (Below base w w3):=aa ((HB1.out.mono hbase).trans ((HH2.out.1 base (by rw[←HN.out];exact hbase)).trans ((bdrew (ap _ _)).trans (hb3 base (by rw[←HN.out];exact hbase)))));clear hb3 ho3 hs3;refine hK _ _ ?_
   clear hK K
   (try simp only[Act.put,ae,af,ag])
   refine du ?_
   go_wp2
   go_ret
   refine⟨⟨_,rfl,?_,.inr ⟨N,G,_,rfl,by rw[←HN.out];exact hbase,HW3.out,hG1,by unfold maxLen;exact hG2,?_,?_⟩⟩,HBB.out⟩
   ·rw[HFL.out,ay,ay,HLN.out.1,HLN.out.2.1,HLN.out.2.2]
    omega
   ·have e3:=HL3.out
    have e5:i*4+(bkgC x).length≤(X1++Z).length:=by rw[HLN.out.2.2];omega
    rw[bJ,eb _ _ _ (by rw[eb _ _ _ e5,HLN.out.2.1];omega),eb _ _ _ e5,ay,hG3]
   ·have e:=jF (X1++Z) (i*4) (bkgC x) X2 (by rw[HLN.out.2.1,HLN.out.2.2];exact HL3.out)
    rw[HLN.out.2.1,HLN.out.2.2]at e;rw[HFL.out];have e1:(X1++Z).take (i*4)=X1:=by rw[cI (by rw[HLN.out.1];omega),bM (by rw[HLN.out.1];omega)]
    rw[e1]at e;have e2:(l.length+1)*4=i*4+4+(l.length-i)*4:=by omega
    have e3:(i+1)*4=i*4+4:=by omega
    rw[e2,e3];exact e
  ·
   have q2:decide ((l.length:Int)+1>(vc:Int))=false:=decide_eq_false (by omega);have q3:¬(vc=i):=by omega
   have q4:¬(vc=i+1):=by omega
   have hov:∀o lb cb,(callFunc 112 #[.slice (some ⟨vb,0,none⟩) 1 1,.slice (some ⟨g,o,none⟩) lb cb]).run Tryz.prog w= .ok (.value (.bool false)) w:=fun o lb cb=>by
    have hsz1:∀w,(sizeOf 53).run Tryz.prog w= .ok 4 w:=fun w=>by simp[sizeOf,typeInfo,hin,hz1]
    have hsa:w.shape? vb=some (53,4):=by unfold World.shape?;rw[HVB.out];simp[dL]
    have hsb:w.shape? g=some (53,vc*4):=by unfold World.shape?;rw[HCUR.out.1,←HCUR.out.2.1]
    rw[run_callFunc_extern Tryz.func112 (by kernel_rfl) (by kernel_rfl) (by kernel_rfl) (e:=Extern.SlicesOverlaps.overlaps #[33,33] #[4]) (by kernel_rfl),
     Lib.run_overlaps_apart w 33 4 53 bU 4 hsz1 ⟨vb,0,none⟩ ⟨g,o,none⟩ 1 1 lb cb (fun e=>hgv e.symm) _ _ 4 (vc*4) hsa hsb (by omega) (dC HVB.out 0) (dC HVB.out 4)]
    rfl
   have hcn:l.length+1≤vc:=by omega
   go_enter Tryz.func71,Tryz.ntmps71
   go_wp2_with (simp only[hov])
   have hw1:IntKind.i64.wrap ((i:Int)+1)=((i+1:Nat):Int):=by rw[ax];omega
   have htn:(((i+1:Nat):Int)).toNat=i+1:=by omega
   have hp1:(0:Int)≤((i+1:Nat):Int):=by omega
   have hp2:((i+1:Nat):Int)≤((l.length+1:Nat):Int):=by omega
   have hp3:i+1≤l.length+1:=by omega
   have hp4:i≤l.length+1:=by omega
   have hp6:(i:Int)≤(l.length:Int)+1:=by omega
   have hp5:(i:Int)≤((l.length+1:Nat):Int):=by omega
   refine dd (fun V=>Below w.heap.size w V) [0,0,0,0,0,0,0,0,3] [0,1,2,3,4,5,6,7,8] (by kernel_rfl) (by kernel_rfl) ?_ ?_
   case refine_1=>exact bdrew (ap _ _)
   (iterate 8 (first | (refine cX rfl (by decide) (by rfl) (fun w1 hS=>by(try(obtain⟨_,_⟩:=bcell (hS rfl)));go_simp;rfl) ?_;simp only[Act.put,ae,af,ag]) | (refine dm rfl (by decide) (by rfl) ?_;simp only[Act.put,ae,af,ag])))
   have HWD:Hid (w.drew.heap[g]? =some (.cells cur.toList.toArray 53 (0,0))):=aa (by have:=HCUR.out.1;show w.heap[g]? =_;simpa using this);have hcl:i*4+4+(l.length-i)*4≤cur.toList.length:=by
    have h5:cur.toList.length=cur.size:=cQ;rw[h5,HCUR.out.2.1];omega
   refine di rfl rfl (by rfl) (fun K hK=>?_)
   refine fh _ _ 33 33 rfl 53 4 g ((i+1)*4) _ _ ⟨g,i*4,none⟩ (l.length+1-i) _ cur.toList 53 X2 bU hsz rfl rfl HWD.out (by rw[HLN.out.2.1];congr 1;simp only[Nat.min_def];split<;>omega) (fun j v hj=>by
    rw[fj];exact HON.out.2.2.2.1 j v hj) (by rw[HLN.out.2.1];omega) HON.out.1 ?_
   intro w3 HW3 hb3 ho3 hs3;have HB3:Hid (Below base w w3):=aa ((bdrew (ap _ _)).trans (hb3 base hbg));have HO3:=aa (ho3 vb (fun e=>hgv e.symm));have hgl3:g<w3.heap.size:=by rw[hs3];exact hgl
   clear hb3 ho3 hs3;refine hK _ _ ?_
   clear hK K
   (try simp only[Act.put,ae,af,ag])
   refine du ?_
   have e3:(i+1)*4=i*4+4:=by omega
   rw[e3]at HW3;have hL3:(splice cur.toList (i*4+4) X2).length=cur.toList.length:=eb _ _ _ (by rw[HLN.out.2.1];omega);go_wp2_with (refine eM rfl _ _ 33 33 rfl 53 4 g (i*4) _ _ ⟨vb,0,none⟩ 1 1 (splice cur.toList (i*4+4) X2) 53 (bkgC x) bU hsz rfl rfl HW3.out (by rw[HLN.out.2.2];simp only[Nat.min_def];split<;>omega) (fun j v hj=>by rw[fj,bx];exact(aU HO3.out).trans (HON.out.2.2.2.2 j v hj)) (by rw[HLN.out.2.2,hL3];omega) HON.out.2.1 ?_;intro w2 HW2 hb2 ho2 hs2;have HBB:Hid (Below base w w2):=aa (HB3.out.trans (hb2 base hbg));clear hb2 ho2 hs2)
   go_ret
   refine⟨⟨_,rfl,?_,.inr ⟨g,vc,_,rfl,hbg,HW2.out,hcn,by unfold maxLen;exact hm,?_,?_⟩⟩,HBB.out⟩
   ·rw[HFL.out,ay,ay,HLN.out.1,HLN.out.2.1,HLN.out.2.2]
    omega
   ·rw[bJ,eb _ _ _ (by rw[HLN.out.2.2,hL3];omega),hL3]
    exact(cQ).trans HCUR.out.2.1
   ·have e:=iW cur.toList (i*4) (bkgC x) X2 (by rw[HLN.out.2.1,HLN.out.2.2];exact hcl)
    rw[HLN.out.2.1,HLN.out.2.2]at e;rw[HFL.out];have e1:cur.toList.take (i*4)=X1:=by
     have h5:=congrArg (List.take (i*4)) HCUR.out.2.2;rw[List.take_take,Nat.min_eq_left (by omega)]at h5;rw[h5,HX1.out]
    rw[e1]at e;have e2:(l.length+1)*4=i*4+4+(l.length-i)*4:=by omega
    rw[e2];exact e
def InsP_hld (l:List Hld) (x:Hld) (i:Nat) (base:Nat) (w:World) (e:Ending) (w':World):Prop:=(∃r,e= .returned r∧w'.ownsRow base 75 5 r (l.length+1) ((l.take i++x::l.drop i).flatMap hldC))∧Below base w w'
theorem ins_hld (l:List Hld) (x:Hld) (i:Nat) (v:Value) (vb:Nat) (base:Nat) (w:World) (hown:w.ownsRow base 75 5 v l.length (l.flatMap hldC)) (hi:i≤l.length) (hl:l.length≤600) (hvb:w.heap[vb]? =some (.cells (hldC x).toArray 75 (0,0))) (hne:v.ownBlock≠some vb) (hbase:base≤w.heap.size):
  Calls Tryz.prog 62 #[v,.int .i64 (i:Int),.slice (some ⟨vb,0,none⟩) 1 1] w (InsP_hld l x i base w):=by
 obtain⟨i0,hin,hz0,hz1,hz2⟩:=info_parts iF;have hsz:(Tryz.prog.info? 75).map (·.size)=some 5:=by rw[hin];simp[hz1]
 obtain⟨va,vc,rfl⟩:=dg hown;have hlen:=hown.1;have HOW:=aa hown;have HVB:=aa hvb;have hvlt:vb<w.heap.size:=(ai.1 hvb).1;have hi0:(0:Int)≤(i:Int):=by omega
 have hi1:(i:Int)≤(l.length:Int):=by omega
 have hln:l.length≤9223372036854775807:=by omega
 by_cases hie:i=l.length
 ·subst hie
  have HRX:Hid (RRow hldC 5 w w.heap.size (.slice (some ⟨vb,0,none⟩) 1 1) [x]):=aa (by
   refine⟨_,_,rfl,aj _,by unfold maxLen;omega,(fun e=>by cases e),fun _=>⟨vb,0,rfl,hvlt,fun i y hy j u hu=>?_⟩⟩
   obtain rfl:i=0:=by have:=(aw.1 hy).1;simp at this;omega
   obtain rfl:x=y:=by simpa using hy
   rw[cU hvb];simpa using hu)
  clear hown hvb;go_enter Tryz.func62,Tryz.ntmps62
  go_upto_region 7 with fail
  go_wp2_with (at_builtin;refine ew hldC 5 (by decide) dO rfl _ _ 42 75 rfl i0 _ 40 bV hin hz0 hz1 hz2 rfl base _ _ _ rfl HOW.out _ [x] rfl HRX.out (eF gd [x]) (by simp only[List.length_singleton];omega) (by omega) hbase rfl ?_;intro v3 w3 hO3 hg3 hat3;have HO3:=aa hO3;have HB3:Hid (Below base w w3):=aa ((ap base w).grown hg3 hbase (fun q hq=>(HOW.out.lt q hq).1));clear hO3 hg3 hat3)
  all_goals
   go_ret
   refine⟨⟨_,rfl,?_⟩,HB3.out⟩
   have e:(l.take l.length++x::l.drop l.length)=l++[x]:=by simp
   rw[e,aV];exact HO3.out
 ·have hil:i<l.length:=by omega
  rcases hown.2 with⟨h1,h2⟩ | ⟨g,cap,cur,h1,hbg,hcur,hn,hm,hs,ht⟩
  ·omega
  injection h1 with e1 _ e3
  subst e1 e3;obtain⟨X1,hX1⟩:=cR ((l.flatMap hldC).take (i*5))
  obtain⟨X2,hX2⟩:=cR ((l.flatMap hldC).drop (i*5))
  have hL1:X1.length=i*5:=by rw[←hX1,aS,hlen];omega
  have hL2:X2.length=(l.length-i)*5:=by rw[←hX2,List.length_drop,hlen];omega
  have hLY:(hldC x).length=5:=dO x;have HFL:Hid ((l.take i++x::l.drop i).flatMap hldC=X1++(hldC x++X2)):=aa (by
   rw[aV,cG,jr hldC 5 dO,js hldC 5 dO,hX1,hX2])
  have HLN:Hid (X1.length=i*5∧X2.length=(l.length-i)*5∧(hldC x).length=5):=aa ⟨hL1,hL2,hLY⟩;have hone:∀v∈X2,v.oneCell'=true:=fun v hv=>eF gd l v (by rw[←hX2]at hv;exact List.mem_of_mem_drop hv)
  have honeY:∀v∈hldC x,v.oneCell'=true:=fun v hv=>eF gd [x] v (by simpa using hv)
  have hc1:∀j v,X1[j]? =some v→w.cell? ⟨g,j,none⟩=some v:=fun j v hj=>by
   refine gt ht hcur j v ?_
   rw[←hX1,bA]at hj;split at hj
   ·exact hj
   ·cases hj
  have hc2:∀j v,X2[j]? =some v→w.cell? ⟨g,i*5+j,none⟩=some v:=fun j v hj=>gt ht hcur _ v (by rw[←hX2,List.getElem?_drop]at hj;exact hj)
  have hcY:∀j v,(hldC x)[j]? =some v→w.cell? ⟨vb,j,none⟩=some v:=fun j v hj=>by rw[cU hvb];simpa using hj
  have HX1:=aa hX1;have HON:=aa (cS hone (cS honeY (cS hc1 (cS hc2 hcY))));have hgl:g<w.heap.size:=(ai.1 hcur).1;have hgv:g≠vb:=fun e=>hne (by rw[e];rfl)
  have HCUR:=aa (cS hcur (cS hs ht));unfold maxLen at hm;clear hone honeY hc1 hc2 hcY hvb hown hX1 hX2 hL1 hL2 hLY hcur hs ht hne;have q1:((i:Int)==(l.length:Int))=false:=by rw[beq_eq_false_iff_ne];omega
  by_cases hroom:vc<l.length+1
  ·
   obtain rfl:vc=l.length:=by omega
   have q2:decide ((l.length:Int)+1>(l.length:Int))=true:=decide_eq_true (by omega);have q3:¬(l.length=i):=by omega
   go_enter Tryz.func62,Tryz.ntmps62
   go_upto_region 9 with fail
   go_upto_region 10 with(at_builtin;refine gh rfl _ _ 42 3 rfl 75 i0 _ 5 40 bV .i64 bp hin hz0 hz1 hz2 rfl (by decide) (by decide) g i _ rfl (l.length+1) (l.length+1-i) _ rfl (by omega) (by omega) (by omega) (by omega) (by omega) X1 HLN.out.1 HON.out.2.2.1 ?_;intro G w1 Z hG1 hG2 hG3 hW1 hb1;have HW1:=hW1;have HB1:=aa hb1;clear hW1 hb1)
   have hz1':w.heap.size<w1.heap.size:=(ai.1 HW1.out).1;obtain⟨N,hN⟩:=cR w.heap.size
   have HN:=aa hN;rw[hN]at HW1 hz1' hgl hvlt ⊢;have HL3:Hid (i*5+5+(l.length-i)*5≤(X1++Z).length):=aa (by
    rw[ay,hG3];omega)
   have q4:¬(G=i):=by omega
   have q5:¬(G=i+1):=by omega
   unfold maxLen at hG2;clear hN;go_wp2_with (refine eM rfl _ _ 42 42 rfl 75 5 N (i*5) _ _ ⟨vb,0,none⟩ 1 1 (X1++Z) 75 (hldC x) bV hsz rfl rfl HW1.out (by rw[HLN.out.2.2];simp only[Nat.min_def];split<;>omega) (fun j v hj=>by rw[fj,bx];exact(HB1.out.cell (p:=⟨vb,j,none⟩) (by rw[HN.out];exact hvlt)).trans (HON.out.2.2.2.2 j v hj)) (by rw[HLN.out.2.2];have:=HL3.out;omega) HON.out.2.1 ?_;intro w2 HW2 hb2 ho2 hs2;have HH2:=aa (cS hb2 (cS ho2 hs2));clear hb2 ho2 hs2)
   have z2:N<w2.heap.size:=by rw[HH2.out.2.2];exact hz1'
   have hw1:IntKind.i64.wrap ((i:Int)+1)=((i+1:Nat):Int):=by rw[ax];omega
   have htn:(((i+1:Nat):Int)).toNat=i+1:=by omega
   have hp1:(0:Int)≤((i+1:Nat):Int):=by omega
   have hp2:((i+1:Nat):Int)≤((l.length+1:Nat):Int):=by omega
   have hp3:i+1≤l.length+1:=by omega
   refine dd (fun V=>Below w2.heap.size w2 V) [0,0,0,0,0,0,0,0,3] [0,1,2,3,4,5,6,7,8] (by kernel_rfl) (by kernel_rfl) ?_ ?_
   case refine_1=>exact bdrew (ap _ _)
   (iterate 8 (first | (refine cX rfl (by decide) (by rfl) (fun w1 hS=>by(try(obtain⟨_,_⟩:=bcell (hS rfl)));go_simp;rfl) ?_;simp only[Act.put,ae,af,ag]) | (refine dm rfl (by decide) (by rfl) ?_;simp only[Act.put,ae,af,ag])))
   refine di rfl rfl (by rfl) (fun K hK=>?_)
   refine fh _ _ 42 42 rfl 75 5 N ((i+1)*5) _ _ ⟨g,i*5,none⟩ (l.length-i) _ (splice (X1++Z) (i*5) (hldC x)) 75 X2 bV hsz rfl rfl (show w2.drew.heap[N]? =_ from HW2.out) (by rw[HLN.out.2.1];congr 1;simp only[Nat.min_def];split<;>omega) (fun j v hj=>by
    rw[fj];refine((aU (HH2.out.2.1 g (by omega))).trans (HB1.out.cell (p:=⟨g,i*5+j,none⟩) (by rw[HN.out];exact hgl))).trans (HON.out.2.2.2.1 j v hj)) (by rw[eb _ _ _ (by rw[HLN.out.2.2];have:=HL3.out;omega),HLN.out.2.1];have:=HL3.out;omega) HON.out.1 ?_
   intro w3 HW3 hb3 ho3 hs3;have HBB:Hid (Below base w w3):=aa ((HB1.out.mono hbase).trans ((HH2.out.1 base (by rw[←HN.out];exact hbase)).trans ((bdrew (ap _ _)).trans (hb3 base (by rw[←HN.out];exact hbase)))));clear hb3 ho3 hs3;refine hK _ _ ?_
   clear hK K
   (try simp only[Act.put,ae,af,ag])
   refine du ?_
   go_wp2
   go_ret
   refine⟨⟨_,rfl,?_,.inr ⟨N,G,_,rfl,by rw[←HN.out];exact hbase,HW3.out,hG1,by unfold maxLen;exact hG2,?_,?_⟩⟩,HBB.out⟩
   ·rw[HFL.out,ay,ay,HLN.out.1,HLN.out.2.1,HLN.out.2.2]
    omega
   ·have e3:=HL3.out
    have e5:i*5+(hldC x).length≤(X1++Z).length:=by rw[HLN.out.2.2];omega
    rw[bJ,eb _ _ _ (by rw[eb _ _ _ e5,HLN.out.2.1];omega),eb _ _ _ e5,ay,hG3]
   ·have e:=jF (X1++Z) (i*5) (hldC x) X2 (by rw[HLN.out.2.1,HLN.out.2.2];exact HL3.out)
    rw[HLN.out.2.1,HLN.out.2.2]at e;rw[HFL.out];have e1:(X1++Z).take (i*5)=X1:=by rw[cI (by rw[HLN.out.1];omega),bM (by rw[HLN.out.1];omega)]
    rw[e1]at e;have e2:(l.length+1)*5=i*5+5+(l.length-i)*5:=by omega
    have e3:(i+1)*5=i*5+5:=by omega
    rw[e2,e3];exact e
  ·
   have q2:decide ((l.length:Int)+1>(vc:Int))=false:=decide_eq_false (by omega);have q3:¬(vc=i):=by omega
   have q4:¬(vc=i+1):=by omega
   have hov:∀o lb cb,(callFunc 106 #[.slice (some ⟨vb,0,none⟩) 1 1,.slice (some ⟨g,o,none⟩) lb cb]).run Tryz.prog w= .ok (.value (.bool false)) w:=fun o lb cb=>by
    have hsz1:∀w,(sizeOf 75).run Tryz.prog w= .ok 5 w:=fun w=>by simp[sizeOf,typeInfo,hin,hz1]
    have hsa:w.shape? vb=some (75,5):=by unfold World.shape?;rw[HVB.out];simp[dO]
    have hsb:w.shape? g=some (75,vc*5):=by unfold World.shape?;rw[HCUR.out.1,←HCUR.out.2.1]
    rw[run_callFunc_extern Tryz.func106 (by kernel_rfl) (by kernel_rfl) (by kernel_rfl) (e:=Extern.SlicesOverlaps.overlaps #[42,42] #[4]) (by kernel_rfl),
     Lib.run_overlaps_apart w 42 4 75 bV 5 hsz1 ⟨vb,0,none⟩ ⟨g,o,none⟩ 1 1 lb cb (fun e=>hgv e.symm) _ _ 5 (vc*5) hsa hsb (by omega) (dC HVB.out 0) (dC HVB.out 5)]
    rfl
   have hcn:l.length+1≤vc:=by omega
   go_enter Tryz.func62,Tryz.ntmps62
   go_wp2_with (simp only[hov])
   have hw1:IntKind.i64.wrap ((i:Int)+1)=((i+1:Nat):Int):=by rw[ax];omega
   have htn:(((i+1:Nat):Int)).toNat=i+1:=by omega
   have hp1:(0:Int)≤((i+1:Nat):Int):=by omega
   have hp2:((i+1:Nat):Int)≤((l.length+1:Nat):Int):=by omega
   have hp3:i+1≤l.length+1:=by omega
   have hp4:i≤l.length+1:=by omega
   have hp6:(i:Int)≤(l.length:Int)+1:=by omega
   have hp5:(i:Int)≤((l.length+1:Nat):Int):=by omega
   refine dd (fun V=>Below w.heap.size w V) [0,0,0,0,0,0,0,0,3] [0,1,2,3,4,5,6,7,8] (by kernel_rfl) (by kernel_rfl) ?_ ?_
   case refine_1=>exact bdrew (ap _ _)
   (iterate 8 (first | (refine cX rfl (by decide) (by rfl) (fun w1 hS=>by(try(obtain⟨_,_⟩:=bcell (hS rfl)));go_simp;rfl) ?_;simp only[Act.put,ae,af,ag]) | (refine dm rfl (by decide) (by rfl) ?_;simp only[Act.put,ae,af,ag])))
   have HWD:Hid (w.drew.heap[g]? =some (.cells cur.toList.toArray 75 (0,0))):=aa (by have:=HCUR.out.1;show w.heap[g]? =_;simpa using this);have hcl:i*5+5+(l.length-i)*5≤cur.toList.length:=by
    have h5:cur.toList.length=cur.size:=cQ;rw[h5,HCUR.out.2.1];omega
   refine di rfl rfl (by rfl) (fun K hK=>?_)
   refine fh _ _ 42 42 rfl 75 5 g ((i+1)*5) _ _ ⟨g,i*5,none⟩ (l.length+1-i) _ cur.toList 75 X2 bV hsz rfl rfl HWD.out (by rw[HLN.out.2.1];congr 1;simp only[Nat.min_def];split<;>omega) (fun j v hj=>by
    rw[fj];exact HON.out.2.2.2.1 j v hj) (by rw[HLN.out.2.1];omega) HON.out.1 ?_
   intro w3 HW3 hb3 ho3 hs3;have HB3:Hid (Below base w w3):=aa ((bdrew (ap _ _)).trans (hb3 base hbg));have HO3:=aa (ho3 vb (fun e=>hgv e.symm));have hgl3:g<w3.heap.size:=by rw[hs3];exact hgl
   clear hb3 ho3 hs3;refine hK _ _ ?_
   clear hK K
   (try simp only[Act.put,ae,af,ag])
   refine du ?_
   have e3:(i+1)*5=i*5+5:=by omega
   rw[e3]at HW3;have hL3:(splice cur.toList (i*5+5) X2).length=cur.toList.length:=eb _ _ _ (by rw[HLN.out.2.1];omega);go_wp2_with (refine eM rfl _ _ 42 42 rfl 75 5 g (i*5) _ _ ⟨vb,0,none⟩ 1 1 (splice cur.toList (i*5+5) X2) 75 (hldC x) bV hsz rfl rfl HW3.out (by rw[HLN.out.2.2];simp only[Nat.min_def];split<;>omega) (fun j v hj=>by rw[fj,bx];exact(aU HO3.out).trans (HON.out.2.2.2.2 j v hj)) (by rw[HLN.out.2.2,hL3];omega) HON.out.2.1 ?_;intro w2 HW2 hb2 ho2 hs2;have HBB:Hid (Below base w w2):=aa (HB3.out.trans (hb2 base hbg));clear hb2 ho2 hs2)
   go_ret
   refine⟨⟨_,rfl,?_,.inr ⟨g,vc,_,rfl,hbg,HW2.out,hcn,by unfold maxLen;exact hm,?_,?_⟩⟩,HBB.out⟩
   ·rw[HFL.out,ay,ay,HLN.out.1,HLN.out.2.1,HLN.out.2.2]
    omega
   ·rw[bJ,eb _ _ _ (by rw[HLN.out.2.2,hL3];omega),hL3]
    exact(cQ).trans HCUR.out.2.1
   ·have e:=iW cur.toList (i*5) (hldC x) X2 (by rw[HLN.out.2.1,HLN.out.2.2];exact hcl)
    rw[HLN.out.2.1,HLN.out.2.2]at e;rw[HFL.out];have e1:cur.toList.take (i*5)=X1:=by
     have h5:=congrArg (List.take (i*5)) HCUR.out.2.2;rw[List.take_take,Nat.min_eq_left (by omega)]at h5;rw[h5,HX1.out]
    rw[e1]at e;have e2:(l.length+1)*5=i*5+5+(l.length-i)*5:=by omega
    rw[e2];exact e
end
section
def insK {α:Type} (cmp:α→α→Int) (l:List α) (x:α) (k:Nat):Prop:=k≤l.length∧(∀y,0<k→l[k-1]? =some y→cmp y x<0)∧(∀y,l[k]? =some y→0≤cmp y x)
def InBPost (l:List Bkg) (x:Bkg) (w:World) (e:Ending) (w':World):Prop:=(∃(r:Value) (k:Nat),e= .returned r∧insK cmpB l x k∧w'.ownsRow w.heap.size 53 4 r (l.length+1) ((l.take k++x::l.drop k).flatMap bkgC))∧Below w.heap.size w w'
theorem nE (l:List Bkg) (x:Bkg) (u:Value) (w:World) (hr:RRow bkgC 4 w w.heap.size u l) (hl:l.length≤512):
  Calls Tryz.prog 32 #[u,.agg #[.int .i64 x.ct,.int .i64 x.bg,.int .i64 x.en,.int .i64 x.tk]] w (InBPost l x w):=by
 have HR:=aa hr;obtain⟨ua,uc,rfl,h1,h2,-,h4⟩:=hr;clear h4;go_enter Tryz.func32,Tryz.ntmps32
 go_upto_region 1 with fail
 obtain⟨w1,hw1⟩:=cR (w.alloc (.cells #[.int .i64 x.ct,.int .i64 x.bg,.int .i64 x.en,.int .i64 x.tk] 53))
 rw[hw1];have HB1:Hid (Below w.heap.size w w1):=aa (by rw[←hw1];exact de (ap _ _));have HX1:Hid (w1.heap[w.heap.size]? =some (.cells #[.int .i64 x.ct,.int .i64 x.bg,.int .i64 x.en,.int .i64 x.tk] 53 (0,0))):=aa (by rw[←hw1];exact cW);have z1:w.heap.size<w1.heap.size:=(ai.1 HX1.out).1;obtain⟨Z,hZ⟩:=cR w.heap.size
 have HZ:=aa hZ;rw[hZ]at HB1 HX1 z1 HR ⊢;have cx:=fun q=>cU HX1.out q
 clear hw1 hZ;go_wp2_with fail
 refine(bsr_bkg l x _ w1 (HR.out.below HB1.out (aj _) (by omega)) (by omega)).mono ?_
 unfold BsP_bkg;rintro e w2 ⟨⟨k,b,rfl,hk1,hk2,hk3⟩,hb2⟩;have z2:=hb2.size;have HIK:Hid (insK cmpB l x k):=aa ⟨hk1,hk2,hk3⟩;have HB2:Hid (Below Z w w2):=aa (HB1.out.trans (hb2.mono (by omega)));have HX2:=aa ((hb2.block _ z1).trans HX1.out);have cx:=fun q=>cU HX2.out q
 have z2':Z<w2.heap.size:=by omega
 have hk0:(0:Int)≤(k:Int):=by omega
 clear hk1 hk2 hk3 hb2;go_upto_region 2 with fail
 have HRD:Hid (∀V,Below w2.heap.size w2 V→RRow bkgC 4 V V.heap.size (.slice ua l.length uc) l):=aa (fun V hV=>HR.out.below (HB2.out.trans (hV.mono (by omega))) (aj _) (by have:=hV.size;omega));have hone:=eF gD l;have HON:=aa hone;clear hone;refine ei (fun V=>Below w2.heap.size w2 V) [0,2,0,1,2,3,0] (.go 0 (.go 2 (.go 3 (.br2 1 4 (.go 4 (.go 5 (.go 6 (.fin)))) (.go 1 (.go 5 (.go 6 (.fin)))))))) (by kernel_rfl) (by kernel_rfl) ?_ ?_
 case refine_1=>exact bdrew (ap _ _)
 iterate 3 (refine dG rfl (by decide) (by rfl) (fun w1 hS=>by(try(obtain⟨_,_⟩:=bcell (hS rfl)));go_simp;rfl) ?_;(try simp only[Act.put,ae,af,ag]))
 refine⟨?ga,?gb⟩
 case' ga=>
  refine ej rfl (by rfl) (fun K hK=>?_)
  go_simp
  refine(lx l _ _ (HRD.out _ (bdrew (ap _ _))) HON.out (by omega)).mono ?_
  unfold ClonePost;rintro e wc ⟨⟨v,rfl,hov⟩,hbc⟩;have hbw:Below w2.heap.size w2 wc:=dq (bdrew (ap _ _)) hbc;refine hK _ _ hbw ?_
  clear hK K
  (try simp only[Act.put,ae,af,ag])
  refine dH rfl rfl (by rfl) (fun K hK=>?_)
  go_simp
  refine hK _ _ (de hbw) ?_
  clear hK K
  (try simp only[Act.put,ae,af,ag])
  obtain⟨w3,hw3⟩:=cR (wc.alloc (.cells #[.int .i64 x.ct,.int .i64 x.bg,.int .i64 x.en,.int .i64 x.tk] 53))
  obtain⟨vb,hvb⟩:=cR wc.heap.size
  have HV:Hid (w3.heap[vb]? =some (.cells (bkgC x).toArray 53 (0,0))):=aa (by rw[←hw3,←hvb];exact cW);have HO:Hid (w3.ownsRow Z 53 4 v l.length (l.flatMap bkgC)∧v.ownBlock≠some vb):=aa ⟨fw (cV hov (fun q hq=>by rw[←hw3];exact ak _ _ _ (hov.lt q hq).2)) (by show Z≤w2.heap.size;omega),fun e=>by have:=(hov.lt vb e).2;omega⟩;have HB3:Hid (Below w2.heap.size w2 w3):=aa (by rw[←hw3];exact de hbw);rw[hw3,hvb];clear hov hbc hbw hw3 hvb
 case' gb=>
  refine ej rfl (by rfl) (fun K hK=>?_)
  go_simp
  refine hK _ _ (de (bdrew (ap _ _))) ?_
  clear hK K
  (try simp only[Act.put,ae,af,ag])
  refine dH rfl rfl (by rfl) (fun K hK=>?_)
  go_simp
  refine(lx l _ _ (HRD.out _ (de (bdrew (ap _ _)))) HON.out (by omega)).mono ?_
  unfold ClonePost;rintro e w3 ⟨⟨v,rfl,hov⟩,hbc⟩;have hbw:Below w2.heap.size w2 w3:=dq (de (bdrew (ap _ _))) hbc;refine hK _ _ hbw ?_
  clear hK K
  (try simp only[Act.put,ae,af,ag])
  obtain⟨vb,hvb⟩:=cR w2.heap.size
  have HV:Hid (w3.heap[vb]? =some (.cells (bkgC x).toArray 53 (0,0))):=aa (by rw[←hvb];exact(hbc.block _ (by simp)).trans (cW (W:=w2.drew)));have HO:Hid (w3.ownsRow Z 53 4 v l.length (l.flatMap bkgC)∧v.ownBlock≠some vb):=aa ⟨fw hov (by simp;omega),fun e=>by have:=(hov.lt vb e).1;simp at this;omega⟩;have HB3:Hid (Below w2.heap.size w2 w3):=aa hbw;have hvb':w2.drew.heap.size=vb:=hvb
  (try rw[hvb'])
  (try rw[hvb])
  clear hov hbc hbw hvb hvb'
 all_goals
  have hz3:=HB3.out.size;refine ey rfl rfl (by rfl) (fun K hK=>?_)
  go_simp
  refine(ins_bkg l x k v vb Z w3 HO.out.1 HIK.out.1 (by omega) HV.out HO.out.2 (by omega)).mono ?_
  unfold InsP_bkg;rintro e w4 ⟨⟨r,rfl,hr4⟩,hb4⟩;have HF:Hid (w4.ownsRow Z 53 4 r (l.length+1) ((l.take k++x::l.drop k).flatMap bkgC)∧Below Z w w4):=aa ⟨hr4,(HB2.out.trans (HB3.out.mono (by omega))).trans hb4⟩;clear hr4 hb4;refine hK _ _ ?_
  clear hK K
  (try simp only[Act.put,ae,af,ag])
  refine dG rfl (by decide) (by rfl) (fun w1 hS=>by go_simp;rfl) ?_
  (try simp only[Act.put,ae,af,ag])
  refine fe ?_
  go_wp2
  go_ret
  unfold InBPost;rw[HZ.out];exact⟨⟨r,k,rfl,HIK.out,HF.out.1⟩,HF.out.2⟩
end
end Go.Proofs.YtfnciigbbolckaaGreat
