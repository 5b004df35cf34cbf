/- Part 42 of the proof about mailboattop.TopOthers. No condition. -/
import Derived.Test.YtfnciigbbolckaaGreatQ00
import Derived.Test.YtfnciigbbolckaaGreatQ04
import Derived.Test.YtfnciigbbolckaaGreatQ06
import Derived.Test.YtfnciigbbolckaaGreatQ07
import Derived.Test.YtfnciigbbolckaaGreatQ41
set_option linter.unusedVariables false
set_option linter.unusedSimpArgs false
set_option maxRecDepth 100000
set_option maxHeartbeats 64000000
namespace Go.Proofs.YtfnciigbbolckaaGreat
open Go Go.RowKit Iv
attribute [local go_sem] Oper.semAt_some
attribute [local go_sem] pw gu B_app pv B_get B_toList
section
theorem neBkg (x:Bkg) (w:World):Sem.run Tryz.prog (Go.binOp .neq 53 (.agg #[.int .i64 x.ct,.int .i64 x.bg,.int .i64 x.en,.int .i64 x.tk]) (.agg #[.int .i64 x.ct,.int .i64 x.bg,.int .i64 x.en,.int .i64 x.tk])) w= .ok (.bool false) w:=by
 go_simp
theorem neCon (x:Con) (w:World):Sem.run Tryz.prog (Go.binOp .neq 95 (.agg #[.int .i64 x.fr,.int .i64 x.tt,.int .i64 x.st,.int .i64 x.en,.int .i64 x.ra,.int .i64 x.rg,.int .i64 x.lo]) (.agg #[.int .i64 x.fr,.int .i64 x.tt,.int .i64 x.st,.int .i64 x.en,.int .i64 x.ra,.int .i64 x.rg,.int .i64 x.lo])) w= .ok (.bool false) w:=by
 go_simp
attribute [local go_sem ↓] neBkg neCon
def BoolAny (w:World) (e:Ending) (w':World):Prop:=(∃r:Bool,e= .returned (.bool r))∧Below w.heap.size w w'
theorem nO (uq uc:Value) (w:World) (hq:∃a k c,uq= .slice a k c) (hc:∃a k c,uc= .slice a k c):
  Calls Tryz.prog 13 #[.agg #[uq,uc]] w (BoolAny w):=by
 obtain⟨aq,kq,cq,rfl⟩:=hq;obtain⟨ac,kc,cc,rfl⟩:=hc;go_enter Tryz.func13,Tryz.ntmps13
 go_wp2
 all_goals
  go_ret
  exact⟨⟨_,rfl⟩,cZ⟩
def GrPost (n:Nat) (w:World) (e:Ending) (w':World):Prop:=(∃r:Bool,e= .returned (.bool r)∧(r=false→n≤5))∧Below w.heap.size w w'
theorem oD (uq uc:Value) (a:Option Addr) (n c:Nat) (w:World) (hq:∃a k c,uq= .slice a k c) (hc:∃a k c,uc= .slice a k c) (hn:n≤9223372036854775807):
  Calls Tryz.prog 4 #[.agg #[uq,uc],.slice a n c] w (GrPost n w):=by
 obtain⟨aq,kq,cq,rfl⟩:=hq;obtain⟨ac,kc,cc,rfl⟩:=hc;go_enter Tryz.func4,Tryz.ntmps4
 go_upto_region 1 with fail
 obtain⟨w1,hw1⟩:=cR (w.alloc (.cells #[.slice aq kq cq,.slice ac kc cc] 25))
 rw[hw1];have HB1:Hid (Below w.heap.size w w1):=aa (by rw[←hw1];exact de (ap _ _));have X1:w1.heap[w.heap.size]? =some (.cells #[.slice aq kq cq,.slice ac kc cc] 25 (0,0)):=by rw[←hw1];exact cW
 have z1:w.heap.size<w1.heap.size:=(ai.1 X1).1;have cx:=fun q=>cU X1 q
 clear hw1 X1;go_wp2_with fail
 refine(nO (.slice aq kq cq) (.slice ac kc cc) w1 ⟨_,_,_,rfl⟩ ⟨_,_,_,rfl⟩).mono ?_
 rintro e w2 ⟨⟨r,rfl⟩,hb2⟩;have HB2:Hid (Below w.heap.size w w2):=aa (dq HB1.out hb2);clear hb2 cx
 cases r with
 | true=>
  go_wp2
  go_ret
  exact⟨⟨true,rfl,fun h=>by cases h⟩,HB2.out⟩
 | false=>
  by_cases h5:n≤5
  ·have d:decide ((n:Int)>5)=false:=decide_eq_false (by omega)
   go_wp2
   go_ret
   exact⟨⟨_,rfl,fun _=>h5⟩,HB2.out⟩
  ·have d:decide ((n:Int)>5)=true:=decide_eq_true (by omega)
   have d2:(5:Int)<n:=by omega
   go_wp2
   go_ret
   exact⟨⟨true,by first | rfl | simp_all,fun h=>by cases h⟩,HB2.out⟩
def NewPost (qs:List Int) (cs:List Con) (uq uc:Value) (w:World) (e:Ending) (w':World):Prop:=
 (∃er:Int,(er≠0∧e= .returned (.tuple #[.agg #[.slice none 0 0,.slice none 0 0,.slice none 0 0,.slice none 0 0],.int .i64 er]))∨(er=0∧PlanOK qs cs∧e= .returned (.tuple #[.agg #[uq,uc,.slice none 0 0,.slice none 0 0],.int .i64 0])))∧Below w.heap.size w w'
def NewPostX (qs:List Int) (cs:List Con) (uq uc:Value) (w:World) (e:Ending) (w':World):Prop:=
 (∃er:Int,(er≠0∧¬PlanOK qs cs∧e= .returned (.tuple #[.agg #[.slice none 0 0,.slice none 0 0,.slice none 0 0,.slice none 0 0],.int .i64 er]))∨(er=0∧PlanOK qs cs∧e= .returned (.tuple #[.agg #[uq,uc,.slice none 0 0,.slice none 0 0],.int .i64 0])))∧Below w.heap.size w w'
theorem new_x (qs:List Int) (cs:List Con) (uq uc:Value) (w:World) (hq:RRow intC 1 w w.heap.size uq qs) (hc:RRow conC 7 w w.heap.size uc cs):
  Calls Tryz.prog 14 #[.agg #[uq,uc]] w (NewPostX qs cs uq uc w):=by
 have HQ:=aa hq;have HC:=aa hc;obtain⟨aq,cq,rfl,-⟩:=hq;obtain⟨ca,cc,rfl,-⟩:=hc;go_enter Tryz.func14,Tryz.ntmps14
 go_upto_region 1 with fail
 obtain⟨Z,hZ⟩:=cR w.heap.size
 obtain⟨w1,hw1⟩:=cR ((w.alloc (.cells #[.slice aq qs.length cq,.slice ca cs.length cc] 25)).alloc (.cells #[.slice none 0 0,.slice none 0 0,.slice none 0 0,.slice none 0 0] 36))
 rw[hw1];have B1:Below Z w w1:=by rw[←hw1,←hZ];exact cZ
 have X0:w1.heap[Z]? =some (.cells #[.slice aq qs.length cq,.slice ca cs.length cc] 25 (0,0)):=by rw[←hw1,←hZ];exact(by repeat (first | exact cY (by first | rfl | (simp;done)) | refine(ak _ _ _ (by first | (simp;done) | (simp;omega))).trans ?_))
 have X1:w1.heap[Z+1]? =some (.cells #[.slice none 0 0,.slice none 0 0,.slice none 0 0,.slice none 0 0] 36 (0,0)):=by rw[←hw1,←hZ];exact(by repeat (first | exact cY (by first | rfl | (simp;done)) | refine(ak _ _ _ (by first | (simp;done) | (simp;omega))).trans ?_))
 have z1:Z+1<w1.heap.size:=(ai.1 X1).1;have z0:Z<w1.heap.size:=by omega
 have k0:=fun q_=>cU X0 q_
 have HX:=aa (cS B1 (cS X0 X1));have HZ:=aa hZ;rw[hZ]at HQ HC ⊢;clear hw1 B1 X0 X1 hZ;go_wp2_with fail
 refine(eV qs cs (.slice aq qs.length cq) (.slice ca cs.length cc) w1 (HQ.out.below HX.out.1 (aj _) (by omega)) (HC.out.below HX.out.1 (aj _) (by omega))).mono ?_
 unfold PlanPost;rintro e w2 ⟨⟨r,rfl,hr0,hr1⟩,hb2⟩;have HR1:=aa hr1;clear hr1;have HB2:Hid (Below Z w w2):=aa (HX.out.1.trans (hb2.mono (by omega)));have HX2:=aa (cS ((hb2.block _ z0).trans HX.out.2.1) ((hb2.block _ z1).trans HX.out.2.2));have k0:=fun q_=>cU HX2.out.1 q_
 have y1:Z+1<w2.heap.size:=(ai.1 HX2.out.2).1;have y0:Z<w2.heap.size:=by omega
 clear hb2;by_cases hr:r=0
 case neg=>
  have d1:(r==0)=false:=by rw[beq_eq_false_iff_ne];exact hr
  have d2:(r != 0)=true:=by rw[bne_iff_ne];exact hr
  go_wp2_with (refine dv rfl 36 _ _ rfl (Z+1) #[.slice none 0 0,.slice none 0 0,.slice none 0 0,.slice none 0 0] _ 36 rfl rfl HX2.out.2 rfl (by kernel_rfl) (by simp[Value.oneCell']) ?_;intro wF hW hbW hsW hoW;have HBF:Hid (Below Z w wF):=aa (HB2.out.trans (hbW Z (by omega)));have cF:=fun o=>cU hW o;have zF:Z+1<wF.heap.size:=(ai.1 hW).1;clear hW hbW hsW hoW)
  refine bodyPost_ret (v:=.tuple #[.agg #[.slice none 0 0,.slice none 0 0,.slice none 0 0,.slice none 0 0],.int .i64 r]) (by simp[results,Tryz.results14,go_sem,cF,zF]) rfl ?_
  unfold NewPostX;rw[HZ.out];exact⟨⟨r,.inl ⟨hr,(fun h=>hr (HR1.out h)),rfl⟩⟩,HBF.out⟩
 subst hr;have HP:=aa (hr0 rfl);clear hr0;go_wp2_with (refine dv rfl 36 _ _ rfl (Z+1) #[.slice aq qs.length cq,.slice ca cs.length cc,.slice none 0 0,.slice none 0 0] _ 36 rfl rfl HX2.out.2 rfl (by kernel_rfl) (by simp[Value.oneCell']) ?_;intro wF hW hbW hsW hoW;have HBF:Hid (Below Z w wF):=aa (HB2.out.trans (hbW Z (by omega)));have cF:=fun o=>cU hW o;have zF:Z+1<wF.heap.size:=(ai.1 hW).1;clear hW hbW hsW hoW)
 refine bodyPost_ret (v:=.tuple #[.agg #[.slice aq qs.length cq,.slice ca cs.length cc,.slice none 0 0,.slice none 0 0],.int .i64 0]) (by simp[results,Tryz.results14,go_sem,cF,zF]) rfl ?_
 unfold NewPostX;rw[HZ.out];exact⟨⟨0,.inr ⟨rfl,HP.out,rfl⟩⟩,HBF.out⟩
theorem new_any (qs:List Int) (cs:List Con) (uq uc:Value) (w:World) (hq:RRow intC 1 w w.heap.size uq qs) (hc:RRow conC 7 w w.heap.size uc cs):
  Calls Tryz.prog 14 #[.agg #[uq,uc]] w (NewPost qs cs uq uc w):=
 (new_x qs cs uq uc w hq hc).mono fun e w' ⟨⟨er,h⟩,hB⟩=>⟨⟨er,h.imp (fun⟨h1,_,h3⟩=>⟨h1,h3⟩) fun h=>h⟩,hB⟩
theorem oE (qs:List Int) (cs:List Con) (uq uc:Value) (w:World) (hq:RRow intC 1 w w.heap.size uq qs) (hc:RRow conC 7 w w.heap.size uc cs):
  Calls Tryz.prog 33 #[.agg #[uq,uc],.agg #[uq,uc]] w fun e w'=>e= .returned (.bool true)∧Below w.heap.size w w':=by
 obtain⟨aq,cq,rfl,q1,q2,-,q4⟩:=hq;obtain⟨ca,cc,rfl,c1,c2,-,c4⟩:=hc;have HQ4:=aa q4;have HC4:=aa c4;unfold maxLen at q2 c2;have hlq:qs.length≤9223372036854775807:=by omega
 have hlc:cs.length≤9223372036854775807:=by omega
 clear q4 c4;go_enter Tryz.func33,Tryz.ntmps33
 go_upto_region 1 with fail
 obtain⟨Z,hZ⟩:=cR w.heap.size
 obtain⟨w1,hw1⟩:=cR ((w.alloc (.cells #[.slice aq qs.length cq,.slice ca cs.length cc] 25)).alloc (.cells #[.slice aq qs.length cq,.slice ca cs.length cc] 25))
 rw[hw1];have B1:Below Z w w1:=by rw[←hw1,←hZ];exact cZ
 have X0:w1.heap[Z]? =some (.cells #[.slice aq qs.length cq,.slice ca cs.length cc] 25 (0,0)):=by rw[←hw1,←hZ];exact(ak _ _ _ (by simp)).trans cW
 have X1:w1.heap[Z+1]? =some (.cells #[.slice aq qs.length cq,.slice ca cs.length cc] 25 (0,0)):=by rw[←hw1,←hZ];exact cY (by simp)
 have z1:Z+1<w1.heap.size:=(ai.1 X1).1;have z0:Z<w1.heap.size:=by omega
 have k0:=fun q_=>cU X0 q_
 have k1:=fun q_=>cU X1 q_
 have HX:=aa (cS B1 (cS X0 X1));have HZ:=aa hZ;rw[hZ]at HQ4 HC4 ⊢;clear hw1 B1 X0 X1 hZ;go_wp2_with fail
 go_loopw [5] (fun kv wr=>∃k:Nat,k≤qs.length∧kv= .int .i64 (k:Int)∧Hid (Below w1.heap.size w1 wr)) (fun kv _=>qs.length-(intOf kv).toNat)
 case atStart=>exact⟨0,aE _,rfl,aa (ap _ _)⟩
 case round=>
  obtain⟨k,hk,rfl,HBr⟩:=hrel;have zr:w1.heap.size≤wr.heap.size:=HBr.out.size;have k0:=fun q_=>cU ((HBr.out.block _ z0).trans HX.out.2.1) q_
  have k1:=fun q_=>cU ((HBr.out.block _ z1).trans HX.out.2.2) q_
  have y0:Z<wr.heap.size:=by omega
  have y1:Z+1<wr.heap.size:=by omega
  have j0:(0:Int)≤(k:Int):=by omega
  by_cases hlt:k<qs.length
  ·have j1:(k:Int)<(qs.length:Int):=by omega
   obtain⟨bb,o,rfl,hbb,hcc⟩:=HQ4.out (by omega);obtain⟨x,hx⟩:∃x,qs[k]? =some x:=⟨_,am hlt⟩
   have g0:wr.cell? ⟨bb,o+k,none⟩=some (.int .i64 x):=by
    have h:=(HX.out.1.trans (HBr.out.mono (by omega))).cell (p:=⟨bb,o+k*1+0,none⟩) hbb;rw[hcc k x hx 0 _ rfl]at h;rw[Nat.mul_one,Nat.add_zero]at h;exact h
   have gb:bb<wr.heap.size:=by omega
   clear hcc hx;go_upto_region 6 with fail
   go_quiet (fail)
   go_wp2
   go_roundw
   case rel=>exact⟨k+1,by omega,by go_num,aa (eu HBr.out _)⟩
   case measure=>simp[intOf];omega
  ·obtain rfl:k=qs.length:=by omega
   have HW1:Hid (Below Z w wr):=aa (HX.out.1.trans (HBr.out.mono (by omega)));have HXr:=aa (cS ((HBr.out.block _ z0).trans HX.out.2.1) ((HBr.out.block _ z1).trans HX.out.2.2));obtain⟨w2,hw2⟩:∃q,q=wr:=⟨_,rfl⟩
   rw[←hw2]at HW1 HXr k0 k1 y0 y1 zr ⊢;clear hw2 HBr;go_wp2_with fail
   go_loopw [6] (fun kv wr=>∃k:Nat,k≤cs.length∧kv= .int .i64 (k:Int)∧Hid (Below w2.heap.size w2 wr)) (fun kv _=>cs.length-(intOf kv).toNat)
   case atStart=>exact⟨0,aE _,rfl,aa (ap _ _)⟩
   case round=>
    obtain⟨k,hk,rfl,HBr⟩:=hrel;have zr2:w2.heap.size≤wr.heap.size:=HBr.out.size;have k0:=fun q_=>cU ((HBr.out.block _ y0).trans HXr.out.1) q_
    have k1:=fun q_=>cU ((HBr.out.block _ y1).trans HXr.out.2) q_
    have x0:Z<wr.heap.size:=by omega
    have x1:Z+1<wr.heap.size:=by omega
    have j0:(0:Int)≤(k:Int):=by omega
    by_cases hlt:k<cs.length
    ·have j1:(k:Int)<(cs.length:Int):=by omega
     obtain⟨bb,o,rfl,hbb,hcc⟩:=HC4.out (by omega);obtain⟨x,hx⟩:∃x,cs[k]? =some x:=⟨_,am hlt⟩
     have hm:∀q,wr.cell? ⟨bb,q,none⟩=w.cell? ⟨bb,q,none⟩:=fun q=>(HW1.out.trans (HBr.out.mono (by omega))).cell (p:=⟨bb,q,none⟩) hbb
     have g0:=(hm (o+k*7)).trans (hcc k x hx 0 _ rfl);have g1:=(hm (o+k*7+1)).trans (hcc k x hx 1 _ rfl);have g2:=(hm (o+k*7+2)).trans (hcc k x hx 2 _ rfl);have g3:=(hm (o+k*7+3)).trans (hcc k x hx 3 _ rfl);have g4:=(hm (o+k*7+4)).trans (hcc k x hx 4 _ rfl);have g5:=(hm (o+k*7+5)).trans (hcc k x hx 5 _ rfl);have g6:=(hm (o+k*7+6)).trans (hcc k x hx 6 _ rfl);have gb:bb<wr.heap.size:=by omega
     clear hcc hx hm;go_upto_region 11 with fail
     go_quiet (fail)
     go_wp2
     go_roundw
     case rel=>exact⟨k+1,by omega,by go_num,aa (eu HBr.out _)⟩
     case measure=>simp[intOf];omega
    ·obtain rfl:k=cs.length:=by omega
     have HF:Hid (Below Z w wr):=aa (HW1.out.trans (HBr.out.mono (by omega)));go_wp2
     go_ret
     rw[HZ.out];exact⟨rfl,HF.out⟩
end
section
def KL (k:Nat→Value→Prop) (s:Nat) (l:List Value):Prop:=∀i x,l[i]? =some x→k (i % s) x
theorem KL.append {k:Nat→Value→Prop} {s:Nat} {a b:List Value} (ha:KL k s a) (hb:KL k s b) (hl:a.length % s=0):KL k s (a++b):=fun i x h=>by
 rcases bq i a.length with hi | hi
 ·rw[bH hi]at h
  exact ha i x h
 ·rw[bz hi]at h
  have h2:=hb _ x h;have e:i=a.length+(i-a.length):=by omega
  rw[e,Nat.add_mod,hl,bx,Nat.mod_mod];exact h2
theorem KL.take {k:Nat→Value→Prop} {s:Nat} {a:List Value} (ha:KL k s a) (n:Nat):KL k s (a.take n):=fun i x h=>by
 rw[bA]at h;split at h
 ·exact ha i x h
 ·cases h
theorem KL.drop {k:Nat→Value→Prop} {s:Nat} {a:List Value} (ha:KL k s a) (n:Nat) (hn:n % s=0):KL k s (a.drop n):=fun i x h=>by
 rw[List.getElem?_drop]at h;have:=ha _ x h;rwa [Nat.add_mod,hn,bx,Nat.mod_mod]at this
theorem KL.zero {k:Nat→Value→Prop} {z:Array Value} (h:KL k z.size z.toList) (n:Nat):KL k z.size (Builtin.zeroCells z n).toList:=fun i x hx=>by
 unfold Builtin.zeroCells at hx;rw[Array.toList_map,bO]at hx;have hr:(Array.range (n*z.size)).toList[i]? =if i<n*z.size then some i else none:=by
  rw[Array.toList_range];split
  ·rename_i hi;exact List.getElem?_range hi
  ·rename_i hi;exact bj (by simpa using hi)
 rw[hr]at hx;split at hx
 ·rename_i hi
  have hz:0<z.size:=by
   rcases bC z.size with h0 | h0
   ·rw[h0]at hi;omega
   ·exact h0
  have hlt:=Nat.mod_lt i hz;simp only[Option.map_some,Option.some.injEq]at hx;have hx2:z.toList[i % z.size]? =some x:=by
   rw[←hx,bw,bI hlt];simp[hlt]
  have:=h _ x hx2;rwa [Nat.mod_mod]at this
 ·cases hx
section
variable {P:Program} (w:World)
def BlkK (k:Nat→Value→Prop) (s:Nat) (e:TypeId) (v:Value) (w:World):Prop:=∀(g:Nat) (cur:Array Value),v.ownBlock=some g→w.heap[g]? =some (.cells cur e (0,0))→KL k s cur.toList
theorem mh (base:Nat) (t ty e:TypeId) (i:TypeInfo) (z:Value) (size bytes:Nat) (ht:P.underlying t=some (.slice e)) (hi:P.info? e=some i) (hz:i.zero=some z)
  (hsize:i.size=size) (hby:i.bytes=bytes) (hzs:z.cells.size=size) (hsz:0<size)
  (v:Value) (n:Nat) (xs:List Value) (hown:w.ownsRow base e size v n xs)
  (a:Addr) (m c:Nat) (news:List Value) (hl:news.length=m*size) (hnews:∀j u,news[j]? =some u→w.cell? (a.add j)=some u) (h1:∀u∈news,u.oneCell'=true)
  (h63:n+m≤maxLen) (hbytes:(n+m)*bytes≤140737488355328) (hbase:base≤w.heap.size) (hm:0<m)
  (k:Nat→Value→Prop) (hkn:KL k size news) (hkz:KL k size z.cells.toList) (hkc:BlkK k size e v w):
  ∃v' w',(Builtin.append_ #[t,t] ty #[v,.slice (some a) m c]).run P w= .ok v' w'∧w'.ownsRow base e size v' (n+m) (xs++news)∧w.grownBy w' v.ownBlock∧(v'.ownBlock=v.ownBlock∨v'.ownBlock=some w.heap.size)∧BlkK k size e v' w':=by
 obtain⟨v',w',hr,h2,h3,h4⟩:=ir (P:=P) w base t ty e i z size bytes ht hi hz hsize hby hzs hsz v n xs hown a m c news hl hnews h1 h63 hbytes hbase hm;refine⟨v',w',hr,h2,h3,h4,?_⟩
 subst hsize hby
 have hsmall:n+m≤9223372036854775807:=by simp only[maxLen]at h63;omega
 have hzero:∀q,KL k i.size (Builtin.zeroCells z.cells q).toList:=fun q=>by
  have h:=KL.zero (k:=k) (z:=z.cells) (by rw[hzs];exact hkz) q;rwa [hzs]at h
 have hlm:news.length % i.size=0:=by rw[hl];exact Nat.mul_mod_left _ _
 rcases hown.2 with⟨rfl,rfl⟩ | ⟨g,cap,cur,rfl,hbg,hg,hnc,hcm,hcs,htake⟩
 ·have hr2:=run_append_nil (P:=P) w t ty e i z ht hi hz a m c news hl hnews hm (by omega) (by have hb:=hbytes;simp only[bx]at hb;omega)
  rw[hr]at hr2;injection hr2 with e1 e2
  subst e1 e2;intro q cur' hq hh;have hq2:w.heap.size=q:=Option.some.inj hq;subst hq2;have hh2:=(heap_alloc_new w.drew (.cells (news.toArray++Builtin.zeroCells z.cells (grownCap w m 0 e-m)) e)).symm.trans hh;injection hh2 with hh2
  injection hh2 with hh2
  rw[←hh2,Array.toList_append];exact hkn.append (hzero _) hlm
 ·by_cases hroom:n+m≤cap
  ·have hfit:n*i.size+news.length≤cur.size:=by rw[hl,hcs,←Nat.add_mul];exact Nat.mul_le_mul_right _ hroom
   have hr2:=run_append_room (P:=P) w t ty e i ht hi g n cap cur hg a m c news hl hnews h1 hroom hfit;rw[hr]at hr2;injection hr2 with e1 e2
   subst e1 e2;intro q cur' hq hh;have hq2:g=q:=Option.some.inj hq;subst hq2;have hh2:=(setRow_heap w g cur _ e _ hg).symm.trans hh;injection hh2 with hh2
   injection hh2 with hh2
   rw[←hh2];have hc:=hkc g cur rfl hg;have hn1:(cur.toList.take (n*i.size)).length % i.size=0:=by
    rw[aS,cQ,Nat.min_eq_left (by omega)];exact Nat.mul_mod_left _ _
   refine((hc.take _).append hkn hn1).append (hc.drop _ ?_) ?_
   ·rw[Nat.add_mod,hlm,Nat.mul_mod_left];simp
   ·rw[ay,Nat.add_mod,hn1,hlm];simp
  ·have holds:∀j u,xs[j]? =some u→w.cell? ((⟨g,0,none⟩:Addr).add j)=some u:=hown.cells (g:=g) rfl
   have hr2:=run_append_grow (P:=P) w t ty e i z ht hi hz ⟨g,0,none⟩ n cap xs hown.1 holds a m c news hl hnews (by omega) (by omega) (growslice_fits (by omega) hbytes);rw[hr]at hr2;injection hr2 with e1 e2
   subst e1 e2;intro q cur' hq hh;have hq2:w.heap.size=q:=Option.some.inj hq;subst hq2;have hh2:=(heap_alloc_new w.drew (.cells (xs.toArray++news.toArray++Builtin.zeroCells z.cells (grownCap w (n+m) cap e-(n+m))) e)).symm.trans hh;injection hh2 with hh2
   injection hh2 with hh2
   rw[←hh2,Array.toList_append,Array.toList_append];have hx:KL k i.size xs:=by rw[←htake];exact(hkc g cur rfl hg).take _
   have hxl:xs.length % i.size=0:=by rw[hown.1];exact Nat.mul_mod_left _ _
   refine(hx.append hkn hxl).append (hzero _) ?_
   show(xs++news).length % i.size=0
   rw[ay,Nat.add_mod,hxl,hlm];simp
theorem eZ {o:Oper} {a:Act} {K:Act→World→Prop} {Q:Exit→Act→World→Prop} (s x:Operand) (t:TypeId)
  (ho:o.op= .call {callee:=.builtin .append,args:=#[s,x],argTypes:=#[t,t]})
  (base:Nat) (e:TypeId) (i:TypeInfo) (z:Value) (size bytes:Nat) (ht:P.underlying t=some (.slice e)) (hi:P.info? e=some i) (hz:i.zero=some z)
  (hsize:i.size=size) (hby:i.bytes=bytes) (hzs:z.cells.size=size) (hsz:0<size)
  (v:Value) (n:Nat) (xs:List Value) (hs:a.eval s=v) (hown:w.ownsRow base e size v n xs)
  (ad:Addr) (m c:Nat) (news:List Value) (hx:a.eval x= .slice (some ad) m c) (hl:news.length=m*size) (hnews:∀j u,news[j]? =some u→w.cell? (ad.add j)=some u) (h1:∀u∈news,u.oneCell'=true)
  (h63:n+m≤maxLen) (hbytes:(n+m)*bytes≤140737488355328) (hbase:base≤w.heap.size) (hm:0<m)
  (k:Nat→Value→Prop) (hkn:KL k size news) (hkz:KL k size z.cells.toList) (hkc:BlkK k size e v w)
  (h:∀v' w',w'.ownsRow base e size v' (n+m) (xs++news)→w.grownBy w' v.ownBlock→(v'.ownBlock=v.ownBlock∨v'.ownBlock=some w.heap.size)→BlkK k size e v' w'→K (a.put o.dst v') w'):o.wp P a w K Q:=by
 obtain⟨v',w',hr,h2,h3,h4,h5⟩:=mh (P:=P) w base t o.type e i z size bytes ht hi hz hsize hby hzs hsz v n xs hown ad m c news hl hnews h1 h63 hbytes hbase hm k hkn hkz hkc;unfold Oper.wp execOp;simp only[ho,resolve,invoke,builtin,Sem.run_bind,Sem.run_pure,Result.andThen_ok,List.map_toArray,List.map_cons,List.map_nil,hs,hx,hr];exact h v' w' h2 h3 h4 h5
end
end
end Go.Proofs.YtfnciigbbolckaaGreat
