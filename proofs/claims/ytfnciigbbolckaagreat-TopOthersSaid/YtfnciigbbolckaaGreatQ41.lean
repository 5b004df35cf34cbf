/- Part 41 of the proof about mailboattop.TopOthers. No condition. -/
import Derived.Test.YtfnciigbbolckaaGreatQ00
import Derived.Test.YtfnciigbbolckaaGreatQ06
import Derived.Test.YtfnciigbbolckaaGreatQ25
import Derived.Test.YtfnciigbbolckaaGreatQ40
set_option linter.unusedVariables false
set_option linter.unusedSimpArgs false
set_option maxRecDepth 100000
set_option maxHeartbeats 64000000
namespace Go.Proofs.YtfnciigbbolckaaGreat
open Go Go.RowKit Iv
attribute [local go_sem] Oper.semAt_some
attribute [local go_sem] pw gu B_app pv B_get B_toList
section
def AccPost (qs:List Int) (cs:List Con) (uq uc:Value) (w:World) (e:Ending) (w':World):Prop:=
 (∃(L V:Array Value) (er:Int),e= .returned (.tuple #[.agg L,.agg V,.int .i64 er])∧(∃vb vn a1 n1 c1 a2 n2 c2 a3 n3 c3,V=#[.bool vb,.int .i64 vn,.slice a1 n1 c1,.slice a2 n2 c2,.slice a3 n3 c3])∧(∃a1 n1 c1 a2 n2 c2 a3 n3 c3 a4 n4 c4,L=#[.slice a1 n1 c1,.slice a2 n2 c2,.slice a3 n3 c3,.slice a4 n4 c4])∧(er=0→∃ut ts,L=#[uq,uc,.slice none 0 0,ut]∧RTks w' ut ts∧LedOK qs cs ts))∧Below w.heap.size w w'
theorem RTks.shape {w:World} {u:Value} {ts:List Tk} (h:RTks w u ts):∃a n c,u= .slice a n c:=by
 obtain⟨ps,-,⟨a,c,rfl,-⟩,-⟩:=h;exact⟨_,_,_,rfl⟩
theorem gX {α:Type} {enc:α→List Value} {k:Nat} {W:World} {N:Nat} {u:Value} {l:List α} {z:Nat} {cs:Array Value} {T:TypeId} (h:RRow enc k W N u l) (hn:l≠[]) (hz:W.heap[z]? =some (.cells cs T (0,0))) (henc:∀x,∃a b,(enc x)[0]? =some (.int .i64 a)∧(enc x)[1]? =some (.int .i64 b)) (hc:∀(o:Nat) (a b:Int),cs[o]? =some (.int .i64 a)→cs[o+1]? =some (.int .i64 b)→False):u.ownBlock≠some z:=fun e=>by
 obtain⟨a,c,rfl,-,-,-,h4⟩:=h;obtain⟨bb,o,rfl,-,hcl⟩:=h4 (List.length_pos_iff.2 hn);have e1:bb=z:=Option.some.inj e;subst e1;obtain⟨x,r,rfl⟩:=List.exists_cons_of_ne_nil hn;obtain⟨a,b,h0,h1⟩:=henc x;have g0:=(cU hz (o+0*k+0)).symm.trans (hcl 0 x rfl 0 _ h0);have g1:=(cU hz (o+0*k+1)).symm.trans (hcl 0 x rfl 1 _ h1);exact hc (o+0*k+0) a b g0 (by rw[show o+0*k+0+1=o+0*k+1 by omega];exact g1)
theorem RTks.keep2 {W W':World} {u:Value} {ts:List Tk} {a b:Nat} (h:RTks W u ts) (hs:W.heap.size≤W'.heap.size) (hk:∀q,q≠a→q≠b→W'.heap[q]? =W.heap[q]?) (ha:W.heap[a]? =some (.cells #[.slice none 0 0,.slice none 0 0,.slice none 0 0,.slice none 0 0] 36 (0,0))) (hb:W.heap[b]? =some (.cells #[.bool false,.int .i64 0,.slice none 0 0,.slice none 0 0,.slice none 0 0] 64 (0,0))):RTks W' u ts:=by
 have hca:∀(o:Nat) (x y:Int),(#[.slice none 0 0,.slice none 0 0,.slice none 0 0,.slice none 0 0]:Array Value)[o]? =some (.int .i64 x)→(#[.slice none 0 0,.slice none 0 0,.slice none 0 0,.slice none 0 0]:Array Value)[o+1]? =some (.int .i64 y)→False:=fun o x y h1 _=>by
  rcases o with _ | _ | _ | _ | o<;>simp at h1
 have hcb:∀(o:Nat) (x y:Int),(#[.bool false,.int .i64 0,.slice none 0 0,.slice none 0 0,.slice none 0 0]:Array Value)[o]? =some (.int .i64 x)→(#[.bool false,.int .i64 0,.slice none 0 0,.slice none 0 0,.slice none 0 0]:Array Value)[o+1]? =some (.int .i64 y)→False:=fun o x y h1 h2=>by
  rcases o with _ | _ | _ | _ | _ | o<;>simp at h1 h2
 obtain⟨ps,e,h1,h2⟩:=h;have ht:∀x:Tk×Value,∃a b,(tkP x)[0]? =some (.int .i64 a)∧(tkP x)[1]? =some (.int .i64 b):=fun x=>⟨_,_,rfl,rfl⟩
 have hh:∀x:Hp,∃a b,(hpC x)[0]? =some (.int .i64 a)∧(hpC x)[1]? =some (.int .i64 b):=fun x=>⟨_,_,rfl,rfl⟩
 refine⟨ps,e,h1.keepAt hs (fun hn q hq=>hk q (fun e=>gX h1 hn ha ht hca (by rw[←e];exact hq)) (fun e=>gX h1 hn hb ht hcb (by rw[←e];exact hq))),fun p hp=>(h2 p hp).keepAt hs (fun hn q hq=>hk q (fun e=>gX (h2 p hp) hn ha hh hca (by rw[←e];exact hq)) (fun e=>gX (h2 p hp) hn hb hh hcb (by rw[←e];exact hq)))⟩
structure AcB (Z:Nat) (w:World) (L:Array Value) (q:Rq) (W:World):Prop where
 b:Below Z w W
 x0:W.heap[Z]? =some (.cells L 36 (0,0))
 x1:W.heap[Z+1]? =some (.cells #[.int .i64 q.src,.int .i64 q.dst,.int .i64 q.sz,.int .i64 q.rd,.int .i64 q.D,.int .i64 q.pr,.bool q.cu] 38 (0,0))
 x2:W.heap[Z+1+1]? =some (.cells #[.slice none 0 0,.slice none 0 0,.slice none 0 0,.slice none 0 0] 36 (0,0))
 x3:W.heap[Z+1+1+1]? =some (.cells #[.bool false,.int .i64 0,.slice none 0 0,.slice none 0 0,.slice none 0 0] 64 (0,0))
theorem AcB.lt {Z:Nat} {w:World} {L:Array Value} {q:Rq} {W:World} (h:AcB Z w L q W):Z+1+1+1<W.heap.size:=(ai.1 h.x3).1
theorem AcB.nextN {Z:Nat} {w:World} {L:Array Value} {q:Rq} {W W':World} {N:Nat} (h:AcB Z w L q W) (k:Below N W W') (hl:Z+1+1+1<N):AcB Z w L q W':=
 ⟨h.b.trans (k.mono (by omega)),(k.block _ (by omega)).trans h.x0,(k.block _ (by omega)).trans h.x1,(k.block _ (by omega)).trans h.x2,(k.block _ (by omega)).trans h.x3⟩
theorem AcB.next {Z:Nat} {w:World} {L:Array Value} {q:Rq} {W W':World} (h:AcB Z w L q W) (k:Below W.heap.size W W'):AcB Z w L q W':=by
 have hl:=h.lt;exact⟨h.b.trans (k.mono (by omega)),(k.block _ (by omega)).trans h.x0,(k.block _ (by omega)).trans h.x1,(k.block _ (by omega)).trans h.x2,(k.block _ (by omega)).trans h.x3⟩
def AccX (qs:List Int) (cs:List Con) (ts:List Tk) (q:Rq) (uq uc:Value) (er:Int) (L V:Array Value) (w':World):Prop:=ts=[]→ReqO qs.length q→q.pr≠2→∃R l,RoomsOK qs qs [] q.sz R∧LabOK (gQ cs [] R q) l∧((arrL (gQ cs [] R q) l).2=true→(univ (gQ cs [] R q)).length≤500→er=0∧(∃ut hs,L=#[uq,uc,.slice none 0 0,ut]∧RTks w' ut [newT 1 q hs]∧EOK qs cs q [] [] hs∧∀h,hs.getLast? =some h→h.ar=(arrL (gQ cs [] R q) l).1)∧∃v2 v3 v4,V=#[.bool true,.int .i64 1,v2,v3,v4])
def AccPostX (qs:List Int) (cs:List Con) (ts:List Tk) (q:Rq) (uq uc:Value) (w:World) (e:Ending) (w':World):Prop:=
 (∃(L V:Array Value) (er:Int),e= .returned (.tuple #[.agg L,.agg V,.int .i64 er])∧(∃vb vn a1 n1 c1 a2 n2 c2 a3 n3 c3,V=#[.bool vb,.int .i64 vn,.slice a1 n1 c1,.slice a2 n2 c2,.slice a3 n3 c3])∧(∃a1 n1 c1 a2 n2 c2 a3 n3 c3 a4 n4 c4,L=#[.slice a1 n1 c1,.slice a2 n2 c2,.slice a3 n3 c3,.slice a4 n4 c4])∧(er=0→∃ut ts,L=#[uq,uc,.slice none 0 0,ut]∧RTks w' ut ts∧LedOK qs cs ts)∧AccX qs cs ts q uq uc er L V w')∧Below w.heap.size w w'
theorem acx_bad {qs:List Int} {cs:List Con} {ts:List Tk} {q:Rq} {uq uc:Value} {er er':Int} {L V:Array Value} {w':World} {B:List Bkg} {H:List Hld} {hs:List Hp} (hB:B.Perm (allB ts)) (hH:H.Perm (allH cs ts)) (hx:EarX qs cs q B H er hs) (her:er≠0):AccX qs cs ts q uq uc er' L V w':=by
 intro e hrq _;subst e;have hB0:B=[]:=hB.eq_nil;have hH0:H=[]:=hH.eq_nil;subst hB0 hH0;obtain⟨R,l,h1,h2,h3,_⟩:=hx hrq;refine⟨R,l,h1,h2,fun a b=>?_⟩
 rcases h3 her with h | h
 ·rw[h]at a;cases a
 ·omega
theorem acx_full {qs:List Int} {cs:List Con} {ts:List Tk} {q:Rq} {uq uc:Value} {er' no:Int} {L V:Array Value} {w':World} {B B':List Bkg} {H H':List Hld} {hs:List Hp} (hB:B.Perm (allB ts)) (hH:H.Perm (allH cs ts)) (hx:EarX qs cs q B H 0 hs) (hB':B'.Perm (allB (ts++[newT no q hs]))) (hH':H'.Perm (allH cs (ts++[newT no q hs]))) (hf:¬(B'.length≤512∧H'.length≤512)):AccX qs cs ts q uq uc er' L V w':=by
 intro e hrq _;subst e;have hB0:B=[]:=hB.eq_nil;have hH0:H=[]:=hH.eq_nil;subst hB0 hH0;obtain⟨R,l,h1,h2,_,h3⟩:=hx hrq;refine⟨R,l,h1,h2,fun a b=>?_⟩
 have h4:=(h3 rfl).1;have hl:∀t∈([]++[newT no q hs]),t.hs.length≤500:=fun t ht=>by
  have:t=newT no q hs:=by simpa using ht
  rw[this];show hs.length≤500
  omega
 have b1:=iQ hl;have b2:=iR (cs:=cs) hl;rw[←hB'.length_eq]at b1;rw[←hH'.length_eq]at b2;simp only[br,aI,bE]at b1 b2;exact absurd ⟨by omega,by omega⟩ hf
theorem acx_ok {qs:List Int} {cs:List Con} {ts:List Tk} {q:Rq} {uq uc ut v2 v3 v4:Value} {no:Int} {w':World} {B:List Bkg} {H:List Hld} {hs:List Hp} (hB:B.Perm (allB ts)) (hH:H.Perm (allH cs ts)) (hx:EarX qs cs q B H 0 hs) (hn:nextS ts=no) (hE:EOK qs cs q B H hs) (hr:RTks w' ut (ts++[newT no q hs])):AccX qs cs ts q uq uc 0 #[uq,uc,.slice none 0 0,ut] #[.bool true,.int .i64 no,v2,v3,v4] w':=by
 intro e hrq _;subst e;have hB0:B=[]:=hB.eq_nil;have hH0:H=[]:=hH.eq_nil;subst hB0 hH0;have hn1:no=1:=hn.symm;subst hn1;obtain⟨R,l,h1,h2,_,h3⟩:=hx hrq;exact⟨R,l,h1,h2,fun a b=>⟨rfl,⟨ut,hs,rfl,hr,hE,(h3 rfl).2⟩,v2,v3,v4,rfl⟩⟩
theorem nN (qs:List Int) (cs:List Con) (ts:List Tk) (q:Rq) (uq uc ut:Value) (w:World) (hq:RRow intC 1 w w.heap.size uq qs) (hc:RRow conC 7 w w.heap.size uc cs) (ht:RTks w ut ts) (hL:LedOK qs cs ts):
  Calls Tryz.prog 16 #[.agg #[uq,uc,.slice none 0 0,ut],.agg #[.int .i64 q.src,.int .i64 q.dst,.int .i64 q.sz,.int .i64 q.rd,.int .i64 q.D,.int .i64 q.pr,.bool q.cu],.int .i64 q.rd] w (AccPostX qs cs ts q uq uc w):=by
 have HQ:=aa hq;have HC:=aa hc;have HT:=aa ht;have HL:=aa hL;obtain⟨aq,cq,rfl,-⟩:=hq;obtain⟨ca,cc,rfl,-⟩:=hc;obtain⟨pa,pn,pc,rfl⟩:=ht.shape;have hfc:∀args W,(callFunc 37 args).run Tryz.prog W= .ok (.enter 37 args) W:=fun _ _=>by kernel_rfl
 clear hL ht;go_enter Tryz.func16,Tryz.ntmps16
 go_upto_region 2 with fail
 obtain⟨Z,hZ⟩:=cR w.heap.size
 obtain⟨w1,hw1⟩:=cR ((((w.alloc (.cells #[.slice aq qs.length cq,.slice ca cs.length cc,.slice none 0 0,.slice pa pn pc] 36)).alloc (.cells #[.int .i64 q.src,.int .i64 q.dst,.int .i64 q.sz,.int .i64 q.rd,.int .i64 q.D,.int .i64 q.pr,.bool q.cu] 38)).alloc (.cells #[.slice none 0 0,.slice none 0 0,.slice none 0 0,.slice none 0 0] 36)).alloc (.cells #[.bool false,.int .i64 0,.slice none 0 0,.slice none 0 0,.slice none 0 0] 64))
 rw[hw1];have HA1:Hid (AcB Z w #[.slice aq qs.length cq,.slice ca cs.length cc,.slice none 0 0,.slice pa pn pc] q w1):=aa ⟨by rw[←hw1,←hZ];exact cZ,by rw[←hw1,←hZ];exact(by repeat (first | exact cY (by first | rfl | (simp;done)) | refine(ak _ _ _ (by first | (simp;done) | (simp;omega))).trans ?_)),by rw[←hw1,←hZ];exact(by repeat (first | exact cY (by first | rfl | (simp;done)) | refine(ak _ _ _ (by first | (simp;done) | (simp;omega))).trans ?_)),by rw[←hw1,←hZ];exact(by repeat (first | exact cY (by first | rfl | (simp;done)) | refine(ak _ _ _ (by first | (simp;done) | (simp;omega))).trans ?_)),by rw[←hw1,←hZ];exact(by repeat (first | exact cY (by first | rfl | (simp;done)) | refine(ak _ _ _ (by first | (simp;done) | (simp;omega))).trans ?_))⟩;have HZ:=aa hZ;rw[hZ]at HQ HC ⊢;clear hw1 hZ;have k0:=fun q_=>cU HA1.out.x0 q_
 have k1:=fun q_=>cU HA1.out.x1 q_
 have zz1:Z+1+1+1<w1.heap.size:=HA1.out.lt;have zq1:Z<w1.heap.size:=by omega
 have zr1:Z+1<w1.heap.size:=by omega
 go_wp2_with fail
 refine(m6 qs cs ts (.slice aq qs.length cq) (.slice ca cs.length cc) (.slice pa pn pc) w1 (HQ.out.below HA1.out.b (aj _) (by omega)) (HC.out.below HA1.out.b (aj _) (by omega)) (HT.out.below' (by rw[HZ.out];exact HA1.out.b)) HL.out).mono ?_
 rintro e w2 ⟨rfl,hb2⟩;have HA2:=aa (HA1.out.next hb2);clear hb2 k0 k1 zz1 zq1 zr1;have k0:=fun q_=>cU HA2.out.x0 q_
 have k1:=fun q_=>cU HA2.out.x1 q_
 have zz2:Z+1+1+1<w2.heap.size:=HA2.out.lt;have zq2:Z<w2.heap.size:=by omega
 have zr2:Z+1<w2.heap.size:=by omega
 go_wp2_with fail
 refine(fC qs cs (.slice aq qs.length cq) (.slice ca cs.length cc) q.src q.dst q.sz q.rd q.D q.pr q.cu w2 (HQ.out.below HA2.out.b (aj _) (by omega)) (HC.out.below HA2.out.b (aj _) (by omega))).mono ?_
 unfold CrPost;rintro e w3 ⟨⟨r,rfl,hr0,hr1⟩,hb3⟩;have HR1:=aa hr1;clear hr1;have HA3:=aa (HA2.out.next hb3);clear hb3 k0 k1 zz2 zq2 zr2;have k0:=fun q_=>cU HA3.out.x0 q_
 have k1:=fun q_=>cU HA3.out.x1 q_
 have zz3:Z+1+1+1<w3.heap.size:=HA3.out.lt;have zq3:Z<w3.heap.size:=by omega
 have zr3:Z+1<w3.heap.size:=by omega
 by_cases hr:r=0
 case neg=>
  have d1:(r==0)=false:=by rw[beq_eq_false_iff_ne];exact hr
  have d2:(r != 0)=true:=by rw[bne_iff_ne];exact hr
  go_wp2_with fail
  refine(kV r w3).mono ?_
  rintro e w4 ⟨rfl,hb4⟩;have HA4:=aa (HA3.out.next hb4);clear hb4 k0 k1 d1 d2 zz3 zq3 zr3;have k0:=fun q_=>cU HA4.out.x0 q_
  have k1:=fun q_=>cU HA4.out.x1 q_
  have zz4:Z+1+1+1<w4.heap.size:=HA4.out.lt;have zq4:Z<w4.heap.size:=by omega
  have zr4:Z+1<w4.heap.size:=by omega
  have zz:Z+1+1+1<w4.heap.size:=HA4.out.lt;have HRB:=aa (cS HA4.out.x2 HA4.out.x3);go_wp2_with (first | (refine dv rfl 36 _ _ rfl (Z+1+1) #[.slice none 0 0,.slice none 0 0,.slice none 0 0,.slice none 0 0] _ 36 rfl rfl HRB.out.1 rfl (by kernel_rfl) (by simp[Value.oneCell']) ?_;intro wF hW hbW hsW hoW;have HF1:=aa (cS (hbW Z (by omega)) (cS hW (cS ((hoW _ (by omega)).trans HRB.out.2) (cS hsW hoW))));clear hW hbW hsW hoW) | (refine dv rfl 64 _ _ rfl (Z+1+1+1) #[.bool false,.int .i64 0,.slice none 0 0,.slice none 0 0,.slice none 0 0] _ 64 rfl rfl HF1.out.2.2.1 rfl (by kernel_rfl) (by simp[Value.oneCell']) ?_;intro wG hW hbW hsW hoW;have HF2:=aa (cS (HF1.out.1.trans (hbW Z (by omega))) (cS ((hoW _ (by omega)).trans HF1.out.2.1) (cS hW (cS (fun q (h1:q≠Z+1+1) (h2:q≠Z+1+1+1)=>(hoW q h2).trans (HF1.out.2.2.2.2 q h1)) (hsW.trans HF1.out.2.2.2.1)))));have cF1:=fun o=>cU HF2.out.2.1 o;have cF2:=fun o=>cU HF2.out.2.2.1 o;have zF1:Z+1+1<wG.heap.size:=(ai.1 HF2.out.2.1).1;have zF2:Z+1+1+1<wG.heap.size:=(ai.1 HF2.out.2.2.1).1;clear hW hbW hsW hoW))
  refine bodyPost_ret (v:=.tuple #[.agg #[.slice none 0 0,.slice none 0 0,.slice none 0 0,.slice none 0 0],.agg #[.bool false,.int .i64 0,.slice none 0 0,.slice none 0 0,.slice none 0 0],.int .i64 r]) (by simp[results,Tryz.results16,go_sem,cF1,cF2,zF1,zF2]) rfl ?_
  unfold AccPostX;rw[HZ.out];refine⟨⟨_,_,_,rfl,⟨_,_,_,_,_,_,_,_,_,_,_,rfl⟩,⟨_,_,_,_,_,_,_,_,_,_,_,_,rfl⟩,fun he0=>?_,?_⟩,HA4.out.b.trans HF2.out.1⟩
  ·exact absurd he0 hr
  ·exact fun _ hrq _=>absurd (HR1.out HL.out.pl hrq) hr
 subst hr;obtain⟨-,hrq⟩:=hr0 rfl;have HRQ:Hid (ReqO qs.length q):=aa hrq;have hrd0:0≤q.rd:=by have:=hrq.2.2.1;omega
 have hrd1:q.rd≤1099511627776:=by have:=hrq.2.2.1;omega
 have d3:decide (q.rd<0)=false:=decide_eq_false (by omega);have d4:decide (q.rd>q.rd)=false:=decide_eq_false (by omega);clear hr0 hrq;go_wp2_with fail
 refine(mM ts (.slice aq qs.length cq) (.slice ca cs.length cc) (.slice none 0 0) (.slice pa pn pc) w3 ⟨_,_,_,rfl⟩ ⟨_,_,_,rfl⟩ ⟨_,_,_,rfl⟩ (HT.out.below' (by rw[HZ.out];exact HA3.out.b))).mono ?_
 rintro e w4 ⟨⟨r,rfl,hcr,hcz⟩,hb4⟩;have HA4:=aa (HA3.out.next hb4);clear hb4 k0 k1 d3 d4 zz3 zq3 zr3;have k0:=fun q_=>cU HA4.out.x0 q_
 have k1:=fun q_=>cU HA4.out.x1 q_
 have zz4:Z+1+1+1<w4.heap.size:=HA4.out.lt;have zq4:Z<w4.heap.size:=by omega
 have zr4:Z+1<w4.heap.size:=by omega
 cases r
 case true=>
  have HCZ:=aa hcz;clear hcr hcz;go_wp2_with fail
  refine(kV 4 w4).mono ?_
  rintro e w5 ⟨rfl,hb5⟩;have HA5:=aa (HA4.out.next hb5);clear hb5 k0 k1 zz4 zq4 zr4;have k0:=fun q_=>cU HA5.out.x0 q_
  have k1:=fun q_=>cU HA5.out.x1 q_
  have zz5:Z+1+1+1<w5.heap.size:=HA5.out.lt;have zq5:Z<w5.heap.size:=by omega
  have zr5:Z+1<w5.heap.size:=by omega
  have zz:Z+1+1+1<w5.heap.size:=HA5.out.lt;have HRB:=aa (cS HA5.out.x2 HA5.out.x3);go_wp2_with (first | (refine dv rfl 36 _ _ rfl (Z+1+1) #[.slice none 0 0,.slice none 0 0,.slice none 0 0,.slice none 0 0] _ 36 rfl rfl HRB.out.1 rfl (by kernel_rfl) (by simp[Value.oneCell']) ?_;intro wF hW hbW hsW hoW;have HF1:=aa (cS (hbW Z (by omega)) (cS hW (cS ((hoW _ (by omega)).trans HRB.out.2) (cS hsW hoW))));clear hW hbW hsW hoW) | (refine dv rfl 64 _ _ rfl (Z+1+1+1) #[.bool false,.int .i64 0,.slice none 0 0,.slice none 0 0,.slice none 0 0] _ 64 rfl rfl HF1.out.2.2.1 rfl (by kernel_rfl) (by simp[Value.oneCell']) ?_;intro wG hW hbW hsW hoW;have HF2:=aa (cS (HF1.out.1.trans (hbW Z (by omega))) (cS ((hoW _ (by omega)).trans HF1.out.2.1) (cS hW (cS (fun q (h1:q≠Z+1+1) (h2:q≠Z+1+1+1)=>(hoW q h2).trans (HF1.out.2.2.2.2 q h1)) (hsW.trans HF1.out.2.2.2.1)))));have cF1:=fun o=>cU HF2.out.2.1 o;have cF2:=fun o=>cU HF2.out.2.2.1 o;have zF1:Z+1+1<wG.heap.size:=(ai.1 HF2.out.2.1).1;have zF2:Z+1+1+1<wG.heap.size:=(ai.1 HF2.out.2.2.1).1;clear hW hbW hsW hoW))
  refine bodyPost_ret (v:=.tuple #[.agg #[.slice none 0 0,.slice none 0 0,.slice none 0 0,.slice none 0 0],.agg #[.bool false,.int .i64 0,.slice none 0 0,.slice none 0 0,.slice none 0 0],.int .i64 4]) (by simp[results,Tryz.results16,go_sem,cF1,cF2,zF1,zF2]) rfl ?_
  unfold AccPostX;rw[HZ.out];refine⟨⟨_,_,_,rfl,⟨_,_,_,_,_,_,_,_,_,_,_,rfl⟩,⟨_,_,_,_,_,_,_,_,_,_,_,_,rfl⟩,fun he0=>?_,?_⟩,HA5.out.b.trans HF2.out.1⟩
  ·exact absurd he0 (by omega)
  ·exact fun e _ _=>absurd (HCZ.out e) (by decide)
 have HCR:=aa (hcr rfl);clear hcr hcz;go_wp2_with fail
 refine(fq qs cs ts (.slice aq qs.length cq) (.slice ca cs.length cc) (.slice pa pn pc) w4 ⟨_,_,_,rfl⟩ (HC.out.below HA4.out.b (aj _) (by omega)) HL.out.pl (HT.out.below' (by rw[HZ.out];exact HA4.out.b)) (fun t ht=>HL.out.wok ht) HL.out.len (fun t ht=>by have:=HL.out.hops ht;omega)).mono ?_
 unfold TabPost;rintro e w5 ⟨⟨vb,vh,B,H,rfl,hB1,hB2,hH1,hH2,hto⟩,hb5⟩;have HA5:=aa (HA4.out.next hb5);have z5:w4.heap.size≤w5.heap.size:=hb5.size;have HTO:=aa hto;have HPM:=aa (cS hB1 (cS hH1 (cS (HL.out.bset hB1 hB2) (HL.out.hset hH1 hH2))));obtain⟨ba_,bc,hbe⟩:=dg hto.b;subst hbe;obtain⟨ha_,hc_,hhe⟩:=dg hto.h;subst hhe;clear hb5 hto hB1 hB2 hH1 hH2 k0 k1 zz4 zq4 zr4;have k0:=fun q_=>cU HA5.out.x0 q_
 have k1:=fun q_=>cU HA5.out.x1 q_
 have zz5:Z+1+1+1<w5.heap.size:=HA5.out.lt;have zq5:Z<w5.heap.size:=by omega
 have zr5:Z+1<w5.heap.size:=by omega
 go_upto_region 12 with fail
 obtain⟨T,hT⟩:=cR w5.heap.size
 obtain⟨w6,hw6⟩:=cR (w5.alloc (.cells #[.slice aq qs.length cq,.slice ca cs.length cc,.slice ba_ B.length bc,.slice ha_ H.length hc_] 44))
 rw[hw6,hT];have b6:Below w5.heap.size w5 w6:=by rw[←hw6];exact de (ap _ _)
 have XT6:w6.heap[T]? =some (.cells #[.slice aq qs.length cq,.slice ca cs.length cc,.slice ba_ B.length bc,.slice ha_ H.length hc_] 44 (0,0)):=by rw[←hw6,←hT];exact cW
 have zT6:T<w6.heap.size:=(ai.1 XT6).1;have HA6:=aa (HA5.out.next b6);have HOB6:=aa (cV HTO.out.b (fun q hq=>b6.block q (HTO.out.b.lt q hq).2));have HOH6:=aa (cV HTO.out.h (fun q hq=>b6.block q (HTO.out.h.lt q hq).2));have HXT6:=aa XT6;have kT:=fun q_=>cU XT6 q_
 have z6:w5.heap.size≤w6.heap.size:=b6.size;clear hw6 hT b6 XT6 k0 k1 HTO HA5 zz5 zq5 zr5;have k0:=fun q_=>cU HA6.out.x0 q_
 have k1:=fun q_=>cU HA6.out.x1 q_
 have zz6:Z+1+1+1<w6.heap.size:=HA6.out.lt;have zq6:Z<w6.heap.size:=by omega
 have zr6:Z+1<w6.heap.size:=by omega
 go_wp2_with fail
 refine(kS qs cs B H q (.slice aq qs.length cq) (.slice ca cs.length cc) (.slice ba_ B.length bc) (.slice ha_ H.length hc_) w6 (HQ.out.below HA6.out.b (aj _) (by omega)) (HC.out.below HA6.out.b (aj _) (by omega)) (dF (by decide) dL HOB6.out) (dF (by decide) dO HOH6.out) HL.out.pl HPM.out.2.2.1 HPM.out.2.2.2).mono ?_
 unfold EarPostX;rintro e w7 ⟨⟨v,er,hsE,rfl,hres,hex⟩,hb7⟩;have hpl:∃hsP,RHops w7 v hsP∧hsP.length≤1000∧(er=0→EOK qs cs q B H hsP)∧(er=0→hsP=hsE):=by
  rcases hres with⟨he,rfl⟩ | ⟨he,hE,hR⟩
  ·exact⟨[],RRow.nil _ _ _ _,by simp,(fun h=>absurd h he),fun h=>absurd h he⟩
  ·exact⟨hsE,hR,hE.len,(fun _=>hE),fun _=>rfl⟩
 obtain⟨hsP,hRP,hlP,hEP,hSE⟩:=hpl;have HEX:=aa hex;have HSE:=aa hSE;clear hex hSE;obtain⟨va,vc,rfl,-⟩:=id hRP;have HA7:=aa (HA6.out.next hb7);have z7:w6.heap.size≤w7.heap.size:=hb7.size;have HXT7:=aa ((hb7.block _ zT6).trans HXT6.out);have HOB7:=aa (cV HOB6.out (fun q hq=>hb7.block q (HOB6.out.lt q hq).2));have HOH7:=aa (cV HOH6.out (fun q hq=>hb7.block q (HOH6.out.lt q hq).2));have HRP:Hid (RRow hpC 4 w7 w7.heap.size (.slice va hsP.length vc) hsP):=aa hRP;have HEP:=aa hEP;have zT7:T<w7.heap.size:=by omega
 clear hb7 hRP hEP hres k0 k1 kT HA6 HXT6 HOB6 HOH6 zz6 zq6 zr6;have k0:=fun q_=>cU HA7.out.x0 q_
 have k1:=fun q_=>cU HA7.out.x1 q_
 have zz7:Z+1+1+1<w7.heap.size:=HA7.out.lt;have zq7:Z<w7.heap.size:=by omega
 have zr7:Z+1<w7.heap.size:=by omega
 have kT:=fun q_=>cU HXT7.out q_
 by_cases hpr:q.pr=2
 case' pos=>
  have d5:(q.pr==2)=true:=by rw[beq_iff_eq];exact hpr
  have HPR:=aa hpr;clear hpr;go_wp2_with fail
  refine(try_any qs cs ts q hsP (.slice aq qs.length cq) (.slice ca cs.length cc) (.slice pa pn pc) (.slice va hsP.length vc) q.rd w7 (HQ.out.below HA7.out.b (aj _) (by omega)) (HC.out.below HA7.out.b (aj _) (by omega)) (HT.out.below' (by rw[HZ.out];exact HA7.out.b)) HRP.out (by omega) HL.out HCR.out.1 HCR.out.2 ⟨hrd0,hrd1⟩).mono ?_
  rintro e w8 ⟨⟨p8,d8,rfl,hd8⟩,hb8⟩;have HA8:=aa (HA7.out.next hb8);have z8:w7.heap.size≤w8.heap.size:=hb8.size;have HXT8:=aa ((hb8.block _ zT7).trans HXT7.out);have HOB8:=aa (cV HOB7.out (fun q hq=>hb8.block q (HOB7.out.lt q hq).2));have HOH8:=aa (cV HOH7.out (fun q hq=>hb8.block q (HOH7.out.lt q hq).2));have HRP8:=aa (RRow.below' HRP.out hb8);clear hb8 k0 k1 kT HA7 HXT7 HOB7 HOH7 d5 zz7 zq7 zr7
  cases d8
  case true=>
   obtain⟨g,ts',ut',uv',mv',dr',rfl,hat,hrt,hld,⟨ma,mn,mc,rfl⟩,⟨da,dn,dc,rfl⟩⟩:=hd8 rfl;obtain⟨ta,tn,tc,rfl⟩:=hrt.shape;unfold AtX xC at hat;have HAT:=aa hat;have HRT:=aa (cS hrt hld);have hgl:g<w8.heap.size:=(ai.1 hat).1;have hg2:g≠Z+1+1:=et hat HA8.out.x2 (by decide);have hg3:g≠Z+1+1+1:=et hat HA8.out.x3 (by decide);have zz8:=HA8.out.lt;clear hat hrt hld hd8;go_upto_region 16 with fail
   refine dd (fun V=>∀o,V.cell? ⟨g,o,none⟩=(#[.slice aq qs.length cq,.slice ca cs.length cc,.slice none 0 0,.slice ta tn tc,.int .i64 q.rd,uv',.bool true,.int .i64 (nextS ts),.slice ma mn mc,.slice da dn dc,.slice none 0 0]:Array Value)[o]?) [0,0,0,0,1,0,0,0,1,2,3,0] [0,1,2,3,4,5,6,7,8,9,10,11] (by kernel_rfl) (by kernel_rfl) ?_ ?_
   case refine_1=>exact fun o=>cU HAT.out o
   (iterate 9 (refine cX rfl (by decide) (by rfl) (fun w1 hS=>by(try(have hS:=hS rfl;obtain hS:=hS;repeat (obtain⟨_,hS⟩:=hS)));go_simp;rfl) ?_;simp only[Act.put,ae,af,ag]))
   refine dA rfl rfl (by rfl) (fun K hK=>?_)
   refine eh 36 _ _ rfl (Z+1+1) #[.slice aq qs.length cq,.slice ca cs.length cc,.slice none 0 0,.slice ta tn tc] #[.slice none 0 0,.slice none 0 0,.slice none 0 0,.slice none 0 0] 36 rfl rfl (show w8.drew.heap[Z+1+1]? =_ from HA8.out.x2) rfl (by kernel_rfl) (by simp[Value.oneCell']) ?_
   intro wF hW hbW hsW hoW;have HF1:=aa (cS (hbW Z (by omega)) (cS hW (cS ((hoW (Z+1+1+1) (by omega)).trans HA8.out.x3) (cS hsW hoW))));refine hK _ _ (fun o=>(cU ((hoW g hg2).trans HAT.out) o)) ?_
   clear hK K hW hbW hsW hoW
   (try simp only[Act.put,ae,af,ag])
   refine di rfl rfl (by rfl) (fun K hK=>?_)
   refine eh 64 _ _ rfl (Z+1+1+1) #[.bool true,.int .i64 (nextS ts),.slice ma mn mc,.slice da dn dc,.slice none 0 0] #[.bool false,.int .i64 0,.slice none 0 0,.slice none 0 0,.slice none 0 0] 64 rfl rfl HF1.out.2.2.1 rfl (by kernel_rfl) (by simp[Value.oneCell']) ?_
   intro wG hW hbW hsW hoW;have HF2:=aa (cS (HF1.out.1.trans (hbW Z (by omega))) (cS ((hoW (Z+1+1) (by omega)).trans HF1.out.2.1) (cS hW (cS (fun q (h1:q≠Z+1+1) (h2:q≠Z+1+1+1)=>(hoW q h2).trans (HF1.out.2.2.2.2 q h1)) (show w8.heap.size≤wG.heap.size by have h1:=HF1.out.2.2.2.1;simp at h1;omega)))));refine hK _ _ ?_
   clear hK K hW hbW hsW hoW
   (try simp only[Act.put,ae,af,ag])
   (iterate 1 (first | (refine cX rfl (by decide) (by rfl) (fun w1 hS=>by(try(obtain⟨_,_⟩:=bcell (hS rfl)));go_simp;rfl) ?_;simp only[Act.put,ae,af,ag]) | (refine dm rfl (by decide) (by rfl) ?_;simp only[Act.put,ae,af,ag])))
   refine du ?_
   have cF1:=fun o=>cU HF2.out.2.1 o
   have cF2:=fun o=>cU HF2.out.2.2.1 o
   have zF1:Z+1+1<wG.heap.size:=by have:=HF2.out.2.2.2.2;omega
   have zF2:Z+1+1+1<wG.heap.size:=by have:=HF2.out.2.2.2.2;omega
   go_wp2
   refine bodyPost_ret (v:=.tuple #[.agg #[.slice aq qs.length cq,.slice ca cs.length cc,.slice none 0 0,.slice ta tn tc],.agg #[.bool true,.int .i64 (nextS ts),.slice ma mn mc,.slice da dn dc,.slice none 0 0],.int .i64 0]) (by simp[results,Tryz.results16,go_sem,cF1,cF2,zF1,zF2]) rfl ?_
   unfold AccPostX;rw[HZ.out];exact⟨⟨_,_,_,rfl,⟨_,_,_,_,_,_,_,_,_,_,_,rfl⟩,⟨_,_,_,_,_,_,_,_,_,_,_,_,rfl⟩,fun _=>⟨_,ts',rfl,HRT.out.1.keep2 HF2.out.2.2.2.2 HF2.out.2.2.2.1 HA8.out.x2 HA8.out.x3,HRT.out.2⟩,fun _ _ h=>absurd HPR.out h⟩,(bdrew HA8.out.b).trans HF2.out.1⟩
  case' false=>
   clear hd8;go_upto_region 17 with fail
 case' neg=>
  have d5:(q.pr==2)=false:=by rw[beq_eq_false_iff_ne];exact hpr
  clear hpr;go_upto_region 17 with fail
  obtain⟨w8,hw8⟩:∃q,q=w7:=⟨_,rfl⟩
  have z8:w7.heap.size≤w8.heap.size:=by rw[hw8];exact aj _
  have HA8:=HA7;have HXT8:=HXT7;have HOB8:=HOB7;have HOH8:=HOH7;have HRP8:=HRP;rw[←hw8]at HA8 HXT8 HOB8 HOH8 HRP8 ⊢;clear d5 hw8 k0 k1 kT HA7 HXT7 HOB7 HOH7 zz7 zq7 zr7
 all_goals
  by_cases her:er=0
  case neg=>
   have d1:(er==0)=false:=by rw[beq_eq_false_iff_ne];exact her
   have d2:(er != 0)=true:=by rw[bne_iff_ne];exact her
   have hsz:0≤q.sz:=by have:=HRQ.out.2.2.1;omega
   have k0:=fun q_=>cU HA8.out.x0 q_
   have k1:=fun q_=>cU HA8.out.x1 q_
   have zz8:Z+1+1+1<w8.heap.size:=HA8.out.lt;have zq8:Z<w8.heap.size:=by omega
   have zr8:Z+1<w8.heap.size:=by omega
   have kT:=fun q_=>cU HXT8.out q_
   have zT8:T<w8.heap.size:=by omega
   have hbm:=qq qs cs B H q.src q.dst q.sz.toNat q.rd q.D q.pr q.cu (.slice aq qs.length cq) (.slice ca cs.length cc) (.slice ba_ B.length bc) (.slice ha_ H.length hc_) w8 (HQ.out.below HA8.out.b (aj _) (by omega)) (HC.out.below HA8.out.b (aj _) (by omega)) (dF (by decide) dL HOB8.out) (dF (by decide) dO HOH8.out) HL.out.pl HPM.out.2.2.1 HPM.out.2.2.2 (by rw[Int.toNat_of_nonneg hsz];exact HRQ.out);rw[Int.toNat_of_nonneg hsz]at hbm;have HBM:=aa hbm;have HER:=aa her;clear her hsz hbm;go_wp2_with fail
   refine HBM.out.mono ?_
   unfold SlPost;rintro e w9 ⟨⟨bra,brn,brc,er2,rfl⟩,hb9⟩;have HA9:=aa (HA8.out.next hb9);clear hb9 k0 k1 kT d1 d2 zz8 zq8 zr8;have k0:=fun q_=>cU HA9.out.x0 q_
   have k1:=fun q_=>cU HA9.out.x1 q_
   have zz9:Z+1+1+1<w9.heap.size:=HA9.out.lt;have zq9:Z<w9.heap.size:=by omega
   have zr9:Z+1<w9.heap.size:=by omega
   have zz:Z+1+1+1<w9.heap.size:=HA9.out.lt;have HRB:=aa (cS HA9.out.x2 HA9.out.x3);go_wp2_with (first | (refine dv rfl 36 _ _ rfl (Z+1+1) #[.slice aq qs.length cq,.slice ca cs.length cc,.slice none 0 0,.slice pa pn pc] _ 36 rfl rfl HRB.out.1 rfl (by kernel_rfl) (by simp[Value.oneCell']) ?_;intro wF hW hbW hsW hoW;have HF1:=aa (cS (hbW Z (by omega)) (cS hW (cS ((hoW _ (by omega)).trans HRB.out.2) (cS hsW hoW))));clear hW hbW hsW hoW) | (refine dv rfl 64 _ _ rfl (Z+1+1+1) #[.bool false,.int .i64 0,.slice none 0 0,.slice none 0 0,.slice bra brn brc] _ 64 rfl rfl HF1.out.2.2.1 rfl (by kernel_rfl) (by simp[Value.oneCell']) ?_;intro wG hW hbW hsW hoW;have HF2:=aa (cS (HF1.out.1.trans (hbW Z (by omega))) (cS ((hoW _ (by omega)).trans HF1.out.2.1) (cS hW (cS (fun q (h1:q≠Z+1+1) (h2:q≠Z+1+1+1)=>(hoW q h2).trans (HF1.out.2.2.2.2 q h1)) (hsW.trans HF1.out.2.2.2.1)))));have cF1:=fun o=>cU HF2.out.2.1 o;have cF2:=fun o=>cU HF2.out.2.2.1 o;have zF1:Z+1+1<wG.heap.size:=(ai.1 HF2.out.2.1).1;have zF2:Z+1+1+1<wG.heap.size:=(ai.1 HF2.out.2.2.1).1;clear hW hbW hsW hoW))
   refine bodyPost_ret (v:=.tuple #[.agg #[.slice aq qs.length cq,.slice ca cs.length cc,.slice none 0 0,.slice pa pn pc],.agg #[.bool false,.int .i64 0,.slice none 0 0,.slice none 0 0,.slice bra brn brc],.int .i64 0]) (by simp[results,Tryz.results16,go_sem,cF1,cF2,zF1,zF2]) rfl ?_
   unfold AccPostX;rw[HZ.out];refine⟨⟨_,_,_,rfl,⟨_,_,_,_,_,_,_,_,_,_,_,rfl⟩,⟨_,_,_,_,_,_,_,_,_,_,_,_,rfl⟩,fun he0=>?_,?_⟩,HA9.out.b.trans HF2.out.1⟩
   ·exact⟨_,ts,rfl,HT.out.below' (by rw[HZ.out];exact HA9.out.b.trans HF2.out.1),HL.out⟩
   ·exact acx_bad HPM.out.1 HPM.out.2.1 HEX.out HER.out
  subst her;have hE:=HEP.out rfl;have HE:=aa hE;clear hE;have k0:=fun q_=>cU HA8.out.x0 q_
  have k1:=fun q_=>cU HA8.out.x1 q_
  have zz8:Z+1+1+1<w8.heap.size:=HA8.out.lt;have zq8:Z<w8.heap.size:=by omega
  have zr8:Z+1<w8.heap.size:=by omega
  go_wp2_with fail
  refine(mQ ts (.slice aq qs.length cq) (.slice ca cs.length cc) (.slice none 0 0) (.slice pa pn pc) w8 ⟨_,_,_,rfl⟩ ⟨_,_,_,rfl⟩ ⟨_,_,_,rfl⟩ (HT.out.below' (by rw[HZ.out];exact HA8.out.b)) (by have:=HCR.out.1;omega)).mono ?_
  rintro e w9 ⟨⟨u9,rfl,hot9⟩,hb9⟩;obtain⟨ps9,hps9,hown9,-⟩:=id hot9;obtain⟨pa9,pc9,hue9⟩:=dg hown9;subst hue9;obtain⟨pn9,hpn9⟩:=cR ps9.length
  rw[hpn9]at hot9 ⊢;have HA9:=aa (HA8.out.next hb9);have HRP9:=aa (RRow.below' HRP8.out hb9);have z9:w8.heap.size≤w9.heap.size:=hb9.size;clear hb9 k0 k1 zz8 zq8 zr8 hps9 hown9 hpn9;go_upto_region 21 with fail
  obtain⟨b,hb⟩:=cR w9.heap.size
  obtain⟨w10,hw10⟩:=cR (w9.alloc (.cells #[.slice aq qs.length cq,.slice ca cs.length cc,.slice none 0 0,.slice pa9 pn9 pc9] 105))
  rw[hw10,hb];have b10:Below w9.heap.size w9 w10:=by rw[←hw10];exact de (ap _ _)
  have XB10:w10.heap[b]? =some (.cells #[.slice aq qs.length cq,.slice ca cs.length cc,.slice none 0 0,.slice pa9 pn9 pc9] 105 (0,0)):=by rw[←hw10,←hb];exact cW
  have HA10:=aa (HA9.out.next b10);have HO10:Hid (OwnT w10 w8.heap.size [b] (.slice pa9 pn9 pc9) ts):=aa (hot9.more b10 (by omega));have HXB10:=aa XB10;have z10:w9.heap.size≤w10.heap.size:=b10.size;have zb10:b<w10.heap.size:=(ai.1 XB10).1;have hb8:w8.heap.size≤b:=by omega
  have k910:=aa b10;clear hw10 b10 XB10 hot9 hb HA9;go_wp2_with fail
  obtain⟨no,hnx⟩:=cR (nextS ts)
  have HNX:=aa hnx;obtain⟨nx1,nx2,nx3⟩:=o6 HL.out.num (fun t ht=>(HL.out.tk t ht).n0) HCR.out.2;rw[hnx]at nx1 nx2 nx3;clear hnx;refine(mR ts b 105 #[.slice aq qs.length cq,.slice ca cs.length cc,.slice none 0 0,.slice pa9 pn9 pc9] (.slice pa9 pn9 pc9) w10 HXB10.out rfl HO10.out.rtks (fun t ht=>by
   have h1:=(HL.out.tk t (List.mem_of_getLast? ht)).n0;have h2:=(HL.out.tk t (List.mem_of_getLast? ht)).n1;omega)).mono ?_
  rw[HNX.out];rintro e w11 ⟨rfl,hb11⟩;have HA11:=aa (HA10.out.next hb11);have HO11:=aa (HO10.out.below hb11);have HXB11:=aa ((hb11.block _ zb10).trans HXB10.out);have z11:w10.heap.size≤w11.heap.size:=hb11.size;have HNEW:=aa nx3;have k911:Hid (Below w9.heap.size w9 w11):=aa (k910.out.trans (hb11.mono (by omega)));clear hb11 HA10 HO10 HXB10 zb10 nx3;have k0:=fun q_=>cU HA11.out.x0 q_
  have k1:=fun q_=>cU HA11.out.x1 q_
  have zz11:Z+1+1+1<w11.heap.size:=HA11.out.lt;have zq11:Z<w11.heap.size:=by omega
  have zr11:Z+1<w11.heap.size:=by omega
  have HRP11:Hid (RHops w11 (.slice va hsP.length vc) hsP):=aa (RRow.below HRP9.out (w':=w11) (k911.out) (aj _) (by omega));have hsep:(newT no q hsP).hs≠[]→(∀x,(Value.slice pa9 pn9 pc9).ownBlock=some x→(Value.slice va hsP.length vc).ownBlock≠some x)∧∀x∈[b],(Value.slice va hsP.length vc).ownBlock≠some x:=fun hne=>by
   have hlow:∀x,(Value.slice va hsP.length vc).ownBlock=some x→x<w8.heap.size:=fun x hx=>RRow.blk HRP8.out hne hx
   obtain⟨_,-,ho,-⟩:=HO11.out;refine⟨fun x hx e=>?_,fun x hx e=>?_⟩
   ·have:=(ho.lt x hx).1;have:=hlow x e;omega
   ·have:=hlow x e;rw[aH.1 hx]at this;omega
  have HSEP:=aa hsep;clear hsep;have hl64:ts.length≤64:=by have:=HCR.out.1;omega
  have h811:w8.heap.size≤w11.heap.size:=by omega
  have hut9:∀x,(Value.slice pa9 pn9 pc9).ownBlock=some x→w8.heap.size≤x:=fun x hx=>by
   obtain⟨_,-,ho,-⟩:=HO11.out;exact(ho.lt x hx).1
  have HUT:=aa hut9;clear hut9;go_wp2_with fail
  refine(iJ ts (newT no q hsP) (.slice va hsP.length vc) w8.heap.size b [] 105 #[.slice aq qs.length cq,.slice ca cs.length cc,.slice none 0 0,.slice pa9 pn9 pc9] (.slice pa9 pn9 pc9) w11 HXB11.out (by decide) rfl HO11.out h811 HRP11.out HSEP.out hl64).mono ?_
  unfold SetPost;rintro e w12 ⟨rfl,⟨ut12,hxb12,hot12,-⟩,hk12⟩;have zz8:=HA8.out.lt;have HA12:=aa (HA11.out.nextN (hk12.below hb8 (fun x hx=>HUT.out x hx) h811) zz8);have z12:w11.heap.size≤w12.heap.size:=hk12.size;have hset:setS ts (newT no q hsP)=ts++[newT no q hsP]:=iI (fun x hx=>by have:=HNEW.out x hx;show x.no≠no;omega);rw[hset]at hot12;obtain⟨ps12,hps12,hown12,-⟩:=id hot12;obtain⟨pa12,pc12,hue12⟩:=dg hown12;subst hue12;obtain⟨pn12,hpn12⟩:=cR ps12.length
  rw[hpn12]at hot12 hxb12;have HO12:=aa hot12;have HXB12:Hid (w12.heap[b]? =some (.cells #[.slice aq qs.length cq,.slice ca cs.length cc,.slice none 0 0,.slice pa12 pn12 pc12] 105 (0,0))):=aa hxb12;have zb12:b<w12.heap.size:=(ai.1 hxb12).1;clear hk12 hset hps12 hown12 hpn12 hot12 hxb12 k0 k1 zz11 zq11 zr11 HA11 HO11 HXB11 HRP11 HSEP HUT;have HXI:Hid (XInv qs cs 0 (ts++[newT no q hsP]) []):=aa (XInv.begin (now:=0) (W:=[]) (V:=[]) HL.out HE.out (by rw[eE (fun b _=>kp_nil 0 b)];exact HPM.out.1) HPM.out.2.1 HCR.out.1 nx1 nx2 HNEW.out List.nodup_nil (fun v hv=>by cases hv) (fun t _ ht=>by cases ht));have kb:=fun q_=>cU HXB12.out q_
  have k0:=fun q_=>cU HA12.out.x0 q_
  have k1:=fun q_=>cU HA12.out.x1 q_
  have zz12:Z+1+1+1<w12.heap.size:=HA12.out.lt;have zq12:Z<w12.heap.size:=by omega
  have zr12:Z+1<w12.heap.size:=by omega
  go_wp2_with fail
  refine(fq qs cs (ts++[newT no q hsP]) (.slice aq qs.length cq) (.slice ca cs.length cc) (.slice pa12 pn12 pc12) w12 ⟨_,_,_,rfl⟩ (HC.out.below HA12.out.b (aj _) (by omega)) HL.out.pl HO12.out.rtks (fun t ht=>HXI.out.wok HL.out.pl ht) HXI.out.len (fun t ht=>by have:=iP (no:=no) (q:=q) (fun t ht=>HL.out.hops ht) hlP t ht;omega)).mono ?_
  unfold TabPost;rintro e w13 ⟨⟨vb13,vh13,B13,H13,rfl,hB1,-,hH1,-,hto⟩,hb13⟩;have HA13:=aa (HA12.out.next hb13);have HRT13:=aa (HO12.out.rtks.below' hb13);have HXB13:=aa ((hb13.block _ zb12).trans HXB12.out);have z13:w12.heap.size≤w13.heap.size:=hb13.size;have zb13:b<w13.heap.size:=by omega
  have HPM13:=aa (cS hB1 hH1);obtain⟨bb13,bc13,hbe13⟩:=dg hto.b;subst hbe13;obtain⟨hb13_,hc13,hhe13⟩:=dg hto.h;subst hhe13;have e1:B13.length≤9000000000000000000:=by have:=iQ (iP (no:=no) (q:=q) (fun t ht=>HL.out.hops ht) hlP);have h2:=HXI.out.len;rw[hB1.length_eq];omega
  have e2:H13.length≤9000000000000000000:=by have:=iR (cs:=cs) (iP (no:=no) (q:=q) (fun t ht=>HL.out.hops ht) hlP);have h2:=HXI.out.len;rw[hH1.length_eq];omega
  clear hb13 hB1 hH1 hto kb k0 k1 HA12 HO12 HXB12 zb12 zz12 zq12 zr12;go_wp2_with fail
  refine(mN B13.length H13.length (.slice aq qs.length cq) (.slice ca cs.length cc) bb13 hb13_ bc13 hc13 w13 ⟨_,_,_,rfl⟩ ⟨_,_,_,rfl⟩ e1 e2).mono ?_
  rintro e w14 ⟨rfl,hb14⟩;have HA14:=aa (HA13.out.next hb14);have HRT14:=aa (HRT13.out.below' hb14);have HXB14:=aa ((hb14.block _ zb13).trans HXB13.out);have z14:w13.heap.size≤w14.heap.size:=hb14.size;have zb14:b<w14.heap.size:=by omega
  clear hb14 HA13 HRT13 HXB13 zb13 e1 e2;by_cases hfl:B13.length≤512∧H13.length≤512
  case neg=>
   have df:decide (¬(B13.length≤512∧H13.length≤512))=true:=decide_eq_true hfl;rw[df];have HFL:=aa hfl;clear hfl df;go_wp2_with fail
   refine(kV 4 w14).mono ?_
   rintro e w15 ⟨rfl,hb15⟩;have HA15:=aa (HA14.out.next hb15);clear hb15;have zz:Z+1+1+1<w15.heap.size:=HA15.out.lt;have HRB:=aa (cS HA15.out.x2 HA15.out.x3);go_wp2_with (first | (refine dv rfl 36 _ _ rfl (Z+1+1) #[.slice none 0 0,.slice none 0 0,.slice none 0 0,.slice none 0 0] _ 36 rfl rfl HRB.out.1 rfl (by kernel_rfl) (by simp[Value.oneCell']) ?_;intro wF hW hbW hsW hoW;have HF1:=aa (cS (hbW Z (by omega)) (cS hW (cS ((hoW _ (by omega)).trans HRB.out.2) (cS hsW hoW))));clear hW hbW hsW hoW) | (refine dv rfl 64 _ _ rfl (Z+1+1+1) #[.bool false,.int .i64 0,.slice none 0 0,.slice none 0 0,.slice none 0 0] _ 64 rfl rfl HF1.out.2.2.1 rfl (by kernel_rfl) (by simp[Value.oneCell']) ?_;intro wG hW hbW hsW hoW;have HF2:=aa (cS (HF1.out.1.trans (hbW Z (by omega))) (cS ((hoW _ (by omega)).trans HF1.out.2.1) (cS hW (cS (fun q (h1:q≠Z+1+1) (h2:q≠Z+1+1+1)=>(hoW q h2).trans (HF1.out.2.2.2.2 q h1)) (hsW.trans HF1.out.2.2.2.1)))));have cF1:=fun o=>cU HF2.out.2.1 o;have cF2:=fun o=>cU HF2.out.2.2.1 o;have zF1:Z+1+1<wG.heap.size:=(ai.1 HF2.out.2.1).1;have zF2:Z+1+1+1<wG.heap.size:=(ai.1 HF2.out.2.2.1).1;clear hW hbW hsW hoW))
   refine bodyPost_ret (v:=.tuple #[.agg #[.slice none 0 0,.slice none 0 0,.slice none 0 0,.slice none 0 0],.agg #[.bool false,.int .i64 0,.slice none 0 0,.slice none 0 0,.slice none 0 0],.int .i64 4]) (by simp[results,Tryz.results16,go_sem,cF1,cF2,zF1,zF2]) rfl ?_
   unfold AccPostX;rw[HZ.out];refine⟨⟨_,_,_,rfl,⟨_,_,_,_,_,_,_,_,_,_,_,rfl⟩,⟨_,_,_,_,_,_,_,_,_,_,_,_,rfl⟩,fun he0=>?_,?_⟩,HA15.out.b.trans HF2.out.1⟩
   ·exact absurd he0 (by omega)
   ·exact acx_full HPM.out.1 HPM.out.2.1 (by have h:=HEX.out;rw[←HSE.out (by trivial)]at h;exact h) HPM13.out.1 HPM13.out.2 HFL.out
  have df:decide (¬(B13.length≤512∧H13.length≤512))=false:=decide_eq_false (fun h=>h hfl);have HLD:Hid (LedOK qs cs (ts++[newT no q hsP])):=aa (HXI.out.fin HL.out.pl (by rw[←HPM13.out.1.length_eq];exact hfl.1) (by rw[←HPM13.out.2.length_eq];exact hfl.2));rw[df];clear hfl df;have kb:=fun q_=>cU HXB14.out q_
  have zz:Z+1+1+1<w14.heap.size:=HA14.out.lt;have HRB:=aa (cS HA14.out.x2 HA14.out.x3);go_wp2_with (first | (refine dv rfl 36 _ _ rfl (Z+1+1) #[.slice aq qs.length cq,.slice ca cs.length cc,.slice none 0 0,.slice pa12 pn12 pc12] _ 36 rfl rfl HRB.out.1 rfl (by kernel_rfl) (by simp[Value.oneCell']) ?_;intro wF hW hbW hsW hoW;have HF1:=aa (cS (hbW Z (by omega)) (cS hW (cS ((hoW _ (by omega)).trans HRB.out.2) (cS hsW hoW))));clear hW hbW hsW hoW) | (refine dv rfl 64 _ _ rfl (Z+1+1+1) #[.bool true,.int .i64 no,.slice none 0 0,.slice none 0 0,.slice none 0 0] _ 64 rfl rfl HF1.out.2.2.1 rfl (by kernel_rfl) (by simp[Value.oneCell']) ?_;intro wG hW hbW hsW hoW;have HF2:=aa (cS (HF1.out.1.trans (hbW Z (by omega))) (cS ((hoW _ (by omega)).trans HF1.out.2.1) (cS hW (cS (fun q (h1:q≠Z+1+1) (h2:q≠Z+1+1+1)=>(hoW q h2).trans (HF1.out.2.2.2.2 q h1)) (hsW.trans HF1.out.2.2.2.1)))));have cF1:=fun o=>cU HF2.out.2.1 o;have cF2:=fun o=>cU HF2.out.2.2.1 o;have zF1:Z+1+1<wG.heap.size:=(ai.1 HF2.out.2.1).1;have zF2:Z+1+1+1<wG.heap.size:=(ai.1 HF2.out.2.2.1).1;clear hW hbW hsW hoW))
  refine bodyPost_ret (v:=.tuple #[.agg #[.slice aq qs.length cq,.slice ca cs.length cc,.slice none 0 0,.slice pa12 pn12 pc12],.agg #[.bool true,.int .i64 no,.slice none 0 0,.slice none 0 0,.slice none 0 0],.int .i64 0]) (by simp[results,Tryz.results16,go_sem,cF1,cF2,zF1,zF2]) rfl ?_
  unfold AccPostX;rw[HZ.out];refine⟨⟨_,_,_,rfl,⟨_,_,_,_,_,_,_,_,_,_,_,rfl⟩,⟨_,_,_,_,_,_,_,_,_,_,_,_,rfl⟩,fun he0=>?_,?_⟩,HA14.out.b.trans HF2.out.1⟩
  ·exact⟨_,_,rfl,HRT14.out.keep2 (Nat.le_of_eq HF2.out.2.2.2.2.symm) HF2.out.2.2.2.1 HA14.out.x2 HA14.out.x3,HLD.out⟩
  ·exact acx_ok HPM.out.1 HPM.out.2.1 (by have h:=HEX.out;rw[←HSE.out (by trivial)]at h;exact h) HNX.out HE.out (HRT14.out.keep2 (Nat.le_of_eq HF2.out.2.2.2.2.symm) HF2.out.2.2.2.1 HA14.out.x2 HA14.out.x3)
theorem oC (qs:List Int) (cs:List Con) (ts:List Tk) (q:Rq) (uq uc ut:Value) (w:World) (hq:RRow intC 1 w w.heap.size uq qs) (hc:RRow conC 7 w w.heap.size uc cs) (ht:RTks w ut ts) (hL:LedOK qs cs ts):
  Calls Tryz.prog 16 #[.agg #[uq,uc,.slice none 0 0,ut],.agg #[.int .i64 q.src,.int .i64 q.dst,.int .i64 q.sz,.int .i64 q.rd,.int .i64 q.D,.int .i64 q.pr,.bool q.cu],.int .i64 q.rd] w (AccPost qs cs uq uc w):=
 (nN qs cs ts q uq uc ut w hq hc ht hL).mono fun e w' ⟨⟨L,V,er,he,h1,h2,h3,_⟩,hB⟩=>⟨⟨L,V,er,he,h1,h2,h3⟩,hB⟩
end
end Go.Proofs.YtfnciigbbolckaaGreat
