/- Part 45 of the proof about mailboattop.TopOthers: the theorem, it returns true for every input. No condition. -/
import Derived.Test.YtfnciigbbolckaaGreatQ00
import Derived.Test.YtfnciigbbolckaaGreatQ01
import Derived.Test.YtfnciigbbolckaaGreatQ19
import Derived.Test.YtfnciigbbolckaaGreatQ25
import Derived.Test.YtfnciigbbolckaaGreatQ35
import Derived.Test.YtfnciigbbolckaaGreatQ42
import Derived.Test.YtfnciigbbolckaaGreatQ43
import Derived.Test.YtfnciigbbolckaaGreatQ44
set_option linter.unusedVariables false
set_option linter.unusedSimpArgs false
set_option maxRecDepth 100000
set_option maxHeartbeats 64000000
namespace Go.Proofs.YtfnciigbbolckaaGreat
open Go Go.RowKit Iv
attribute [local go_sem] Oper.semAt_some
attribute [local go_sem] pw gu B_app pv B_get B_toList
section
theorem rr_lit {α:Type} {enc:α→List Value} {k:Nat} {w:World} {g:Nat} {T:TypeId} {cs:Array Value} {l:List α} (hg:w.heap[g]? =some (.cells cs T (0,0))) (hc:cs.toList=l.flatMap enc) (hk:∀x,(enc x).length=k) (h0:0<k) (hl:l.length≤1000):RRow enc k w w.heap.size (.slice (some ⟨g,0,none⟩) l.length l.length) l:=
 dF (base:=0) (T:=T) h0 hk (by
  have h1:=mi (s:=k) (base:=0) l.length (aE g) hg (by have:=congrArg List.length hc;rw[ef enc k hk l]at this;simpa using this) hl;rw[hc]at h1;exact h1)
theorem nQ (w:World):
  Calls Tryz.prog 15 #[] w fun e w'=>(∃uq uc,e= .returned (.agg #[uq,uc])∧RRow intC 1 w' w'.heap.size uq exQ∧RRow conC 7 w' w'.heap.size uc exC)∧Below w.heap.size w w':=by
 go_enter Tryz.func15,Tryz.ntmps15
 go_wp2
 obtain⟨Z,hZ⟩:=cR w.heap.size
 obtain⟨w1,hw1⟩:=cR (((w.alloc (.cells #[.slice (some ⟨w.heap.size+1,0,none⟩) 3 3,.slice (some ⟨w.heap.size+1+1,0,none⟩) 2 2] 25)).alloc (.cells #[.int .i64 100,.int .i64 100,.int .i64 100] 3)).alloc (.cells #[.int .i64 0,.int .i64 1,.int .i64 10,.int .i64 60,.int .i64 4,.int .i64 5,.int .i64 0,.int .i64 1,.int .i64 2,.int .i64 50,.int .i64 100,.int .i64 4,.int .i64 5,.int .i64 0] 95))
 rw[hw1,hZ];have B1:Below Z w w1:=by rw[←hw1,←hZ];exact cZ
 have X0:w1.heap[Z]? =some (.cells #[.slice (some ⟨Z+1,0,none⟩) 3 3,.slice (some ⟨Z+1+1,0,none⟩) 2 2] 25 (0,0)):=by rw[←hw1,←hZ];exact(ak _ _ _ (by simp;omega)).trans ((ak _ _ _ (by simp)).trans cW)
 have X1:w1.heap[Z+1]? =some (.cells #[.int .i64 100,.int .i64 100,.int .i64 100] 3 (0,0)):=by rw[←hw1,←hZ];exact(ak _ _ _ (by simp)).trans (cY (by simp))
 have X2:w1.heap[Z+1+1]? =some (.cells #[.int .i64 0,.int .i64 1,.int .i64 10,.int .i64 60,.int .i64 4,.int .i64 5,.int .i64 0,.int .i64 1,.int .i64 2,.int .i64 50,.int .i64 100,.int .i64 4,.int .i64 5,.int .i64 0] 95 (0,0)):=by rw[←hw1,←hZ];exact cY (by simp)
 have c0:=fun q_=>cU X0 q_
 have z1:Z+1<w1.heap.size:=(ai.1 X1).1;have z0:Z<w1.heap.size:=by omega
 refine bodyPost_ret (v:=.agg #[.slice (some ⟨Z+1,0,none⟩) 3 3,.slice (some ⟨Z+1+1,0,none⟩) 2 2]) (by simp[results,Tryz.results15,go_sem,c0,z0]) rfl ?_
 refine⟨⟨_,_,rfl,rr_lit (l:=exQ) X1 rfl (fun _=>rfl) (by decide) (by decide),rr_lit (l:=exC) X2 rfl mo (by decide) (by decide)⟩,?_⟩
 exact B1
theorem iY (w:World):Calls Tryz.prog 5 #[] w fun e w'=>e= .returned (.bool true)∧Below w.heap.size w w':=by
 go_enter Tryz.func5,Tryz.ntmps5
 go_wp2_with fail
 refine(nQ w).mono ?_
 rintro e w1 ⟨⟨uq,uc,rfl,hq,hc⟩,hb1⟩;have HQ:=aa hq;have HC:=aa hc;obtain⟨aq,cq,rfl,-⟩:=hq;obtain⟨ca,cc,rfl,-⟩:=hc;have HB1:=aa hb1;clear hb1;go_wp2_with fail
 refine(new_x exQ exC _ _ w1 HQ.out HC.out).mono ?_
 unfold NewPostX;rintro e w2 ⟨⟨er,⟨-,h,-⟩ | ⟨rfl,-,rfl⟩⟩,hb2⟩
 ·exact absurd mj h
 have HB2:Hid (Below w.heap.size w w2):=aa (HB1.out.trans (hb2.mono HB1.out.size));have HQ2:=aa (HQ.out.below' hb2);have HC2:=aa (HC.out.below' hb2);clear hb2 HQ HC HB1;go_upto_region 2 with fail
 obtain⟨A,hA⟩:=cR w2.heap.size
 obtain⟨w3,hw3⟩:=cR (w2.alloc (.cells #[.slice aq exQ.length cq,.slice ca exC.length cc,.slice none 0 0,.slice none 0 0] 36))
 rw[hw3,hA];have b3:Below w2.heap.size w2 w3:=by rw[←hw3];exact de (ap _ _)
 have X3:w3.heap[A]? =some (.cells #[.slice aq exQ.length cq,.slice ca exC.length cc,.slice none 0 0,.slice none 0 0] 36 (0,0)):=by rw[←hw3,←hA];exact cW
 have HB3:Hid (Below w.heap.size w w3):=aa (HB2.out.trans (b3.mono HB2.out.size));have HQ3:=aa (HQ2.out.below' b3);have HC3:=aa (HC2.out.below' b3);have kA:=fun q_=>cU X3 q_
 have zA:A<w3.heap.size:=(ai.1 X3).1;clear hw3 b3 X3 hA HQ2 HC2 HB2;go_wp2_with fail
 refine(nN exQ exC [] exR (.slice aq exQ.length cq) (.slice ca exC.length cc) (.slice none 0 0) w3 HQ3.out HC3.out ⟨[],rfl,RRow.nil _ _ _ _,fun p hp=>by cases hp⟩ (LedOK.nil mj)).mono ?_
 unfold AccPostX;rintro e w4 ⟨⟨L,V,er,rfl,⟨vb,vn,s1,n1,c1,s2,n2,c2,s3,n3,c3,hV⟩,-,-,hX⟩,hb4⟩;obtain⟨R,l,h1,h2,h3⟩:=hX rfl ex_req (by decide);have hR:=ex_rooms ((LedOK.nil mj).hset (H:=[]) (by simp[allH]) List.Pairwise.nil) h1;subst hR;obtain⟨a1,a2⟩:=ex_arr (D:=l) h2;obtain⟨rfl,⟨ut,hs,rfl,hrt,hE,hlast⟩,v2,v3,v4,hV2⟩:=h3 a1 (by decide);obtain⟨x,y,rfl,hy⟩:=ex_way hE hlast a2;have hV3:=hV2.symm.trans hV;simp only[Array.mk.injEq,List.cons.injEq,Value.bool.injEq,Value.int.injEq,true_and,and_true]at hV3;obtain⟨rfl,rfl,-⟩:=hV3;subst hV;obtain⟨ps,hps,hrow,hhr⟩:=hrt;obtain⟨⟨t,u⟩,rfl⟩:∃p,ps=[p]:=by
  match ps,hps with
  | [p],_=>exact⟨p,rfl⟩
  | [],h=>cases h
  | _::_::_,h=>simp at h
 have ht:t=newT 1 exR [x,y]:=(List.cons.inj hps).1.symm;subst ht;have hru:RHops w4 u [x,y]:=hhr (newT 1 exR [x,y],u) (by simp);obtain⟨ta,tc,rfl,t1,t2,-,t4⟩:=hrow;obtain⟨tb,to_,rfl,htb,htc⟩:=t4 (by simp);obtain⟨ha,hc_,rfl,r1,r2,-,r4⟩:=hru;obtain⟨rb,ro,rfl,hrb,hrc⟩:=r4 (by simp);have g8:w4.cell? ⟨tb,to_+8,none⟩=some (.slice (some ⟨rb,ro,none⟩) [x,y].length hc_):=htc 0 _ rfl 8 _ rfl;have g7:w4.cell? ⟨rb,ro+4+3,none⟩=some (.int .i64 y.ar):=hrc 1 y rfl 3 _ rfl;rw[hy]at g7;have HG:=aa (cS g8 g7);have HB4:Hid (Below w.heap.size w w4):=aa (HB3.out.trans (hb4.mono HB3.out.size));have l1:([(newT 1 exR [x,y],Value.slice (some ⟨rb,ro,none⟩) [x,y].length hc_)]:List (Tk×Value)).length=1:=rfl;have l2:[x,y].length=2:=rfl;clear hb4 kA zA h1 h2 h3 hX a1 a2 hE hlast hV2 hps hhr htc hrc g8 g7 t4 r4 r1 r2 t1 t2 HQ3 HC3 HB3 hy;rw[l1];rw[l2]at HG;clear l1 l2;go_upto_region 3 with fail
 obtain⟨Z,hZ⟩:=cR w4.heap.size
 obtain⟨w5,hw5⟩:=cR ((w4.alloc (.cells #[.slice aq exQ.length cq,.slice ca exC.length cc,.slice none 0 0,.slice (some ⟨tb,to_,none⟩) 1 tc] 36)).alloc (.cells #[.bool true,.int .i64 1,.slice s1 n1 c1,.slice s2 n2 c2,.slice s3 n3 c3] 64))
 rw[hw5,hZ];have b5:Below w4.heap.size w4 w5:=by rw[←hw5];exact de (de (ap _ _))
 have X5:w5.heap[Z]? =some (.cells #[.slice aq exQ.length cq,.slice ca exC.length cc,.slice none 0 0,.slice (some ⟨tb,to_,none⟩) 1 tc] 36 (0,0)):=by rw[←hw5,←hZ];exact(ak _ _ _ (by simp)).trans cW
 have Y5:w5.heap[Z+1]? =some (.cells #[.bool true,.int .i64 1,.slice s1 n1 c1,.slice s2 n2 c2,.slice s3 n3 c3] 64 (0,0)):=by rw[←hw5];exact cY (by simp[hZ])
 have HB5:Hid (Below w.heap.size w w5):=aa (HB4.out.trans (b5.mono HB4.out.size));have z1:Z+1<w5.heap.size:=(ai.1 Y5).1;have z0:Z<w5.heap.size:=by omega
 have kX:=fun q_=>cU X5 q_
 have kY:=fun q_=>cU Y5 q_
 have g8:w5.cell? ⟨tb,to_+8,none⟩=some (.slice (some ⟨rb,ro,none⟩) 2 hc_):=(b5.cell (p:=⟨tb,to_+8,none⟩) htb).trans HG.out.1;have g7:w5.cell? ⟨rb,ro+4+3,none⟩=some (.int .i64 64):=(b5.cell (p:=⟨rb,ro+4+3,none⟩) hrb).trans HG.out.2;have g7':w5.cell? ⟨rb,ro+7,none⟩=some (.int .i64 64):=g7;have zt:tb<w5.heap.size:=by omega
 have zr:rb<w5.heap.size:=by omega
 clear hw5 b5 X5 Y5 hZ HB4 HG;go_wp2
 go_ret
 exact⟨rfl,HB5.out⟩
end
section
theorem walk (qs:List Int) (cs:List Con) (l:List Rq) (uq uc ul:Value) (at_:Int) (w:World) (ha:0≤at_∧at_≤255) (hq:RRow intC 1 w w.heap.size uq qs) (hc:RRow conC 7 w w.heap.size uc cs) (hr:RRow rqC 7 w w.heap.size ul l):
  Calls Tryz.prog 3 #[.agg #[uq,uc],ul,.int .u8 at_] w fun e w'=>e= .returned (.bool true)∧Below w.heap.size w w':=by
 have HQ:=aa hq;have HC:=aa hc;have HR:=aa hr;obtain⟨aq,cq,rfl,-⟩:=hq;obtain⟨ca,cc,rfl,-⟩:=hc;obtain⟨la,lc,rfl,l1,l2,-,-⟩:=hr;have hn:l.length≤9223372036854775807:=by unfold maxLen at l2;omega
 have HN:=aa hn;obtain⟨ha0,ha1⟩:=ha;clear l1 l2 hn;go_enter Tryz.func3,Tryz.ntmps3
 go_upto_region 1 with fail
 obtain⟨Z,hZ⟩:=cR w.heap.size
 obtain⟨w1,hw1⟩:=cR (w.alloc (.cells #[.slice aq qs.length cq,.slice ca cs.length cc] 25))
 rw[hw1,hZ];have B1:Below Z w w1:=by rw[←hw1,←hZ];exact cZ
 have X0:w1.heap[Z]? =some (.cells #[.slice aq qs.length cq,.slice ca cs.length cc] 25 (0,0)):=by rw[←hw1,←hZ];exact cW
 have z0:Z<w1.heap.size:=(ai.1 X0).1;have k0:=fun q_=>cU X0 q_
 have HX:=aa (cS B1 X0);have HZ:=aa hZ;rw[hZ]at HQ HC HR;clear hw1 B1 X0 hZ;go_wp2_with fail
 refine(oD (.slice aq qs.length cq) (.slice ca cs.length cc) la l.length lc w1 ⟨_,_,_,rfl⟩ ⟨_,_,_,rfl⟩ HN.out).mono ?_
 unfold GrPost;rintro e w2 ⟨⟨r,rfl,hg⟩,hb2⟩;have HX2:=aa (cS (HX.out.1.trans (hb2.mono (by omega))) ((hb2.block _ z0).trans HX.out.2));have z2:Z<w2.heap.size:=(ai.1 HX2.out.2).1;clear hb2 k0
 cases r with
 | true=>
  clear hg;go_wp2_with fail
  refine(iY _).mono ?_
  rintro e w99 ⟨rfl,hb99⟩;go_wp2
  go_ret
  rw[HZ.out];exact⟨rfl,HX2.out.1.trans (hb99.mono (by have:=HX2.out.1.size;have:=HZ.out;omega))⟩
 | false=>
 have hl5:=hg rfl;have HL5:=aa hl5;have k0:=fun q_=>cU HX2.out.2 q_
 clear hg hl5;go_wp2_with fail
 refine(tacc_any qs cs l (.slice aq qs.length cq) (.slice ca cs.length cc) _ w2 (HQ.out.below HX2.out.1 (aj _) (by omega)) (HC.out.below HX2.out.1 (aj _) (by omega)) (HR.out.below HX2.out.1 (aj _) (by omega)) HL5.out).mono ?_
 unfold TaPost;rintro e w3 ⟨⟨uo,uv,rfl,hres⟩,hb3⟩;have HX3:=aa (cS (HX2.out.1.trans (hb3.mono (by omega))) ((hb3.block _ z2).trans HX2.out.2));have z3:Z<w3.heap.size:=(ai.1 HX3.out.2).1;clear hb3 k0 HR HL5 HN;rcases hres with rfl | ⟨hp,us,ut,ts,hus,hro,hlast,hrt,hled⟩
 ·skip
  go_wp2_with fail
  refine(iY _).mono ?_
  rintro e w99 ⟨rfl,hb99⟩;go_wp2
  go_ret
  rw[HZ.out];exact⟨rfl,HX3.out.1.trans (hb99.mono (by have:=HX3.out.1.size;have:=HZ.out;omega))⟩
 have HP:=aa hp;have HT3:=aa hrt;have HL:=aa hled;obtain⟨oa,oc,rfl,-,o2,-,h4⟩:=hro;clear hp hrt hled o2;obtain⟨m,hm⟩:∃m,us.length=m+1:=by
  cases us with
  | nil=>cases hlast
  | cons a b=>exact⟨b.length,rfl⟩
 rw[hm];obtain⟨bb,o,rfl,hbb,hcc⟩:=h4 (by omega);have hx:us[m]? =some ut:=by rw[List.getLast?_eq_getElem?,hm]at hlast;exact hlast
 have g0:w3.cell? ⟨bb,o+m*4,none⟩=some (.slice aq qs.length cq):=hcc m ut hx 0 _ rfl;have g1:w3.cell? ⟨bb,o+m*4+1,none⟩=some (.slice ca cs.length cc):=hcc m ut hx 1 _ rfl;have g2:w3.cell? ⟨bb,o+m*4+2,none⟩=some (.slice none 0 0):=hcc m ut hx 2 _ rfl;have g3:w3.cell? ⟨bb,o+m*4+3,none⟩=some ut:=hcc m ut hx 3 _ rfl;have hm6:m≤5:=by omega
 have wm:IntKind.i64.wrap ((m:Int)+1-1)=(m:Int):=by rw[ax];omega
 have wm2:IntKind.i64.wrap (m:Int)=(m:Int):=by rw[ax];omega
 have m0:(0:Int)≤(m:Int):=by omega
 have m1:(m:Int)<(m:Int)+1:=by omega
 have d0:((m:Int)+1==0)=false:=by rw[beq_eq_false_iff_ne];omega
 obtain⟨ps,hps,hrow,hrh⟩:=HT3.out;have HPS:=aa hps;have HRH:=aa hrh;have HROW:=aa hrow;obtain⟨pa,pc,rfl,p1,p2,-,p4⟩:=hrow;have H4:=aa p4;have hpl:ps.length≤64:=by have:=HL.out.len;rw[HPS.out,aZ]at this;exact this
 clear hcc hx hlast h4 hm hus hps hrh p4 p2 p1;go_upto_region 7 with fail
 obtain⟨X,hX⟩:=cR w3.heap.size
 obtain⟨w4,hw4⟩:=cR (w3.alloc (.cells #[.slice aq qs.length cq,.slice ca cs.length cc,.slice none 0 0,.slice pa ps.length pc] 36))
 rw[hw4,hX];have b4:Below w3.heap.size w3 w4:=by rw[←hw4];exact de (ap _ _)
 have X4:w4.heap[X]? =some (.cells #[.slice aq qs.length cq,.slice ca cs.length cc,.slice none 0 0,.slice pa ps.length pc] 36 (0,0)):=by rw[←hw4,←hX];exact cW
 have HB4:Hid (Below Z w w4):=aa (HX3.out.1.trans (b4.mono (by omega)));have HX4:=aa X4;have HP4:=aa ((b4.block _ z3).trans HX3.out.2);have HT4:Hid (RRow tkP 11 w4 w4.heap.size (.slice pa ps.length pc) ps∧∀p∈ps,RHops w4 p.2 p.1.hs):=aa ⟨HROW.out.below' b4,fun p hp=>(HRH.out p hp).below' b4⟩;have zX4:X<w4.heap.size:=(ai.1 X4).1;have hZX:Z<X:=by omega
 have kX:=fun q_=>cU X4 q_
 clear hw4 b4 X4 hX g0 g1 g2 g3 hbb wm wm2 m0 m1 d0 HX3 HT3 HROW HRH H4 z0 z2 z3 hm6;by_cases hp0:ps.length=0
 ·rw[hp0]at kX
  go_wp2_with fail
  refine(iY _).mono ?_
  rintro e w99 ⟨rfl,hb99⟩;go_wp2
  go_ret
  rw[HZ.out];exact⟨rfl,HB4.out.trans (hb99.mono (by have:=HB4.out.size;have:=HZ.out;omega))⟩
 have d0:((ps.length:Int)==0)=false:=by rw[beq_eq_false_iff_ne];omega
 have dp0:(0:Int)<(ps.length:Int):=by omega
 obtain⟨j,hj⟩:=bh (Int.tmod_nonneg (ps.length:Int) ha0);have hjl:j<ps.length:=by have:=Int.tmod_lt_of_pos at_ dp0;omega
 have wa:IntKind.i64.wrap at_=at_:=by rw[ax];omega
 have wj:IntKind.i64.wrap (j:Int)=(j:Int):=by rw[ax];omega
 obtain⟨pa',pc',e,-,-,-,h4⟩:=id HT4.out.1;obtain⟨pb,po,e4,hpb,hcc⟩:=h4 (by omega);injection e with e1 _ e3
 rw[e4]at e1;subst e1;clear h4 e4 e3;obtain⟨⟨t,u⟩,hx⟩:∃x,ps[j]? =some x:=⟨_,am hjl⟩
 have hru:RHops w4 u t.hs:=HT4.out.2 (t,u) (az hx);obtain⟨ua,uc,rfl,-⟩:=id hru;obtain⟨g0,g1,g2,g3,g4,g5,g6,g7,g8,g9,g10⟩:=iA hcc hx;have htx:ts[j]? =some t:=by rw[HPS.out,bO,hx];rfl
 have HTX:=aa htx;have HPX:=aa hx;have HRU:=aa hru;have j0:(0:Int)≤(j:Int):=by omega
 have j1:(j:Int)<(ps.length:Int):=by omega
 clear hx hru hcc htx;go_upto_region 9 with fail
 refine dd (fun V=>Below w4.heap.size w4 V) [0,1,0,0,0,1,0,0,0,1,2,3] [0,1,2,3,4,5,6,7,8,9,10,11] (by kernel_rfl) (by kernel_rfl) ?_ ?_
 case refine_1=>exact bdrew (ap _ _)
 (iterate 10 (first | (refine cX rfl (by decide) (by rfl) (fun w1 hS=>by(try(obtain⟨_,_⟩:=bcell (hS rfl)));go_simp;rfl) ?_;simp only[Act.put,ae,af,ag]) | (refine dm rfl (by decide) (by rfl) ?_;simp only[Act.put,ae,af,ag])))
 clear g0 g1 g2 g3 g4 g5 g6 g7 g8 g9 g10 wa wj j0 j1 dp0 d0
 (refine dA rfl rfl (by rfl) (fun K hK=>?_);go_simp)
 obtain⟨T,hT⟩:=cR w4.heap.size
 obtain⟨w5,hw5⟩:=cR ((w4.alloc (.cells #[.int .i64 0,.int .i64 0,.int .i64 0,.int .i64 0,.int .i64 0,.int .i64 0,.int .i64 0,.bool false,.slice none 0 0,.int .i64 0,.int .i64 0] 41)).drew)
 rw[hw5,hT];have b5:Below w4.heap.size w4 w5:=by rw[←hw5];exact bdrew (de (ap _ _))
 have XT:w5.heap[T]? =some (.cells #[.int .i64 0,.int .i64 0,.int .i64 0,.int .i64 0,.int .i64 0,.int .i64 0,.int .i64 0,.bool false,.slice none 0 0,.int .i64 0,.int .i64 0] 41 (0,0)):=by rw[←hw5,←hT];exact cW (W:=w4)
 have HT_:=aa hT;have zT5:T<w5.heap.size:=(ai.1 XT).1;clear hw5;rw[hT]at b5;refine hK _ _ (by rw[hT];exact b5) ?_
 clear hK K
 (try simp only[Act.put,ae,af,ag])
 refine di rfl rfl (by rfl) (fun K hK=>?_)
 refine eh 41 _ _ rfl T #[.int .i64 t.no,.int .i64 t.q.src,.int .i64 t.q.dst,.int .i64 t.q.sz,.int .i64 t.q.rd,.int .i64 t.q.D,.int .i64 t.q.pr,.bool t.q.cu,(.slice ua t.hs.length uc),.int .i64 t.st,.int .i64 t.un] #[.int .i64 0,.int .i64 0,.int .i64 0,.int .i64 0,.int .i64 0,.int .i64 0,.int .i64 0,.bool false,.slice none 0 0,.int .i64 0,.int .i64 0] 41 rfl rfl XT rfl (by kernel_rfl) (by simp[Value.oneCell']) ?_
 intro w6 hW hbW hsW hoW;refine hK _ _ ?_
 clear hK K;have b6:Below T w4 w6:=b5.trans (hbW _ (aj _));have HK6:=aa hW;have HB6:Hid (Below Z w w6):=aa (HB4.out.trans (b6.mono (by omega)));have HX6:=aa ((b6.block _ (by omega)).trans HX4.out);have HP6:=aa ((b6.block _ (by omega)).trans HP4.out);have HR6:Hid (RRow tkP 11 w6 w6.heap.size (.slice (some ⟨pb,po,none⟩) ps.length pc) ps∧∀p∈ps,RHops w6 p.2 p.1.hs):=aa ⟨HT4.out.1.below' (by rw[hT];exact b6),fun p hp=>(HT4.out.2 p hp).below' (by rw[hT];exact b6)⟩;have HU6:Hid (RHops w6 (.slice ua t.hs.length uc) t.hs):=aa (HRU.out.below' (by rw[hT];exact b6));have z6:T<w6.heap.size:=by have:w6.heap.size=w5.heap.size:=hsW;omega
 have hXT:X<T:=by omega
 clear hW hbW hsW hoW b5 b6 XT zT5 kX zX4 HB4 HX4 HP4 HT4 HRU HT_ hT;refine du ?_
 have kK:=fun q_=>cU HK6.out q_
 have kX:=fun q_=>cU HX6.out q_
 have zX6:X<w6.heap.size:=by omega
 by_cases hst:t.st=1
 case neg=>
  have d1:(t.st != 1)=true:=by rw[bne_iff_ne];exact hst
  go_wp2_with fail
  refine(iY _).mono ?_
  rintro e w99 ⟨rfl,hb99⟩;go_wp2
  go_ret
  rw[HZ.out];exact⟨rfl,HB6.out.trans (hb99.mono (by have:=HB6.out.size;have:=HZ.out;omega))⟩
 have d1:(t.st != 1)=false:=by rw[hst];rfl
 have HST:=aa hst;have HKF:Hid True:=aa trivial;clear hst;go_upto_region 14 with fail
 obtain⟨Y,hY⟩:=cR w6.heap.size
 obtain⟨w7,hw7⟩:=cR (w6.alloc (.cells #[.slice aq qs.length cq,.slice ca cs.length cc,.slice none 0 0,.slice none 0 0] 36))
 rw[hw7,hY];have b7:Below Y w6 w7:=by rw[←hw7,←hY];exact de (ap _ _)
 have Y7:w7.heap[Y]? =some (.cells #[.slice aq qs.length cq,.slice ca cs.length cc,.slice none 0 0,.slice none 0 0] 36 (0,0)):=by rw[←hw7,←hY];exact cW
 have HY7:=aa Y7;have HB7:=aa b7;have HYS:=aa hY;have zY7:Y<w7.heap.size:=(ai.1 Y7).1;have kX:=fun q_=>cU ((b7.block X (by omega)).trans HX6.out) q_
 have zX7:X<w7.heap.size:=by omega
 have hTY:T<Y:=by omega
 have hlen:ps.length≤9223372036854775807:=by omega
 clear hw7 b7 Y7 hY kK zX6 z6;obtain⟨i0,hin,hz0,hz1,hz2⟩:=info_parts lX;go_wp2_with fail
 go_loopw [66] (fun kv wr=>∃(k:Nat) (yv:Value),k≤ps.length∧kv= .int .i64 (k:Int)∧Hid (wr.heap[Y]? =some (.cells #[.slice aq qs.length cq,.slice ca cs.length cc,.slice none 0 0,yv] 36 (0,0)))∧Hid (wr.ownsRow (Y+1) 41 11 yv (offK t.no (ps.take k)).length ((offK t.no (ps.take k)).flatMap tkP))∧Hid (Below Y w6 wr)) (fun kv _=>ps.length-(intOf kv).toNat)
 case atStart=>exact⟨0,.slice none 0 0,aE _,rfl,HY7,aa iu,HB7⟩
 case round=>
  obtain⟨k,yv,hk,rfl,HYr,HOr,HBr⟩:=hrel;clear kX zX7 zY7;obtain⟨va,vc,hve⟩:=dg HOr.out;subst hve;have k0:(0:Int)≤(k:Int):=by omega
  have zYr:Y<wr.heap.size:=(ai.1 HYr.out).1;by_cases hlt:k<ps.length
  ·obtain⟨⟨t2,u2⟩,hx⟩:∃x,ps[k]? =some x:=⟨_,am hlt⟩
   obtain⟨hbb,hcc⟩:=rrow_at HR6.out.1 (by omega);have hru:=HR6.out.2 (t2,u2) (az hx);obtain⟨ua2,uc2,hue,-⟩:=id hru;simp only at hue;subst hue;have HKX:=aa hx;have hk1:(k:Int)<(ps.length:Int):=by omega
   obtain⟨g0,g1,g2,g3,g4,g5,g6,g7,g8,g9,g10⟩:=(iA hcc hx).below (fun q=>HBr.out.cell (p:=⟨pb,q,none⟩) (by rw[←HYS.out];exact hbb));have hbr:pb<wr.heap.size:=by have:=HYS.out;omega
   clear hcc hx hru;go_upto_region 17 with fail
   obtain⟨w8,hw8⟩:=cR (wr.alloc (.cells #[.int .i64 t2.no,.int .i64 t2.q.src,.int .i64 t2.q.dst,.int .i64 t2.q.sz,.int .i64 t2.q.rd,.int .i64 t2.q.D,.int .i64 t2.q.pr,.bool t2.q.cu,(.slice ua2 t2.hs.length uc2),.int .i64 t2.st,.int .i64 t2.un] 41))
   rw[hw8];have b8:Below wr.heap.size wr w8:=by rw[←hw8];exact de (ap _ _)
   have X8:w8.heap[wr.heap.size]? =some (.cells #[.int .i64 t2.no,.int .i64 t2.q.src,.int .i64 t2.q.dst,.int .i64 t2.q.sz,.int .i64 t2.q.rd,.int .i64 t2.q.D,.int .i64 t2.q.pr,.bool t2.q.cu,(.slice ua2 t2.hs.length uc2),.int .i64 t2.st,.int .i64 t2.un] 41 (0,0)):=by rw[←hw8];exact cW
   have z8:wr.heap.size<w8.heap.size:=(ai.1 X8).1;obtain⟨Q,hQ⟩:=cR wr.heap.size
   rw[hQ]at X8 z8 ⊢;have HB8:Hid (Below Y w6 w8):=aa (HBr.out.trans (b8.mono (by omega)));have HY8:=aa ((b8.block _ zYr).trans HYr.out);have HO8:=aa (cV HOr.out (fun q hq=>b8.block q (HOr.out.lt q hq).2));have HX8:=aa X8;have k8:=fun q_=>cU HX8.out q_
   have kK:=fun q_=>cU ((HB8.out.block T (by have:=HYS.out;omega)).trans HK6.out) q_
   have zK8:T<w8.heap.size:=by omega
   have zY8:Y<w8.heap.size:=by omega
   have hYQ:Y<Q:=by omega
   clear hw8 b8 X8 hQ g0 g1 g2 g3 g4 g5 g6 g7 g8 g9 g10 hbr hbb HYr HOr HBr;obtain⟨n1,hn1⟩:=cR t2.no
   obtain⟨n2,hn2⟩:=cR t.no
   have HNN:=aa (cS hn1 hn2);clear hn1 hn2;by_cases hno:t2.no=t.no
   ·have d1:(t2.no != t.no)=false:=by rw[hno];simp
    have HNO:=aa hno;clear hno;go_wp2
    go_roundw
    case rel=>exact⟨k+1,.slice va _ vc,by omega,by go_num,HY8,aa (by rw[lM HKX.out,if_pos HNO.out];exact HO8.out),HB8⟩
    case measure=>simp[intOf];omega
   ·have d1:(t2.no != t.no)=true:=by rw[bne_iff_ne];exact hno
    have HNO:=aa hno;obtain⟨nn,hnn⟩:=cR ((offK t.no (ps.take k)).length)
    have hnb:nn≤64:=by rw[←hnn];unfold offK;have:=bn (fun p:Tk×Value=>p.1.no != t.no) (ps.take k);rw[aS]at this;omega
    have HNB:=aa hnn;rw[hnn]at HO8 HY8;have kY:=fun q_=>cU HY8.out q_
    have fY:=fun q_=>dC HY8.out q_
    clear hno hnn;go_wp2_with (at_builtin;refine dK _ rfl _ _ _ rfl (Y+1) 41 i0 _ 11 104 Tryz.underlying34 hin hz0 hz1 hz2 rfl (by omega) (.slice va nn vc) nn ((offK t.no (ps.take k)).flatMap tkP) rfl (cV HO8.out (fun q hq=>ak _ _ _ (HO8.out.lt q hq).2)) ⟨w8.heap.size,0,none⟩ 1 1 (tkP (t2,.slice ua2 t2.hs.length uc2)) rfl rfl (dI cW) (by simp[tkP,Value.oneCell']) (by simp only[maxLen];omega) (by omega) (by simp;omega) (by omega) ?_;intro vo9 w9 ho9 hg9 hf9;obtain⟨va9,vc9,rfl⟩:=dg ho9;have HY9:Hid (w9.heap[Y]? =some (.cells #[.slice aq qs.length cq,.slice ca cs.length cc,.slice none 0 0,.slice va nn vc] 36 (0,0))):=aa ((dw hg9 (by simp;omega) (fun e=>by have:=(HO8.out.lt Y e).1;omega)).trans ((ak _ _ _ zY8).trans HY8.out));have kY9:=fun q_=>cU HY9.out q_;have fY9:=fun q_=>dC HY9.out q_;have zY9:Y<w9.heap.size:=(ai.1 HY9.out).1;have HO9:=aa ho9;have HG9:=aa hg9;clear ho9 hg9 hf9)
    go_roundw
    case rel=>
     have hne:∀q,(Value.slice va9 (nn+1) vc9).ownBlock=some q→q≠Y:=fun q hq e=>by have:=(HO9.out.lt q hq).1;omega
     have h8a:Below Y w6 (w8.alloc (.cells (tkP (t2,.slice ua2 t2.hs.length uc2)).toArray 41)):=HB8.out.trans (de (ap _ _) |>.mono (by omega));have h9:Below Y w6 w9:=h8a.trans ⟨HG9.out.os,HG9.out.tape,HG9.out.output,HG9.out.size,fun q hq=>dw HG9.out (by simp;omega) (fun e=>by have:=(HO8.out.lt q e).1;omega)⟩;refine⟨k+1,.slice va9 (nn+1) vc9,by omega,by go_num,aa (eD HY9.out 3 _),aa ?_,aa (bset h9 (aj _))⟩
     rw[lM HKX.out,if_neg HNO.out,ay,aV,HNB.out];exact cV (w:=w9) (by simpa using HO9.out) (fun q hq=>heap_setCell_other w9 ⟨Y,3,none⟩ q _ (hne q hq))
    case measure=>simp[intOf];omega
  ·obtain rfl:k=ps.length:=by omega
   clear hlt;rw[aL]at HOr HYr;obtain⟨A,C,hsp,hfl⟩:=qy HL.out.num HTX.out;have HTy:Hid (RTks wr (.slice va (offK t.no ps).length vc) (A++C)):=aa (by rw[←hfl];exact off_tks HPS.out HOr.out (fun p hp=>(HR6.out.2 p hp).below' (by rw[HYS.out];exact HBr.out)));have HSP:=aa hsp;obtain⟨yn,hyn⟩:=cR ((offK t.no ps).length)
   rw[hyn]at HTy HYr;have hbr:Below w6.heap.size w6 wr:=by rw[HYS.out];exact HBr.out
   have HTx:Hid (RTks wr (.slice (some ⟨pb,po,none⟩) ps.length pc) ts):=aa ⟨ps,HPS.out,HR6.out.1.below' hbr,fun p hp=>(HR6.out.2 p hp).below' hbr⟩;have HXr:=aa (hat HX6.out hbr);have HSr:Hid (LwS Z T w #[.slice aq qs.length cq,.slice ca cs.length cc] #[.int .i64 t.no,.int .i64 t.q.src,.int .i64 t.q.dst,.int .i64 t.q.sz,.int .i64 t.q.rd,.int .i64 t.q.D,.int .i64 t.q.pr,.bool t.q.cu,(.slice ua t.hs.length uc),.int .i64 t.st,.int .i64 t.un] (.slice ua t.hs.length uc) t.hs wr):=aa (LwS.below ⟨HB6.out,HP6.out,HK6.out,HU6.out⟩ hbr);have HKF:Hid (KF qs cs t (A++C)):=aa (kf_of (by rw[←HSP.out];exact HL.out) HST.out);have HLy:Hid (LedOK qs cs (A++C)):=aa (by have:=HL.out;rw[HSP.out]at this;exact this.drop);have kX:=fun q_=>cU HXr.out q_
   have zX:=hatl HXr.out;have zZ:=HSr.out.zl;clear hsp hfl hyn hbr HOr HBr HX6 HR6 HB6 HP6 HK6 HU6 HY7 HB7 zYr k0;go_wp2_with fail
   refine(lI qs cs ts (.slice aq qs.length cq) (.slice ca cs.length cc) _ wr (HQ.out.below HSr.out.hb (aj _) zZ) (HC.out.below HSr.out.hb (aj _) zZ) HTx.out HL.out).mono ?_
   rintro e w10 ⟨⟨vb,vh,B,H,rfl,hB1,hB2,hH1,hH2,hto⟩,hb10⟩;obtain⟨ba,bc,rfl⟩:=dg hto.b;obtain⟨hha,hhc,rfl⟩:=dg hto.h;have HF1:=aa (cS hB1 (cS hB2 (cS hH1 hH2)));have HRb:Hid (RRow bkgC 4 w10 w10.heap.size (.slice ba B.length bc) B):=aa (dF (by decide) dL hto.b);have HS10:=aa (HSr.out.below hb10);have HY10:=aa (hat HYr.out hb10);have HTy10:=aa (HTy.out.below' hb10);clear hB1 hB2 hH1 hH2 hto hb10 kX zX zZ HXr HTx HTy HYr HSr;go_upto_region 21 with fail
   obtain⟨TA,hTA⟩:=cR w10.heap.size
   obtain⟨w11,hw11⟩:=cR (w10.alloc (.cells #[.slice aq qs.length cq,.slice ca cs.length cc,.slice ba B.length bc,.slice hha H.length hhc] 44))
   rw[hw11,hTA];have b11:Below w10.heap.size w10 w11:=by rw[←hw11];exact de (ap _ _)
   have HA11:Hid (w11.heap[TA]? =some (.cells #[.slice aq qs.length cq,.slice ca cs.length cc,.slice ba B.length bc,.slice hha H.length hhc] 44 (0,0))):=aa (by rw[←hw11,←hTA];exact cW);have HS11:=aa (HS10.out.below b11);have HY11:=aa (hat HY10.out b11);have HTy11:=aa (HTy10.out.below' b11);have HRb11:=aa (HRb.out.below' b11);have kY:=fun q_=>cU HY11.out q_
   have zY:=hatl HY11.out;have zZ:=HS11.out.zl;clear hw11 b11 hTA HS10 HY10 HTy10 HRb;go_wp2_with fail
   refine(lI qs cs (A++C) (.slice aq qs.length cq) (.slice ca cs.length cc) _ w11 (HQ.out.below HS11.out.hb (aj _) zZ) (HC.out.below HS11.out.hb (aj _) zZ) HTy11.out HLy.out).mono ?_
   rintro e w12 ⟨⟨vb2,vh2,B2,H2,rfl,hB1,hB2,hH1,hH2,hto⟩,hb12⟩;obtain⟨ba2,bc2,rfl⟩:=dg hto.b;obtain⟨hha2,hhc2,rfl⟩:=dg hto.h;have HF2:=aa (cS hB1 (cS hB2 (cS hH1 hH2)));have HRb12:=aa (HRb11.out.below' hb12);have HRc12:Hid (RRow bkgC 4 w12 w12.heap.size (.slice ba2 B2.length bc2) B2):=aa (dF (by decide) dL hto.b);have HRd12:Hid (RRow hldC 5 w12 w12.heap.size (.slice hha2 H2.length hhc2) H2):=aa (dF (by decide) dO hto.h);have HS12:=aa (HS11.out.below hb12);have HA12:=aa (hat HA11.out hb12);have hbq:∀q,(Value.slice ba2 B2.length bc2).ownBlock=some q→q<w12.heap.size:=fun q hq=>(hto.b.lt q hq).2
   clear hB1 hB2 hH1 hH2 hto hb12 kY zY zZ HS11 HY11 HTy11 HRb11 HA11;go_upto_region 22 with fail
   obtain⟨UA,hUA⟩:=cR w12.heap.size
   obtain⟨w13,hw13⟩:=cR (w12.alloc (.cells #[.slice aq qs.length cq,.slice ca cs.length cc,.slice ba2 B2.length bc2,.slice hha2 H2.length hhc2] 44))
   rw[hw13,hUA];have b13:Below w12.heap.size w12 w13:=by rw[←hw13];exact de (ap _ _)
   have HU13:Hid (w13.heap[UA]? =some (.cells #[.slice aq qs.length cq,.slice ca cs.length cc,.slice ba2 B2.length bc2,.slice hha2 H2.length hhc2] 44 (0,0))):=aa (by rw[←hw13,←hUA];exact cW);have HS13:=aa (HS12.out.below b13);have HA13:=aa (hat HA12.out b13);have HRb13:=aa (HRb12.out.below' b13);have HRc13:=aa (HRc12.out.below' b13);have HRd13:=aa (HRd12.out.below' b13);have hTU:TA<UA:=by have:=hatl HA12.out;omega
   have hKU:T<UA:=by have:=hatl HS12.out.hk;omega
   have hbu:∀q,(Value.slice ba2 B2.length bc2).ownBlock=some q→q≠UA:=fun q hq e=>by have:=hbq q hq;omega
   have HBU:=aa hbu;have kU:=fun q_=>cU HU13.out q_
   have kK:=fun q_=>cU HS13.out.hk q_
   have zU:=hatl HU13.out;have zK:=hatl HS13.out.hk;have zZ:=HS13.out.zl;have HUA:=aa hUA;have HB13:Hid (Below UA w12 w13):=aa (by rw[←HUA.out];exact b13);clear hw13 b13 hUA HRc12 HRd12 hbu hbq;have HBK:Hid (BkOK cs B2):=aa (HLy.out.bset HF2.out.1 HF2.out.2.1);have HHK:Hid (HkOK qs H2):=aa (HLy.out.hset HF2.out.2.2.1 HF2.out.2.2.2);have HBS:Hid (∀no,0≤no→no≤1152921504606846976→BkSet cs (bksL no t.hs++B2)):=aa (fun no n0 n1=>HKF.out.bs no n0 n1 B2 HF2.out.1);go_wp2_with fail
   refine(qw qs cs t.q t.hs B2 H2 (.slice aq qs.length cq) (.slice ca cs.length cc) _ _ _ w13 (HQ.out.below HS13.out.hb (aj _) zZ) (HC.out.below HS13.out.hb (aj _) zZ) HRc13.out HRd13.out HS13.out.hu HP.out HKF.out.rq HKF.out.way HKF.out.hl HKF.out.chk HBK.out HHK.out (HBS.out 0 (aR 0) (by omega)) (HKF.out.hs H2 HF2.out.2.2.1)).mono ?_
   rintro e w14 ⟨rfl,hb14⟩;have HS14:=aa (HS13.out.below hb14);have HU14:=aa (hat HU13.out hb14);have HRc14:=aa (HRc13.out.below' hb14);have zU13:=zU;have HB14:Hid (Below UA w12 w14):=aa (HB13.out.trans (hb14.mono (Nat.le_of_lt zU)));clear hb14 kU kK zU zK zZ HS13 HU13 HA13 HRb13 HRc13 HRd13 HB13 zU13;have kU:=fun q_=>cU HU14.out q_
   have kK:=fun q_=>cU HS14.out.hk q_
   have kP:=fun q_=>cU HS14.out.hp q_
   have zU:=hatl HU14.out;have zK:=hatl HS14.out.hk;have zP:=hatl HS14.out.hp;have zZ:=HS14.out.zl;go_wp2_with fail
   refine(oG qs cs t.q t.hs t.no (.slice aq qs.length cq) (.slice ca cs.length cc) _ w14 (HQ.out.below HS14.out.hb (aj _) zZ) (HC.out.below HS14.out.hb (aj _) zZ) HS14.out.hu HP.out HKF.out.rq HKF.out.way (by have:=HKF.out.hl;omega) HKF.out.chk).mono ?_
   rintro e w15 ⟨⟨r,N,rfl,hN,hrN⟩,hb15⟩;obtain⟨na,nc,rfl,-⟩:=id hrN;have HN_:=aa hN;have HS15:=aa (HS14.out.below hb15);have HU15:=aa (hat HU14.out hb15);have HRc15:=aa (HRc14.out.below' hb15);have HB15:Hid (Below UA w12 w15):=aa (HB14.out.trans (hb15.mono (Nat.le_of_lt zU)));clear hb15 hN hrN kU kK kP zU zK zP zZ HS14 HU14 HRc14 HB14;have kU:=fun q_=>cU HU15.out q_
   have kK:=fun q_=>cU HS15.out.hk q_
   have zU:=hatl HU15.out;have zK:=hatl HS15.out.hk;go_wp2_with fail
   refine(jk t.hs _ t.no w15 HS15.out.hu (by have:=HKF.out.hl;omega)).mono ?_
   unfold SortB;rintro e w16 ⟨⟨v,M,rfl,hM1,hM2,hMo⟩,hb16⟩;obtain⟨ma,mc,rfl⟩:=dg hMo;have hMx:∀q,(Value.slice ma M.length mc).ownBlock=some q→q≠UA:=fun q hq e=>by have:=(hMo.lt q hq).1;omega
   have HMX:=aa hMx;have HM1:=aa hM1;have HM16:Hid (RRow bkgC 4 w16 w16.heap.size (.slice ma M.length mc) M):=aa (dF (by decide) dL hMo);have hMl:M.length≤512:=by rw[hM1.length_eq];unfold bksL;rw[aZ];exact HKF.out.hl
   have HU16:=aa (hat HU15.out hb16);have HRc16:Hid (RRow bkgC 4 w16 w16.heap.size (.slice ba2 B2.length bc2) B2∧∀q,(Value.slice ba2 B2.length bc2).ownBlock=some q→q≠UA):=aa ⟨HRc15.out.below' hb16,HBU.out⟩;have HB16:Hid (Below UA w12 w16):=aa (HB15.out.trans (hb16.mono (Nat.le_of_lt zU)));have HST2:Hid (BkSet cs (M++B2)):=aa ((HBS.out t.no HKF.out.n0 HKF.out.n1).perm (List.Perm.append_right B2 hM1).symm);clear hb16 hMx hM1 hM2 hMo kU kK zU zK HS15 HU15 HRc15 HB15 HBU;have hMl2:M.length≤9223372036854775807:=by omega
   go_wp2_with fail
   go_loopw [124] (fun kv wr=>∃(k:Nat) (bv:Value) (Bj:List Bkg),k≤M.length∧kv= .int .i64 (k:Int)∧Hid (wr.heap[UA]? =some (.cells #[.slice aq qs.length cq,.slice ca cs.length cc,bv,.slice hha2 H2.length hhc2] 44 (0,0)))∧Hid (RRow bkgC 4 wr wr.heap.size bv Bj∧∀q,bv.ownBlock=some q→q≠UA)∧Hid (RRow bkgC 4 wr wr.heap.size (.slice ma M.length mc) M)∧Hid (BkOK cs Bj∧Bj.Perm (M.take k++B2))∧Hid (Below UA w12 wr)) (fun kv _=>M.length-(intOf kv).toNat)
   case atStart=>exact⟨0,_,B2,aE _,rfl,HU16,HRc16,HM16,aa ⟨HBK.out,by simp⟩,HB16⟩
   case round=>
    obtain⟨k,bv,Bj,hk,rfl,HUr,HVr,HMr,HJ,HBL⟩:=hrel;have HS12r:=aa (HS12.out.below (by rw[HUA.out];exact HBL.out));have i0:(0:Int)≤(k:Int):=by omega
    obtain⟨xa,xc,hxe,-⟩:=id HVr.out.1;subst hxe;clear HU16 HRc16 HM16 HB16;by_cases hlt:k<M.length
    ·obtain⟨b,hb⟩:∃b,M[k]? =some b:=⟨_,am hlt⟩
     obtain⟨ma',mc',e,-,-,-,h4⟩:=id HMr.out;obtain⟨bb3,o3,e4,hbb3,hcc⟩:=h4 (by omega);injection e with e1 _ e3
     rw[e4]at e1;subst e1;clear h4 e4 e3;have g0:wr.cell? ⟨bb3,o3+k*4,none⟩=some (.int .i64 b.ct):=hcc k b hb 0 _ rfl;have g1:wr.cell? ⟨bb3,o3+k*4+1,none⟩=some (.int .i64 b.bg):=hcc k b hb 1 _ rfl;have g2:wr.cell? ⟨bb3,o3+k*4+2,none⟩=some (.int .i64 b.en):=hcc k b hb 2 _ rfl;have g3:wr.cell? ⟨bb3,o3+k*4+3,none⟩=some (.int .i64 b.tk):=hcc k b hb 3 _ rfl;have i1:(k:Int)<(M.length:Int):=by omega
     have HB_:=aa hb;obtain⟨n1,n2,n3,n4⟩:=lJ HST2.out HJ.out.1 HJ.out.2 hb;have HNX:=aa (cS n1 (cS n2 (cS n3 n4)));clear hb n1 n2 n3 n4 hcc;go_upto_region 28 with fail
     obtain⟨w17,hw17⟩:=cR (wr.alloc (.cells #[.int .i64 b.ct,.int .i64 b.bg,.int .i64 b.en,.int .i64 b.tk] 53))
     rw[hw17];have b17:Below wr.heap.size wr w17:=by rw[←hw17];exact de (ap _ _)
     have X17:w17.heap[wr.heap.size]? =some (.cells #[.int .i64 b.ct,.int .i64 b.bg,.int .i64 b.en,.int .i64 b.tk] 53 (0,0)):=by rw[←hw17];exact cW
     have z17:wr.heap.size<w17.heap.size:=(ai.1 X17).1;have c17:=fun q=>cU X17 q
     have HU17:=aa (hat HUr.out b17);have HV17:=aa (HVr.out.1.below' b17);have HM17:=aa (HMr.out.below' b17);have HS17:=aa (HS12r.out.below b17);have zUr:=hatl HUr.out;have HB17:Hid (Below UA w12 w17):=aa (HBL.out.trans (b17.mono (Nat.le_of_lt zUr)));have kU:=fun q_=>cU HU17.out q_
     have kP:=fun q_=>cU HS17.out.hp q_
     have zU:=hatl HU17.out;have zP:=hatl HS17.out.hp;have zZ:=HS17.out.zl;clear hw17 b17 X17 g0 g1 g2 g3 HUr HMr HVr HS12r HBL;go_wp2_with fail
     refine(nF qs cs Bj b (.slice aq qs.length cq) (.slice ca cs.length cc) _ w17 (HQ.out.below HS17.out.hb (aj _) zZ) (HC.out.below HS17.out.hb (aj _) zZ) HV17.out HP.out HJ.out.1 HNX.out.1 HNX.out.2.1 HNX.out.2.2.1).mono ?_
     unfold BAddPost;rintro e w18 ⟨⟨r8,j8,rfl,hik,how⟩,hb18⟩;obtain⟨ra,rc,hre⟩:=dg how;subst hre;have HOW:=aa how;have HJ8:Hid (BkOK cs (Bj.take j8++b::Bj.drop j8)∧(Bj.take j8++b::Bj.drop j8).Perm (M.take (k+1)++B2)):=aa ⟨HNX.out.2.2.2 j8 hik,jt HB_.out HJ.out.2⟩;have HU18:=aa (hat HU17.out hb18);have HM18:=aa (HM17.out.below' hb18);have HB18:Hid (Below UA w12 w18):=aa (HB17.out.trans (hb18.mono (Nat.le_of_lt zU)));have kU:=fun q_=>cU HU18.out q_
     have fU:=fun q_=>dC HU18.out q_
     have zU8:=hatl HU18.out;have hzz:UA<w17.heap.size:=zU;clear hik how hb18 kP c17;go_wp2
     go_roundw
     case rel=>
      have hne:∀q,(Value.slice ra (Bj.length+1) rc).ownBlock=some q→q≠UA:=fun q hq e=>by have:=(HOW.out.lt q hq).1;omega
      have hs:w18.heap.size≤(w18.setCell ⟨UA,2,none⟩ (.slice ra (Bj.length+1) rc)).heap.size:=by simp
      exact⟨k+1,.slice ra (Bj.length+1) rc,_,by omega,by go_num,aa (eD HU18.out 2 _),aa ⟨(dF (by decide) dL HOW.out).keepAt hs (fun _ q hq=>heap_setCell_other w18 ⟨UA,2,none⟩ q _ (hne q hq)),hne⟩,aa (HM18.out.keepAt hs (fun _ q hq=>heap_setCell_other w18 ⟨UA,2,none⟩ q _ (HMX.out q hq))),HJ8,aa (bset HB18.out (aj _))⟩
     case measure=>simp[intOf];omega
    ·obtain rfl:k=M.length:=by omega
     rw[aL]at HJ;have hbw:Below w12.heap.size w12 wr:=by rw[HUA.out];exact HBL.out
     have HRbr:=aa (HRb12.out.below' hbw);have HAr:=aa (hat HA12.out hbw);have hBt:BkOK cs B:=HL.out.bset HF1.out.1 HF1.out.2.1;have p0:LedOK qs cs (A++t::C):=by rw[←HSP.out];exact HL.out
     have p1:B.Perm (allB (A++t::C)):=by rw[←HSP.out];exact HF1.out.1
     have p2:H.Perm (allH cs (A++t::C)):=by rw[←HSP.out];exact HF1.out.2.2.1
     have hend:=qx (Bt:=B) (Bu:=Bj) (M:=M) (Ht:=H) (Hu:=H2) (N:=N) p0 HST.out p1 hBt (HJ.out.2.trans (List.Perm.append_left M HF2.out.1)) HM1.out HJ.out.1 p2 HF2.out.2.2.1 HN_.out;obtain⟨he1,he2⟩:=hend;have hH5:H.length≤512:=(HL.out.hset HF1.out.2.2.1 HF1.out.2.2.2).1;have HBJ:=aa he1;have hw_:IntKind.i64.wrap ((H2.length:Int)+(N.length:Int))=(H2.length:Int)+(N.length:Int):=by rw[ax];omega
     have hq_:((H.length:Int)==(H2.length:Int)+(N.length:Int))=true:=by rw[beq_iff_eq];omega
     have kU:=fun q_=>cU HUr.out q_
     have kA:=fun q_=>cU HAr.out q_
     have zU:=hatl HUr.out;have zA:=hatl HAr.out;have zZ:=HS12r.out.zl;clear hbw hBt p0 p1 p2 he1 he2 hlt hk hMl hMl2 HMX HM1 HMr HBL;go_wp2_with fail
     refine(qz qs cs B (.slice aq qs.length cq) (.slice ca cs.length cc) _ _ wr (HQ.out.below HS12r.out.hb (aj _) zZ) (HC.out.below HS12r.out.hb (aj _) zZ) HRbr.out (by have:=HVr.out.1;rw[HBJ.out]at this ⊢;exact this)).mono ?_
     rintro e w19 ⟨rfl,hb19⟩;have HS19:=aa (HS12r.out.below hb19);have zZ2:=HS19.out.zl;clear hb19 kU kA zU zA zZ;go_wp2_with fail
     refine(iY _).mono ?_
     rintro e w99 ⟨rfl,hb99⟩;go_wp2
     go_ret
     rw[HZ.out];exact⟨rfl,HS19.out.hb.trans (hb99.mono (by omega))⟩
end
section
namespace topOthers
open Go.ChangeShapes Go.WideShapes Go.ChangeAt Go.Joins
theorem own:ownKnob Tryz.prog.godebug=none:=by kernel_rfl
theorem lifted (os:Os) (started:os.Started) (H:Type) (enc:TypeId×Value→H):
  ReturnsInHanded {} Tryz.checked os 3 .any (Rows.topOthersSpec.pre6 enc Tryz.prog Tryz.f3 Rows.topOthersRow.domain false) (Rows.topOthersSpec.post enc Tryz.prog Tryz.f3 false true false false):=by
 refine returnsInHanded_of_change (C:=Tryz.checked) own started (by kernel_rfl) Tryz.func3
  (ChangeSpec.witness6 (enc:=enc) (C:=Tryz.checked) false ⟨#[],#[.agg #[.slice none 0 0,.slice none 0 0],.slice none 0 0,.int .u8 0],[]⟩ 8 (by kernel_rfl) (by kernel_rfl) (by kernel_rfl) (by kernel_rfl)) ?_
 intro W base args ds gs before hval0 hW hcnd _;have hval:∀(j:Nat) t v,Tryz.f3.params[j]? =some t→args[j]? =some v→Value.okWide Tryz.prog W .any base t v:=hval0;have hW':=hW;obtain⟨p,q,hA0,hV,rfl,hfz,hnd⟩:=hW;have hA:DataW.TrodAll enc Tryz.prog W 0 (fun _=>true) true Tryz.f3.params.toList args.toList ds p:=hA0;rw[Tryz.params3]at hA hval;obtain⟨v0,vs0,d0,ds0,p0,q0,hargs,rfl,rfl,h0,r0⟩:=trodAll_cons hA;obtain⟨v1,vs1,d1,ds1,p1,q1,rfl,rfl,rfl,h1,r1⟩:=trodAll_cons r0;obtain⟨v2,vs2,d2,ds2,p2,q2,rfl,rfl,rfl,h2,r2⟩:=trodAll_cons r1;obtain⟨rfl,rfl,rfl⟩:=trodAll_nil r2;obtain rfl:args=#[v0,v1,v2]:=by cases args;simp_all
 obtain⟨uq,uc,qs,cs,rfl,e1,e2⟩:=oF (hval 0 25 v0 rfl rfl) h0;obtain⟨l,e3⟩:=open_rqs (hval 1 26 v1 rfl rfl) h1;obtain⟨x2,rfl,_,_,wx2⟩:=open_int Tryz.underlying5 (hval 2 5 v2 rfl rfl) h2;refine(walk qs cs l uq uc v1 x2 W (by have:=wx2;simp[Lit.wf,IntKind.min,IntKind.max,IntKind.signed,IntKind.bits]at this;omega) e1 e2 e3).mono fun e W' ⟨he,hB⟩=>?_
 subst he;refine⟨_,rfl,law_post (by kernel_rfl) (by kernel_rfl) rfl Tryz.underlying4 rfl ?_ hW' hB⟩
 intro es hes;match es,hes with
 | [_,_,_],_=>rfl
theorem proved:Rows.TopOthersSaid:=
 OpenClaim.holds_of_wide 3 Tryz.f3 rfl rfl rfl rfl rfl rfl rfl ⟨rfl,rfl,rfl,rfl,rfl⟩ rfl rfl rfl rfl rfl (by kernel_rfl) Tryz.func3 (by kernel_rfl)
  (of_decide_eq_true (by kernel_rfl)) (by unfold Func.isWrapper;first | (rw[if_pos (by decide+kernel)];kernel_rfl) | (rw[if_neg (by decide+kernel)];exact⟨rfl,rfl⟩))
  (fun os started H enc _=>lifted os started H enc)
end topOthers
end
end Go.Proofs.YtfnciigbbolckaaGreat
