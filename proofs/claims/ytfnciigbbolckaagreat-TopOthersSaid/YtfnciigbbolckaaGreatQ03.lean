/- Part 3 of the proof about mailboattop.TopOthers. No condition. -/
import Derived.Test.YtfnciigbbolckaaGreatQ00
import Derived.Test.YtfnciigbbolckaaGreatQ02
set_option linter.unusedVariables false
set_option linter.unusedSimpArgs false
set_option maxRecDepth 100000
set_option maxHeartbeats 64000000
namespace Go.Proofs.YtfnciigbbolckaaGreat
open Go Go.RowKit Iv
attribute [local go_sem] Oper.semAt_some
attribute [local go_sem] pw gu B_app pv B_get B_toList
section
theorem dE (n lo hi:Int) (w:World):Calls Tryz.prog 114 #[.int .i64 n,.int .i64 lo,.int .i64 hi] w fun e w'=>e= .returned (.bool (wth n lo hi))∧w'=w:=by
 show Calls Tryz.prog 114 #[.int .i64 n,.int .i64 lo,.int .i64 hi] w fun e w'=>e= .returned (.bool (decide (n≥lo)&&decide (n≤hi)))∧w'=w
 by_cases z1:n≥lo
 ·have d1:decide (n≥lo)=true:=decide_eq_true z1
  rw[d1];clear z1;go_enter Tryz.func114,Tryz.ntmps114
  go_wp2
  go_ret
  exact⟨rfl,rfl⟩
 ·have d1:decide (n≥lo)=false:=decide_eq_false z1
  rw[d1];clear z1;go_enter Tryz.func114,Tryz.ntmps114
  go_wp2
  go_ret
  exact⟨rfl,rfl⟩
theorem eH (c:Con) (w:World):Calls Tryz.prog 72 #[.agg #[.int .i64 c.fr,.int .i64 c.tt,.int .i64 c.st,.int .i64 c.en,.int .i64 c.ra,.int .i64 c.rg,.int .i64 c.lo]] w fun e w'=>e= .returned (.int .i64 (chkCon c))∧Below w.heap.size w w':=by
 by_cases h0:wth c.fr 0 15=false
 ·rw[show chkCon c=2 from if_pos (.inl h0)]
  have G0:=aa h0;clear h0;go_enter Tryz.func72,Tryz.ntmps72
  go_wp2_with fail
  refine(dE _ _ _ _).mono ?_
  rw[G0.out];rintro e _ ⟨rfl,rfl⟩;go_wp2
  go_ret
  exact⟨rfl,cZ⟩
 replace h0:wth c.fr 0 15=true:=by simpa using h0
 by_cases h1:wth c.tt 0 15=false
 ·rw[show chkCon c=2 from if_pos (.inr (.inl h1))]
  have G0:=aa h0;have G1:=aa h1;clear h0 h1;go_enter Tryz.func72,Tryz.ntmps72
  go_wp2_with fail
  refine(dE _ _ _ _).mono ?_
  rw[G0.out];rintro e _ ⟨rfl,rfl⟩;go_wp2_with fail
  refine(dE _ _ _ _).mono ?_
  rw[G1.out];rintro e _ ⟨rfl,rfl⟩;go_wp2
  go_ret
  exact⟨rfl,cZ⟩
 replace h1:wth c.tt 0 15=true:=by simpa using h1
 by_cases h2:wth c.ra 1 1000=false
 ·rw[show chkCon c=2 from if_pos (.inr (.inr (.inl h2)))]
  have G0:=aa h0;have G1:=aa h1;have G2:=aa h2;clear h0 h1 h2;go_enter Tryz.func72,Tryz.ntmps72
  go_wp2_with fail
  refine(dE _ _ _ _).mono ?_
  rw[G0.out];rintro e _ ⟨rfl,rfl⟩;go_wp2_with fail
  refine(dE _ _ _ _).mono ?_
  rw[G1.out];rintro e _ ⟨rfl,rfl⟩;go_wp2_with fail
  refine(dE _ _ _ _).mono ?_
  rw[G2.out];rintro e _ ⟨rfl,rfl⟩;go_wp2
  go_ret
  exact⟨rfl,cZ⟩
 replace h2:wth c.ra 1 1000=true:=by simpa using h2
 by_cases h3:wth c.rg 1 1048576=false
 ·rw[show chkCon c=2 from if_pos (.inr (.inr (.inr (.inl h3))))]
  have G0:=aa h0;have G1:=aa h1;have G2:=aa h2;have G3:=aa h3;clear h0 h1 h2 h3;go_enter Tryz.func72,Tryz.ntmps72
  go_wp2_with fail
  refine(dE _ _ _ _).mono ?_
  rw[G0.out];rintro e _ ⟨rfl,rfl⟩;go_wp2_with fail
  refine(dE _ _ _ _).mono ?_
  rw[G1.out];rintro e _ ⟨rfl,rfl⟩;go_wp2_with fail
  refine(dE _ _ _ _).mono ?_
  rw[G2.out];rintro e _ ⟨rfl,rfl⟩;go_wp2_with fail
  refine(dE _ _ _ _).mono ?_
  rw[G3.out];rintro e _ ⟨rfl,rfl⟩;go_wp2
  go_ret
  exact⟨rfl,cZ⟩
 replace h3:wth c.rg 1 1048576=true:=by simpa using h3
 by_cases h4:wth c.lo 0 16=false
 ·rw[show chkCon c=2 from if_pos (.inr (.inr (.inr (.inr (h4)))))]
  have G0:=aa h0;have G1:=aa h1;have G2:=aa h2;have G3:=aa h3;have G4:=aa h4;clear h0 h1 h2 h3 h4;go_enter Tryz.func72,Tryz.ntmps72
  go_wp2_with fail
  refine(dE _ _ _ _).mono ?_
  rw[G0.out];rintro e _ ⟨rfl,rfl⟩;go_wp2_with fail
  refine(dE _ _ _ _).mono ?_
  rw[G1.out];rintro e _ ⟨rfl,rfl⟩;go_wp2_with fail
  refine(dE _ _ _ _).mono ?_
  rw[G2.out];rintro e _ ⟨rfl,rfl⟩;go_wp2_with fail
  refine(dE _ _ _ _).mono ?_
  rw[G3.out];rintro e _ ⟨rfl,rfl⟩;go_wp2_with fail
  refine(dE _ _ _ _).mono ?_
  rw[G4.out];rintro e _ ⟨rfl,rfl⟩;go_wp2
  go_ret
  exact⟨rfl,cZ⟩
 replace h4:wth c.lo 0 16=true:=by simpa using h4
 have hneg:¬(wth c.fr 0 15=false∨wth c.tt 0 15=false∨wth c.ra 1 1000=false∨wth c.rg 1 1048576=false∨wth c.lo 0 16=false):=by simp[h0,h1,h2,h3,h4]
 have hrg:=jI.1 h3;have G0:=aa h0;have G1:=aa h1;have G2:=aa h2;have G3:=aa h3;have G4:=aa h4;have HG:=aa hneg;clear hneg h0 h1 h2 h3 h4;have w1:IntKind.i64.wrap (2*c.rg)=2*c.rg:=by rw[ax];omega
 have w2:IntKind.i64.wrap (1099511627776-2*c.rg)=1099511627776-2*c.rg:=by rw[ax];omega
 by_cases z1:c.fr=c.tt
 ·skip
  have HR:Hid (chkCon c=1):=aa (by unfold chkCon;rw[if_neg HG.out];rw[if_pos z1]);rw[HR.out];have d1:(c.fr==c.tt)=true:=by rw[beq_iff_eq];exact z1
  clear z1 HR;go_enter Tryz.func72,Tryz.ntmps72
  go_wp2_with fail
  refine(dE _ _ _ _).mono ?_
  rw[G0.out];rintro e _ ⟨rfl,rfl⟩;go_wp2_with fail
  refine(dE _ _ _ _).mono ?_
  rw[G1.out];rintro e _ ⟨rfl,rfl⟩;go_wp2_with fail
  refine(dE _ _ _ _).mono ?_
  rw[G2.out];rintro e _ ⟨rfl,rfl⟩;go_wp2_with fail
  refine(dE _ _ _ _).mono ?_
  rw[G3.out];rintro e _ ⟨rfl,rfl⟩;go_wp2_with fail
  refine(dE _ _ _ _).mono ?_
  rw[G4.out];rintro e _ ⟨rfl,rfl⟩;go_wp2
  go_ret
  exact⟨rfl,cZ⟩
 by_cases z2:c.st<0
 ·skip
  have HR:Hid (chkCon c=2):=aa (by unfold chkCon;rw[if_neg HG.out];rw[if_neg z1,if_pos (.inl z2)]);rw[HR.out];have d1:(c.fr==c.tt)=false:=by rw[beq_eq_false_iff_ne];exact z1
  have d2:decide (c.st<0)=true:=decide_eq_true z2;clear z1 z2 HR;go_enter Tryz.func72,Tryz.ntmps72
  go_wp2_with fail
  refine(dE _ _ _ _).mono ?_
  rw[G0.out];rintro e _ ⟨rfl,rfl⟩;go_wp2_with fail
  refine(dE _ _ _ _).mono ?_
  rw[G1.out];rintro e _ ⟨rfl,rfl⟩;go_wp2_with fail
  refine(dE _ _ _ _).mono ?_
  rw[G2.out];rintro e _ ⟨rfl,rfl⟩;go_wp2_with fail
  refine(dE _ _ _ _).mono ?_
  rw[G3.out];rintro e _ ⟨rfl,rfl⟩;go_wp2_with fail
  refine(dE _ _ _ _).mono ?_
  rw[G4.out];rintro e _ ⟨rfl,rfl⟩;go_wp2
  go_ret
  exact⟨rfl,cZ⟩
 by_cases z3:c.en≤c.st
 ·skip
  have HR:Hid (chkCon c=2):=aa (by unfold chkCon;rw[if_neg HG.out];rw[if_neg z1,if_pos (.inr (.inl z3))]);rw[HR.out];have d1:(c.fr==c.tt)=false:=by rw[beq_eq_false_iff_ne];exact z1
  have d2:decide (c.st<0)=false:=decide_eq_false z2;have d3:decide (c.st≥c.en)=true:=decide_eq_true z3;clear z1 z2 z3 HR;go_enter Tryz.func72,Tryz.ntmps72
  go_wp2_with fail
  refine(dE _ _ _ _).mono ?_
  rw[G0.out];rintro e _ ⟨rfl,rfl⟩;go_wp2_with fail
  refine(dE _ _ _ _).mono ?_
  rw[G1.out];rintro e _ ⟨rfl,rfl⟩;go_wp2_with fail
  refine(dE _ _ _ _).mono ?_
  rw[G2.out];rintro e _ ⟨rfl,rfl⟩;go_wp2_with fail
  refine(dE _ _ _ _).mono ?_
  rw[G3.out];rintro e _ ⟨rfl,rfl⟩;go_wp2_with fail
  refine(dE _ _ _ _).mono ?_
  rw[G4.out];rintro e _ ⟨rfl,rfl⟩;go_wp2
  go_ret
  exact⟨rfl,cZ⟩
 by_cases z4:1099511627776-2*c.rg<c.en
 ·skip
  have HR:Hid (chkCon c=2):=aa (by unfold chkCon;rw[if_neg HG.out];rw[if_neg z1,if_pos (.inr (.inr z4))]);rw[HR.out];have d1:(c.fr==c.tt)=false:=by rw[beq_eq_false_iff_ne];exact z1
  have d2:decide (c.st<0)=false:=decide_eq_false z2;have d3:decide (c.st≥c.en)=false:=decide_eq_false z3;have d4:decide (c.en>1099511627776-2*c.rg)=true:=decide_eq_true z4;clear z1 z2 z3 z4 HR;go_enter Tryz.func72,Tryz.ntmps72
  go_wp2_with fail
  refine(dE _ _ _ _).mono ?_
  rw[G0.out];rintro e _ ⟨rfl,rfl⟩;go_wp2_with fail
  refine(dE _ _ _ _).mono ?_
  rw[G1.out];rintro e _ ⟨rfl,rfl⟩;go_wp2_with fail
  refine(dE _ _ _ _).mono ?_
  rw[G2.out];rintro e _ ⟨rfl,rfl⟩;go_wp2_with fail
  refine(dE _ _ _ _).mono ?_
  rw[G3.out];rintro e _ ⟨rfl,rfl⟩;go_wp2_with fail
  refine(dE _ _ _ _).mono ?_
  rw[G4.out];rintro e _ ⟨rfl,rfl⟩;go_wp2
  go_ret
  exact⟨rfl,cZ⟩
 ·skip
  have HR:Hid (chkCon c=0):=aa (by unfold chkCon;rw[if_neg HG.out];rw[if_neg z1,if_neg (by omega)]);rw[HR.out];have d1:(c.fr==c.tt)=false:=by rw[beq_eq_false_iff_ne];exact z1
  have d2:decide (c.st<0)=false:=decide_eq_false z2;have d3:decide (c.st≥c.en)=false:=decide_eq_false z3;have d4:decide (c.en>1099511627776-2*c.rg)=false:=decide_eq_false z4;clear z1 z2 z3 z4 HR;go_enter Tryz.func72,Tryz.ntmps72
  go_wp2_with fail
  refine(dE _ _ _ _).mono ?_
  rw[G0.out];rintro e _ ⟨rfl,rfl⟩;go_wp2_with fail
  refine(dE _ _ _ _).mono ?_
  rw[G1.out];rintro e _ ⟨rfl,rfl⟩;go_wp2_with fail
  refine(dE _ _ _ _).mono ?_
  rw[G2.out];rintro e _ ⟨rfl,rfl⟩;go_wp2_with fail
  refine(dE _ _ _ _).mono ?_
  rw[G3.out];rintro e _ ⟨rfl,rfl⟩;go_wp2_with fail
  refine(dE _ _ _ _).mono ?_
  rw[G4.out];rintro e _ ⟨rfl,rfl⟩;go_wp2
  go_ret
  exact⟨rfl,cZ⟩
theorem ovl_any (a b:Con) (w:World) (ha:chkCon a=0) (hb:chkCon b=0):Calls Tryz.prog 75 #[.agg #[.int .i64 a.fr,.int .i64 a.tt,.int .i64 a.st,.int .i64 a.en,.int .i64 a.ra,.int .i64 a.rg,.int .i64 a.lo],.agg #[.int .i64 b.fr,.int .i64 b.tt,.int .i64 b.st,.int .i64 b.en,.int .i64 b.ra,.int .i64 b.rg,.int .i64 b.lo]] w fun e w'=>e= .returned (.bool (ovl a b))∧Below w.heap.size w w':=by
 have HA:=aa ha;have HB:=aa hb;clear ha hb;show Calls Tryz.prog 75 _ w fun e w'=>e= .returned (.bool ((a.fr==b.fr&&a.tt==b.tt)&&decide (max a.st b.st<min a.en b.en)))∧Below w.heap.size w w'
 by_cases y1:a.fr=b.fr
 ·have e1:(a.fr != b.fr)=false:=by simp[y1]
  have g1:(a.fr==b.fr)=true:=by simp[y1]
  by_cases y2:a.tt=b.tt
  ·have e2:(a.tt != b.tt)=false:=by simp[y2]
   have g2:(a.tt==b.tt)=true:=by simp[y2]
   rw[g1,g2];clear g1 g2 y1 y2;go_enter Tryz.func75,Tryz.ntmps75
   go_wp2_with fail
   refine(eH a _).mono ?_
   rw[HA.out];rintro e w1 ⟨rfl,hb1⟩;have hB1:Below w.heap.size w w1:=dq (de (de (ap _ _))) hb1;have z1:w.heap.size+1<w1.heap.size:=by have:=hb1.size;simp at this;omega
   have GA:w1.heap[w.heap.size]? =some (.cells #[.int .i64 a.fr,.int .i64 a.tt,.int .i64 a.st,.int .i64 a.en,.int .i64 a.ra,.int .i64 a.rg,.int .i64 a.lo] 95 (0,0)):=(hb1.block _ (by simp;omega)).trans ((ak _ _ _ (by simp)).trans cW);have GB:w1.heap[w.heap.size+1]? =some (.cells #[.int .i64 b.fr,.int .i64 b.tt,.int .i64 b.st,.int .i64 b.en,.int .i64 b.ra,.int .i64 b.rg,.int .i64 b.lo] 95 (0,0)):=(hb1.block _ (by simp)).trans (cY (by simp));have cb:=fun o=>cU GB o
   clear hb1;go_wp2_with fail
   refine(eH b _).mono ?_
   rw[HB.out];rintro e w2 ⟨rfl,hb2⟩;have hB2:Below w.heap.size w w2:=dq hB1 hb2;have z2:w.heap.size+1<w2.heap.size:=by have:=hb2.size;omega
   have GA2:=(hb2.block _ (by omega)).trans GA;have GB2:=(hb2.block _ z1).trans GB;have ca:=fun o=>cU GA2 o
   have cb:=fun o=>cU GB2 o
   clear hb2 GA GB hB1 GA2 GB2;go_wp2
   go_ret
   exact⟨rfl,hB2⟩
  ·have e2:(a.tt != b.tt)=true:=by simpa using y2
   have g2:(a.tt==b.tt)=false:=by simpa using y2
   rw[g1,g2];clear g1 g2 y1 y2;go_enter Tryz.func75,Tryz.ntmps75
   go_wp2_with fail
   refine(eH a _).mono ?_
   rw[HA.out];rintro e w1 ⟨rfl,hb1⟩;have hB1:Below w.heap.size w w1:=dq (de (de (ap _ _))) hb1;have z1:w.heap.size+1<w1.heap.size:=by have:=hb1.size;simp at this;omega
   have GA:w1.heap[w.heap.size]? =some (.cells #[.int .i64 a.fr,.int .i64 a.tt,.int .i64 a.st,.int .i64 a.en,.int .i64 a.ra,.int .i64 a.rg,.int .i64 a.lo] 95 (0,0)):=(hb1.block _ (by simp;omega)).trans ((ak _ _ _ (by simp)).trans cW);have GB:w1.heap[w.heap.size+1]? =some (.cells #[.int .i64 b.fr,.int .i64 b.tt,.int .i64 b.st,.int .i64 b.en,.int .i64 b.ra,.int .i64 b.rg,.int .i64 b.lo] 95 (0,0)):=(hb1.block _ (by simp)).trans (cY (by simp));have cb:=fun o=>cU GB o
   clear hb1;go_wp2_with fail
   refine(eH b _).mono ?_
   rw[HB.out];rintro e w2 ⟨rfl,hb2⟩;have hB2:Below w.heap.size w w2:=dq hB1 hb2;have z2:w.heap.size+1<w2.heap.size:=by have:=hb2.size;omega
   have GA2:=(hb2.block _ (by omega)).trans GA;have GB2:=(hb2.block _ z1).trans GB;have ca:=fun o=>cU GA2 o
   have cb:=fun o=>cU GB2 o
   clear hb2 GA GB hB1 GA2 GB2;go_wp2
   go_ret
   exact⟨rfl,hB2⟩
 ·have e1:(a.fr != b.fr)=true:=by simpa using y1
  have g1:(a.fr==b.fr)=false:=by simpa using y1
  rw[g1];clear g1 y1;go_enter Tryz.func75,Tryz.ntmps75
  go_wp2_with fail
  refine(eH a _).mono ?_
  rw[HA.out];rintro e w1 ⟨rfl,hb1⟩;have hB1:Below w.heap.size w w1:=dq (de (de (ap _ _))) hb1;have z1:w.heap.size+1<w1.heap.size:=by have:=hb1.size;simp at this;omega
  have GA:w1.heap[w.heap.size]? =some (.cells #[.int .i64 a.fr,.int .i64 a.tt,.int .i64 a.st,.int .i64 a.en,.int .i64 a.ra,.int .i64 a.rg,.int .i64 a.lo] 95 (0,0)):=(hb1.block _ (by simp;omega)).trans ((ak _ _ _ (by simp)).trans cW);have GB:w1.heap[w.heap.size+1]? =some (.cells #[.int .i64 b.fr,.int .i64 b.tt,.int .i64 b.st,.int .i64 b.en,.int .i64 b.ra,.int .i64 b.rg,.int .i64 b.lo] 95 (0,0)):=(hb1.block _ (by simp)).trans (cY (by simp));have cb:=fun o=>cU GB o
  clear hb1;go_wp2_with fail
  refine(eH b _).mono ?_
  rw[HB.out];rintro e w2 ⟨rfl,hb2⟩;have hB2:Below w.heap.size w w2:=dq hB1 hb2;have z2:w.heap.size+1<w2.heap.size:=by have:=hb2.size;omega
  have GA2:=(hb2.block _ (by omega)).trans GA;have GB2:=(hb2.block _ z1).trans GB;have ca:=fun o=>cU GA2 o
  have cb:=fun o=>cU GB2 o
  clear hb2 GA GB hB1 GA2 GB2;go_wp2
  go_ret
  exact⟨rfl,hB2⟩
def PredC (f:FuncId) (caps:Array Value) (Pd:Con→Bool) (w:World) (l:List Con):Prop:=(∀args W,(callFunc f args).run Tryz.prog W= .ok (.enter f args) W)∧
 ∀(x:Con) (W:World),x∈l→Below w.heap.size w W→Calls Tryz.prog f (#[.agg #[.int .i64 x.fr,.int .i64 x.tt,.int .i64 x.st,.int .i64 x.en,.int .i64 x.ra,.int .i64 x.rg,.int .i64 x.lo]]++caps) W fun e W'=>e= .returned (.bool (Pd x))∧Below W.heap.size W W'
def PredCIdx (Pd:Con→Bool) (l:List Con) (w:World) (e:Ending) (w':World):Prop:=Below w.heap.size w w'∧
 ((e= .returned (.int .i64 (-1))∧∀x∈l,Pd x=false)∨∃k:Nat,e= .returned (.int .i64 k)∧k<l.length∧(∀x∈l.take k,Pd x=false)∧∀x,l[k]? =some x→Pd x=true)
theorem mr (l:List Con) (u:Value) (f:FuncId) (caps:Array Value) (Pd:Con→Bool) (w:World) (h:RRow conC 7 w w.heap.size u l) (hp:PredC f caps Pd w l):
  Calls Tryz.prog 115 #[u,.func (.func f) #[] caps] w (PredCIdx Pd l w):=by
 obtain⟨a,c,rfl,h1,h2,h3,h4⟩:=h;unfold maxLen at h2;have hlen:l.length≤9223372036854775807:=by omega
 have H4:=aa h4;obtain⟨hcall,hq⟩:=hp;have HP:=aa hq;clear h3 h4 hq;go_enter Tryz.func115,Tryz.ntmps115
 go_wp2
 go_loopw [8] (fun i wr=>∃k:Nat,k≤l.length∧i= .int .i64 k∧Hid (∀x∈l.take k,Pd x=false)∧Below w.heap.size w wr) (fun i _=>l.length-(intOf i).toNat)
 case atStart=>exact⟨0,aE _,rfl,aa (by simp),ap _ _⟩
 case round=>
  obtain⟨k,hk,rfl,HF,hB⟩:=hrel;by_cases hlt:k<l.length
  ·obtain⟨bb,o,rfl,hbn,hcell⟩:=H4.out (by omega)
   obtain⟨x,hx⟩:∃x,l[k]? =some x:=⟨_,am hlt⟩
   have q0:wr.cell? ⟨bb,o+k*7,none⟩=some (.int .i64 x.fr):=(hB.cell (p:=⟨bb,o+k*7+0,none⟩) hbn).trans (hcell k x hx 0 _ rfl);have q1:wr.cell? ⟨bb,o+k*7+1,none⟩=some (.int .i64 x.tt):=(hB.cell (p:=⟨bb,o+k*7+1,none⟩) hbn).trans (hcell k x hx 1 _ rfl);have q2:wr.cell? ⟨bb,o+k*7+2,none⟩=some (.int .i64 x.st):=(hB.cell (p:=⟨bb,o+k*7+2,none⟩) hbn).trans (hcell k x hx 2 _ rfl);have q3:wr.cell? ⟨bb,o+k*7+3,none⟩=some (.int .i64 x.en):=(hB.cell (p:=⟨bb,o+k*7+3,none⟩) hbn).trans (hcell k x hx 3 _ rfl);have q4:wr.cell? ⟨bb,o+k*7+4,none⟩=some (.int .i64 x.ra):=(hB.cell (p:=⟨bb,o+k*7+4,none⟩) hbn).trans (hcell k x hx 4 _ rfl);have q5:wr.cell? ⟨bb,o+k*7+5,none⟩=some (.int .i64 x.rg):=(hB.cell (p:=⟨bb,o+k*7+5,none⟩) hbn).trans (hcell k x hx 5 _ rfl);have q6:wr.cell? ⟨bb,o+k*7+6,none⟩=some (.int .i64 x.lo):=(hB.cell (p:=⟨bb,o+k*7+6,none⟩) hbn).trans (hcell k x hx 6 _ rfl);have k0:(0:Int)≤(k:Int):=by omega
   have k1:(k:Int)<(l.length:Int):=by omega
   obtain⟨q,hq⟩:=cR (Pd x)
   have HQ:=aa hq;have HX:=aa hx;have hsz:=hB.size;clear hq hx hcell;go_wp2_with fail
   refine(HP.out x _ (az HX.out) hB).mono ?_
   rw[HQ.out];rintro e w1 ⟨rfl,hb1⟩;have hb2:Below w.heap.size w w1:=cZ
   cases q with
   | false=>
    go_wp2
    go_roundw
    case rel=>
     refine⟨k+1,by omega,by go_num,aa ?_,hb2⟩
     intro y hy;rw[aN,HX.out]at hy;rcases aA.1 hy with hy | hy
     ·exact HF.out y hy
     ·simp at hy;subst hy;exact HQ.out
    case measure=>simp[intOf];omega
   | true=>
    go_wp2
    go_ret
    exact⟨hb2,.inr ⟨k,rfl,hlt,HF.out,fun y hy=>by rw[HX.out]at hy;injection hy with hy;subst hy;exact HQ.out⟩⟩
  ·obtain rfl:k=l.length:=by omega
   go_wp2
   go_ret
   exact⟨hB,.inl ⟨rfl,by have:=HF.out;rwa [aL]at this⟩⟩
theorem jU (l:List Con) (u:Value) (f:FuncId) (caps:Array Value) (Pd:Con→Bool) (w:World) (h:RRow conC 7 w w.heap.size u l) (hp:PredC f caps Pd w l):
  Calls Tryz.prog 73 #[u,.func (.func f) #[] caps] w fun e w'=>e= .returned (.bool (l.any Pd))∧Below w.heap.size w w':=by
 have HR:=aa h;have HP:=aa hp;clear h hp;go_enter Tryz.func73,Tryz.ntmps73
 go_wp2_with fail
 refine(mr l u f caps Pd _ HR.out HP.out).mono ?_
 rintro e w1 ⟨hb1,⟨rfl,hF⟩ | ⟨k,rfl,hk,hF,hT⟩⟩
 ·have HL:Hid (l.any Pd=false):=aa (by rw[cM];intro x hx;rw[hF x hx];simp)
  clear hF;go_wp2
  go_ret
  exact⟨by rw[HL.out];rfl,hb1⟩
 ·have HL:Hid (l.any Pd=true):=aa (by rw[List.any_eq_true];exact⟨l[k],bY hk,hT _ (am hk)⟩)
  clear hF hT;go_wp2
  go_ret
  exact⟨by rw[HL.out];first | rfl | (simp;done),hb1⟩
theorem pD (a b:Con) (z:Nat) (w:World) (ha:chkCon a=0) (hb:chkCon b=0) (hz:w.heap[z]? =some (.cells #[.int .i64 a.fr,.int .i64 a.tt,.int .i64 a.st,.int .i64 a.en,.int .i64 a.ra,.int .i64 a.rg,.int .i64 a.lo] 95 (0,0))):Calls Tryz.prog 74 #[.agg #[.int .i64 b.fr,.int .i64 b.tt,.int .i64 b.st,.int .i64 b.en,.int .i64 b.ra,.int .i64 b.rg,.int .i64 b.lo],.pointer (some ⟨z,0,none⟩)] w fun e w'=>e= .returned (.bool (ovl a b))∧Below w.heap.size w w':=by
 have cz:=fun o=>cU hz o
 have hzl:z<w.heap.size:=(ai.1 hz).1;obtain⟨r,hr⟩:=cR (ovl a b)
 have HR:=aa hr;have HA:=aa ha;have HB:=aa hb;rw[hr];clear hr hz ha hb;go_enter Tryz.func74,Tryz.ntmps74
 go_wp2_with fail
 refine(ovl_any a b _ HA.out HB.out).mono ?_
 rw[HR.out];rintro e w1 ⟨rfl,hb1⟩;go_wp2
 go_ret
 exact⟨rfl,cZ⟩
end
section
def segs (s:Nat):List Int:=if h:s=0 then[]else((min s 16:Nat):Int)::segs (s-16)
termination_by s
decreasing_by omega
theorem i5:segs 0=[]:=by unfold segs;rfl
theorem iq {s:Nat} (h:0<s):segs s=((min s 16:Nat):Int)::segs (s-16):=by
 conv=>lhs;unfold segs
 rw[dif_neg (by omega)]
def tickS (c:Con) (n:Int):Int:=(n+8+c.ra-1) / c.ra
def passS (c:Con) (s:Nat):Int:=((segs s).map (tickS c)).sum
def durS (c:Con) (s:Nat):Int:=passS c s+c.lo*(2*c.rg+1+tickS c 16)
theorem gM {c:Con} {n:Int} (h:1≤c.ra) (h2:c.ra≤1000) (n0:1≤n) (n1:n≤16):1≤tickS c n∧tickS c n≤24:=by
 unfold tickS;refine⟨(Int.le_ediv_iff_mul_le (by omega)).2 (by omega),Int.le_of_lt_add_one ((Int.ediv_lt_iff_lt_mul (by omega)).2 ?_)⟩
 have:(24+1)*c.ra=c.ra*25:=by rw[Int.mul_comm];rfl
 omega
theorem mt:∀(s:Nat),∀n∈segs s,1≤n∧n≤16:=fun s=>by
 induction s using Nat.strongRecOn with
 | ind s ih=>
  intro n hn;rcases bC s with z | z
  ·subst z;rw[i5]at hn;cases hn
  ·rw[iq z]at hn
   rcases aG.1 hn with rfl | hn
   ·omega
   ·exact ih (s-16) (by omega) n hn
theorem mu:∀(s:Nat),(segs s).length≤s:=fun s=>by
 induction s using Nat.strongRecOn with
 | ind s ih=>
  rcases bC s with z | z
  ·subst z;rw[i5];exact aj _
  ·rw[iq z,aI]
   have:=ih (s-16) (by omega);omega
theorem jJ {c:Con} (h:1≤c.ra) (h2:c.ra≤1000):∀(l:List Int),(∀n∈l,1≤n∧n≤16)→(l.length:Int)≤(l.map (tickS c)).sum∧(l.map (tickS c)).sum≤24*l.length
 | [],_=>by simp
 | n::l,hl=>by
  have h3:=hl n (by simp);have h4:=gM h h2 h3.1 h3.2;have h5:=jJ h h2 l (fun x hx=>hl x (by simp[hx]));simp only[List.map_cons,List.sum_cons,aI];omega
theorem mw (c:Con) (n:Int) (w:World) (h:1≤c.ra) (h2:c.ra≤1000) (n0:0≤n) (n1:n≤16):
  Calls Tryz.prog 190 #[.agg #[.int .i64 c.fr,.int .i64 c.tt,.int .i64 c.st,.int .i64 c.en,.int .i64 c.ra,.int .i64 c.rg,.int .i64 c.lo],.int .i64 n] w fun e w'=>e= .returned (.int .i64 (tickS c n))∧Below w.heap.size w w':=by
 obtain⟨r,hr⟩:=cR c.ra
 have hq:tickS c n=(n+8+r-1) / r:=by unfold tickS;rw[hr]
 rw[hr]at h h2 ⊢;obtain⟨q,hq2⟩:=cR ((n+8+r-1) / r)
 have q0:0≤q:=by rw[←hq2];exact Int.ediv_nonneg (by omega) (by omega)
 have q1:q<2000:=by rw[←hq2];exact(Int.ediv_lt_iff_lt_mul (by omega)).2 (by have:2000*r=r*2000:=Int.mul_comm _ _;omega)
 have hd:(n+8+r-1).tdiv r=q:=by rw[Int.tdiv_eq_ediv_of_nonneg (by omega)];exact hq2
 rw[hq,hq2];have r0:¬r=0:=by omega
 clear hq hr;go_enter Tryz.func190,Tryz.ntmps190
 go_wp2
 go_ret
 exact⟨rfl,cZ⟩
end
section
open Go.Shelf
abbrev Sg:={n:Int // 1≤n∧n≤16}
theorem my (F:Fence) (n:Nat) (h:F.fn 207) (hro:F.round=none) (s:Int) (w:World):
  CallsIn F n Tryz.prog 207 #[.int .i64 s] w fun e W'=>e= .returned (.func (.func 214) #[] #[.pointer (some ⟨w.heap.size,0,none⟩)])∧W'=w.alloc (.cells #[.int .i64 s] 3):=by
 refine callsIn_of_wp Tryz.func207 rfl h ?_ hro
 simp only[Tryz.ntmps207,bJ,aI,bE,Nat.reduceAdd,Nat.reduceSub,bS,bT,cH,bW,br,a8];gi_wp2
 refine bodyPost_ret (results_tmp rfl _ _ _) rfl ?_
 exact⟨rfl,rfl⟩
theorem lS (F:Fence) (n:Nat) (h8:F.fn 214) (hro:F.round=none) (hn:1≤n) (l Bn n₀ z:Nat) (s:Nat) (hs:s≤65536) (hb:Bn<n₀) (hbz:Bn≠z) (J Jx:List Sg→World→Prop)
  (hY:∀pre x W,J pre W→pre.length<(segs s).length→YieldAt F (n-1) Tryz.prog l #[.int .i64 x.1] W fun e W'=>
   (e= .returned (.bool true)∧J (pre++[x]) W'∧KpX n₀ z W W')∨(e= .returned (.bool false)∧Jx (pre++[x]) W'))
  (W:World) (hBn:W.cell? ⟨Bn,0,none⟩=some (.int .i64 (s:Int))) (h0:J [] W):
  CallsIn F n Tryz.prog 214 #[.func (.yield l) #[] #[],.pointer (some ⟨Bn,0,none⟩)] W fun e W'=>(∃v,e= .returned v)∧
   ((∃ys,ys.map (·.1)=segs s∧J ys W')∨(∃pre,True∧Jx pre W')):=by
 refine callsIn_of_wp Tryz.func214 rfl h8 ?_ hro
 simp only[Tryz.ntmps214,bJ,aI,bE,Nat.reduceAdd,Nat.reduceSub,bS,bT,cH,bW,br,a8];gi_wp2
 gi_loopw [3] (fun i w1=>∃(v:Int) (pre:List Sg),-16≤v∧v≤s∧i= .int .i64 v∧Hid (segs s=pre.map (·.1)++segs v.toNat)∧J pre w1∧KpX n₀ z W w1) (fun i _=>(intOf i).toNat)
 case atStart=>exact⟨s,[],by omega,by omega,rfl,aa (by rw[bN];rfl),h0,KpX.refl _ _ _⟩
 case round=>
  obtain⟨v,pre,v0,v1,rfl,HS,hJ,hB⟩:=hrel;by_cases hlt:0<v
  ·have hSK:=iq (s:=v.toNat) (by omega)
   obtain⟨x,hx⟩:∃x:Sg,((min v.toNat 16:Nat):Int)=x.1:=⟨⟨((min v.toNat 16:Nat):Int),by have:min v.toNat 16≥1:=Nat.le_min.2 ⟨by omega,by omega⟩;omega,by have:min v.toNat 16≤16:=Nat.min_le_right _ _;omega⟩,rfl⟩
   have hx2:min v 16=x.1:=by omega
   have HS2:Hid (segs s=(pre++[x]).map (·.1)++segs (v-16).toNat):=aa (by rw[HS.out,hSK,hx,show v.toNat-16=(v-16).toNat by omega];simp);have hpl:pre.length<(segs s).length:=by rw[HS2.out];simp only[ay,aZ,aI,bE];omega
   have HX2:=aa hx2;clear hSK hx;gi_wp2
   obtain⟨fn,tmps,assign,body,hy,hR⟩:=hY pre x _ hJ hpl;try dsimp only at hy
   rw[hy];gi_wp2
   refine hR.mono ?_
   rintro e W3 (⟨rfl,hJ3,hk3⟩ | ⟨rfl,hJx3⟩)
   ·gi_wp2
    go_roundw
    case rel=>exact⟨v-16,pre++[x],by omega,by omega,rfl,HS2,hJ3,hB.trans hk3⟩
    case measure=>simp[intOf];omega
   ·gi_wp2
    refine bodyPost_ret (results_none rfl _ _ _) rfl ?_
    exact⟨⟨_,rfl⟩,.inr ⟨_,trivial,hJx3⟩⟩
  ·have hz:v.toNat=0:=by omega
   have HE:Hid (segs s=pre.map (·.1)):=aa (by rw[HS.out,hz,i5,cK]);clear hz;gi_wp2
   go_end0
   exact⟨⟨_,rfl⟩,.inl ⟨_,HE.out.symm,hJ⟩⟩
theorem jV (F:Fence) (n:Nat) (h8:F.fn 214) (hro:F.round=none) (hn:1≤n) (Bn n₀ z:Nat) (s:Nat) (hs:s≤65536) (w:World) (hb:Bn<n₀) (hbz:Bn≠z) (hbw:Bn<w.heap.size)
  (hc:w.cell? ⟨Bn,0,none⟩=some (.int .i64 (s:Int))):
  SeqStopsK F n Tryz.prog 214 #[.pointer (some ⟨Bn,0,none⟩)] (fun x:Sg=>#[Value.int .i64 x.1]) (KpX n₀ z) (fun ys=>ys.map (·.1)=segs s) (fun _=>True) (segs s).length w:=fun l J Jx W hW _ _ hY h0=>
 lS F n h8 hro hn l Bn n₀ z s hs hb hbz J Jx hY W ((hW.cell (p:=⟨Bn,0,none⟩) (by simp;omega)).trans hc) h0
end
section
open Go.Shelf
theorem pass_any (c:Con) (s:Nat) (w:World) (h:1≤c.ra) (h2:c.ra≤1000) (hs:s≤65536):
  Calls Tryz.prog 189 #[.agg #[.int .i64 c.fr,.int .i64 c.tt,.int .i64 c.st,.int .i64 c.en,.int .i64 c.ra,.int .i64 c.rg,.int .i64 c.lo],.int .i64 (s:Int)] w fun e w'=>e= .returned (.int .i64 (passS c s))∧Below w.heap.size w w':=by
 refine(callsIn_wide (n:=12)).1 ?_
 refine callsIn_of_wp_marks Tryz.func189 rfl trivial ?_ rfl
 simp only[Tryz.ntmps189,bJ,aI,bE,Nat.reduceAdd,Nat.reduceSub,bS,bT,cH,bW,br,a8];gi_wp2_with fail
 refine⟨trivial,(my Fence.wide _ trivial rfl _ _).mono ?_⟩
 rintro e w2 ⟨rfl,rfl⟩;obtain⟨W0,hW0⟩:=cR (((w.alloc (.cells #[.int .i64 c.fr,.int .i64 c.tt,.int .i64 c.st,.int .i64 c.en,.int .i64 c.ra,.int .i64 c.rg,.int .i64 c.lo] 95)).alloc (.cells #[.int .i64 0] 3)).alloc (.cells #[.int .i64 (s:Int)] 3))
 have hs0:W0.heap.size=w.heap.size+3:=by rw[←hW0];simp
 have hB0:Below w.heap.size w W0:=by rw[←hW0];exact cZ
 have hout0:Boxed W0 (w.heap.size+1) 3 (.int .i64 0):=by rw[←hW0];exact(ak _ _ _ (by simp)).trans (cY (by simp))
 have hx0:W0.heap[w.heap.size]? =some (.cells #[.int .i64 c.fr,.int .i64 c.tt,.int .i64 c.st,.int .i64 c.en,.int .i64 c.ra,.int .i64 c.rg,.int .i64 c.lo] 95 (0,0)):=by rw[←hW0];exact(ak _ _ _ (by simp;omega)).trans ((ak _ _ _ (by simp)).trans cW)
 have hx1:W0.heap[w.heap.size+2]? =some (.cells #[.int .i64 (s:Int)] 3 (0,0)):=by rw[←hW0];exact cY (by simp)
 have cs0:W0.cell? ⟨w.heap.size+2,0,none⟩=some (.int .i64 (s:Int)):=cU hx1 0;have HX0:=aa hx0;have hsz:w.heap.size+2<W0.heap.size:=by omega
 have e2:((w.alloc (.cells #[.int .i64 c.fr,.int .i64 c.tt,.int .i64 c.st,.int .i64 c.en,.int .i64 c.ra,.int .i64 c.rg,.int .i64 c.lo] 95)).alloc (.cells #[.int .i64 0] 3)).heap.size=w.heap.size+2:=by simp
 rw[e2,hW0];have HS0:=aa hs0;clear hW0 hs0 e2 hx0 hx1;gi_wp2
 refine wpIn_rangeFunc_ownH rfl (by omega) (gf:=214) (lb:=#[.pointer (some ⟨w.heap.size+2,0,none⟩)]) rfl trivial (enters_of Tryz.func214 (by kernel_rfl) rfl)
  (jV Fence.wide 11 trivial rfl (by omega) (w.heap.size+2) W0.heap.size (w.heap.size+1) s hs W0 hsz (by omega) hsz cs0) (fun h k=>h.trans k) (fun W l o o' hl _ _ _=>KpX.putObj W o' hl) (ap _ _) (fun _=>rfl)
  (fun pre W=>Boxed W (w.heap.size+1) 3 (.int .i64 ((pre.map (·.1)).map (tickS c)).sum)∧(W.heap[w.heap.size]? =some (.cells #[.int .i64 c.fr,.int .i64 c.tt,.int .i64 c.st,.int .i64 c.en,.int .i64 c.ra,.int .i64 c.rg,.int .i64 c.lo] 95 (0,0))∧Below w.heap.size w W∧W0.heap.size≤W.heap.size))
  (fun _ _ _=>False) ?hI (fun _ _ _ _ _ hs _ _=>hs) ?h0
  (fun x a' W=>a'={tmps:=#[.agg #[.int .i64 c.fr,.int .i64 c.tt,.int .i64 c.st,.int .i64 c.en,.int .i64 c.ra,.int .i64 c.rg,.int .i64 c.lo],.int .i64 (s:Int),.pointer (some ⟨w.heap.size,0,none⟩),undef,.int .i64 0,.pointer (some ⟨w.heap.size+1,0,none⟩),.int .i64 x.1,.int .i64 (s:Int),.func (.func 214) #[] #[.pointer (some ⟨w.heap.size+2,0,none⟩)],.int .i64 x.1,undef,undef,undef,undef,undef,undef],defers:=[]}) ?hA ?assign ?body ?done ?stop
 case hI=>
  exact OwnFrom.and (fun s' A C row hs' hg hr'=>(ownC hg hr' _ _ _ _ hs').trans hs') (OwnFrom.and (fun s' A C row hs' hg hr'=>(ownC hg hr' _ _ _ _ hs').trans hs') (OwnFrom.and (ownFrom_below (aj _) hB0.size) (fun s' A C row hs' hg hr'=>aK hs' hg.size)))
 case h0=>exact⟨hout0,HX0.out,hB0,aj _⟩
 case hA=>exact fun x a' s' A C row hs' hg hr'=>hs'
 case assign=>
  rintro l pre x W K' ⟨h1,h3,hB,hW0⟩ hK';gi_wp2
  exact hK' _ _ (KeepsFrom.refl _ _) (KpX.refl _ _ _) ⟨h1,h3,hB,hW0⟩ rfl
 case body=>
  rintro l pre x a' W hll ⟨q,hq⟩ ⟨h1,h3,hB,hW0⟩ rfl hlt;obtain⟨v,hv⟩:=cR (((pre.map (·.1)).map (tickS c)).sum)
  have hvb:=jJ h h2 (pre.map (·.1)) (fun n hn=>by obtain⟨y,hy,rfl⟩:=bu.1 hn;exact y.2);rw[hv,aZ]at hvb;have hpl:pre.length≤65536:=by have:=mu s;omega
  rw[hv]at h1;have HV:=aa hv;have hx1:=x.2.1;have hx2:=x.2.2;obtain⟨t,ht⟩:=cR (tickS c x.1)
  have htb:=gM h h2 hx1 hx2;rw[ht]at htb;have HT:=aa ht;have v0:0≤v:=by omega
  have v1:v≤2000000:=by omega
  clear hv ht hvb;have c1:=h1.cell;have c2:∀o,W.cell? ⟨w.heap.size,o,none⟩=#[.int .i64 c.fr,.int .i64 c.tt,.int .i64 c.st,.int .i64 c.en,.int .i64 c.ra,.int .i64 c.rg,.int .i64 c.lo][o]?:=fun o=>cU h3 o
  have l1:=h1.lt;have l0:w.heap.size<W.heap.size:=by omega
  have hS:∀V:World,(∀q o,q<W.heap.size→V.cell? ⟨q,o,none⟩=W.cell? ⟨q,o,none⟩)→V.cell? ⟨w.heap.size+1,0,none⟩=some (.int .i64 v)∧∀o,V.cell? ⟨w.heap.size,o,none⟩=#[.int .i64 c.fr,.int .i64 c.tt,.int .i64 c.st,.int .i64 c.en,.int .i64 c.ra,.int .i64 c.rg,.int .i64 c.lo][o]?:=fun V hV=>⟨(hV _ _ l1).trans c1,fun o=>(hV _ _ l0).trans (c2 o)⟩
  have HSS:=aa hS;clear hS;gi_wp2
  refine dN (fun V=>V.cell? ⟨w.heap.size+1,0,none⟩=some (.int .i64 v)∧∀o,V.cell? ⟨w.heap.size,o,none⟩=#[.int .i64 c.fr,.int .i64 c.tt,.int .i64 c.st,.int .i64 c.en,.int .i64 c.ra,.int .i64 c.rg,.int .i64 c.lo][o]?) [1,1,0,2,0,3] [0,1,2,3,4,5] (by kernel_rfl) (by kernel_rfl) ?_ ?_
  ·exact⟨c1,c2⟩
  (iterate 3 (refine dP rfl (by decide) (by rfl) (fun w1=>by rfl) (fun w1 hS=>by(try(have hS:=hS rfl;obtain hS:=hS;repeat (obtain⟨_,hS⟩:=hS)));go_simp;rfl) ?_;simp only[Act.put,ae,af,ag]))
  (refine gm rfl rfl (by rfl) (fun K hK=>?_);go_simp)
  refine⟨trivial,CallsIn.inRound l (callsIn_wide.2 ((mw c x.1 W.drew h h2 (by omega) hx2).mono ?_))⟩
  rw[HT.out];rintro e w2 ⟨rfl,hb2⟩;have hb2':Below W.heap.size W w2:=⟨hb2.os,hb2.tape,hb2.output,hb2.size,hb2.block⟩
  have z2:W.heap.size≤w2.heap.size:=hb2'.size
  (refine hK _ _ (by exact HSS.out _ (fun q o hq=>hb2'.cell (p:=⟨q,o,none⟩) hq)) ?_;clear hK K;(try simp only[Act.put,ae,af,ag]))
  (iterate 1 (refine dP rfl (by decide) (by rfl) (fun w1=>by rfl) (fun w1 hS=>by(try(have hS:=hS rfl;obtain hS:=hS;repeat (obtain⟨_,hS⟩:=hS)));go_simp;rfl) ?_;simp only[Act.put,ae,af,ag]))
  have d1:Boxed w2 (w.heap.size+1) 3 (.int .i64 v):=(hb2'.block _ l1).trans h1;have e1c:=d1.cell;have f1:=d1.frozen;have HD1:=aa d1;clear d1
  (refine fi rfl rfl (by rfl) (fun K hK=>?_);go_simp)
  (refine hK _ _ ?_;clear hK K;(try simp only[Act.put,ae,af,ag]))
  refine ev ?_
  gi_wp2
  have hh:∀k,k<W.heap.size→k≠w.heap.size+1→∀u:Value,(w2.setCell ⟨w.heap.size+1,0,none⟩ u).heap[k]? =W.heap[k]?:=fun k hk hne u=>(bD _ _ _ _ hne).trans (hb2'.block k hk)
  refine⟨⟨by simp;omega,fun k o hk ho hc'=>?_⟩,⟨by simp;omega,fun k hk hne=>hh k (by omega) hne _⟩,?_,(hh _ (by omega) (by omega) _).trans h3,bset (dq hB hb2') (by show w.heap.size≤w.heap.size+1;omega),by simp;omega⟩
  ·have hkl:k<W.heap.size:=(ai.1 ho).1
   rw[hh k hkl (by omega)];exact ho
  ·rw[bL,bL,List.sum_append,HV.out]
   have e9:(List.map (tickS c) (List.map (·.1) [x])).sum=t:=by simp[HT.out]
   have e8:IntKind.i64.wrap (v+t)=v+t:=by rw[ax];omega
   rw[e9,e8];exact HD1.out.set _
 case done=>
  rintro D ys W hD hys ⟨h1,h3,hB,hW0⟩ hK';have c1:=h1.cell;gi_wp2
  refine⟨by simp,.inl ⟨_,_,rfl,run_takeDeferred hK',?_⟩⟩
  refine⟨_,results_tmp rfl _ _ _,?_,hB.grown (grownBy_putObj' W D _) hB.size (fun q hq=>by injection hq with hq;omega)⟩
  rfl
 case stop=>
  rintro D c' pre W _ _ h _;exact h.elim
end
section
structure CF (c:Con):Prop where
 fr0:0≤c.fr
 fr1:c.fr≤15
 tt0:0≤c.tt
 tt1:c.tt≤15
 ra0:1≤c.ra
 ra1:c.ra≤1000
 rg0:1≤c.rg
 rg1:c.rg≤1048576
 lo0:0≤c.lo
 lo1:c.lo≤16
 ne:c.fr≠c.tt
 st0:0≤c.st
 en0:c.st<c.en
 en1:c.en≤1099511627776-2*c.rg
theorem ee {c:Con} (h:chkCon c=0):CF c:=by
 unfold chkCon at h;split at h
 ·cases h
 ·rename_i h1
  split at h
  ·cases h
  ·rename_i h2
   split at h
   ·cases h
   ·rename_i h3
    have g:∀n lo hi:Int,¬wth n lo hi=false→lo≤n∧n≤hi:=fun n lo hi hz=>jI.1 (by simpa using hz)
    have g1:=g _ _ _ (fun z=>h1 (.inl z));have g2:=g _ _ _ (fun z=>h1 (.inr (.inl z)));have g3:=g _ _ _ (fun z=>h1 (.inr (.inr (.inl z))));have g4:=g _ _ _ (fun z=>h1 (.inr (.inr (.inr (.inl z)))));have g5:=g _ _ _ (fun z=>h1 (.inr (.inr (.inr (.inr z)))));exact⟨g1.1,g1.2,g2.1,g2.2,g3.1,g3.2,g4.1,g4.2,g5.1,g5.2,h2,by omega,by omega,by omega⟩
theorem lj {c:Con} (hc:CF c) (s:Nat) (hs:s≤65536):0≤passS c s∧passS c s≤1572864:=by
 have h1:=jJ hc.ra0 hc.ra1 (segs s) (mt s);have h2:=mu s;unfold passS;omega
theorem pE {c:Con} (hc:CF c) {s:Nat} (hs:0<s):1≤passS c s:=by
 have h1:=jJ hc.ra0 hc.ra1 (segs s) (mt s);have h2:0<(segs s).length:=by rw[iq hs];simp
 unfold passS;omega
theorem lo_bnd {c:Con} (hc:CF c) {X:Int} (h0:0≤X) (h1:X≤3000000):0≤c.lo*X∧c.lo*X≤48000000:=by
 have a:=hc.lo0;have b:=hc.lo1;refine⟨Int.mul_nonneg a h0,?_⟩
 have:c.lo*X≤16*X:=Int.mul_le_mul_of_nonneg_right b h0;omega
theorem fM {c:Con} (hc:CF c) {s:Nat} (hs:0<s) (hs2:s≤65536):1≤durS c s∧durS c s≤50000000:=by
 have h1:=pE hc hs;have h2:=lj hc s hs2;have h3:=gM hc.ra0 hc.ra1 (n:=16) (by omega) (by omega);have h4:=hc.rg0;have h5:=hc.rg1;have h6:=lo_bnd hc (X:=2*c.rg+1+tickS c 16) (by omega) (by omega);unfold durS;omega
theorem oM (c:Con) (s:Nat) (w:World) (hc:CF c) (hs:s≤65536):
  Calls Tryz.prog 156 #[.agg #[.int .i64 c.fr,.int .i64 c.tt,.int .i64 c.st,.int .i64 c.en,.int .i64 c.ra,.int .i64 c.rg,.int .i64 c.lo],.int .i64 (s:Int)] w fun e w'=>e= .returned (.int .i64 (durS c s))∧Below w.heap.size w w':=by
 have h2:=lj hc s hs;have h3:=gM hc.ra0 hc.ra1 (n:=16) (by omega) (by omega);have h4:=hc.rg0;have h5:=hc.rg1;have h6:=lo_bnd hc (X:=2*c.rg+1+tickS c 16) (by omega) (by omega);obtain⟨D,hD⟩:=cR (durS c s)
 have hD2:D=passS c s+c.lo*(2*c.rg+1+tickS c 16):=by rw[←hD];rfl
 rw[hD];obtain⟨P,hP⟩:=cR (passS c s)
 obtain⟨T,hT⟩:=cR (tickS c 16)
 rw[hP]at h2 hD2;rw[hT]at h3 h6 hD2;have w1_:IntKind.i64.wrap (2*c.rg)=2*c.rg:=by rw[ax];omega
 have w2_:IntKind.i64.wrap (2*c.rg+1)=2*c.rg+1:=by rw[ax];omega
 have w3_:IntKind.i64.wrap (2*c.rg+1+T)=2*c.rg+1+T:=by rw[ax];omega
 have w4_:IntKind.i64.wrap (c.lo*(2*c.rg+1+T))=c.lo*(2*c.rg+1+T):=by rw[ax];omega
 have w5_:IntKind.i64.wrap (P+c.lo*(2*c.rg+1+T))=D:=by rw[ax];omega
 have HP:=aa hP;have HT:=aa hT;have HC:=aa hc;clear hD hD2 hP hT h2 h3 h4 h5 h6 hc;go_enter Tryz.func156,Tryz.ntmps156
 go_upto_region 1 with fail
 obtain⟨w1,hw1⟩:=cR (w.alloc (.cells #[.int .i64 c.fr,.int .i64 c.tt,.int .i64 c.st,.int .i64 c.en,.int .i64 c.ra,.int .i64 c.rg,.int .i64 c.lo] 95))
 rw[hw1];have B1:Below w.heap.size w w1:=by rw[←hw1];exact cZ
 have X1:w1.heap[w.heap.size]? =some (.cells #[.int .i64 c.fr,.int .i64 c.tt,.int .i64 c.st,.int .i64 c.en,.int .i64 c.ra,.int .i64 c.rg,.int .i64 c.lo] 95 (0,0)):=by rw[←hw1];exact cW
 have z1:w.heap.size<w1.heap.size:=(ai.1 X1).1;have cb:=fun o=>cU X1 o
 have HX1:=aa X1;clear X1 hw1;refine dd (fun V=>Below (w1).heap.size (w1) V) [1,0,2,0,1,0,1,0,0,1,2,0,0,0,0] [0,1,3,4,5,6,7,8,9,2,10,11,12,13,14] (by kernel_rfl) (by kernel_rfl) ?_ ?_
 case refine_1=>exact cZ
 (iterate 9 (first | (refine cX rfl (by decide) (by rfl) (fun w1 hS=>by(try(obtain⟨_,_⟩:=bcell (hS rfl)));go_simp;rfl) ?_;simp only[Act.put,ae,af,ag]) | (refine dm rfl (by decide) (by rfl) ?_;simp only[Act.put,ae,af,ag])))
 (refine dA rfl rfl (by rfl) (fun K hK=>?_);go_simp)
 refine(pass_any c s _ HC.out.ra0 HC.out.ra1 hs).mono ?_
 rw[HP.out];rintro e wc7 ⟨rfl,hbc7⟩
 (refine hK _ _ (by exact cZ) ?_;clear hK K;(try simp only[Act.put,ae,af,ag]))
 (refine dA rfl rfl (by rfl) (fun K hK=>?_);go_simp)
 refine(mw c 16 _ HC.out.ra0 HC.out.ra1 (by omega) (by omega)).mono ?_
 rw[HT.out];rintro e wc15 ⟨rfl,hbc15⟩
 (refine hK _ _ (by exact cZ) ?_;clear hK K;(try simp only[Act.put,ae,af,ag]))
 (iterate 4 (first | (refine cX rfl (by decide) (by rfl) (fun w1 hS=>by(try(obtain⟨_,_⟩:=bcell (hS rfl)));go_simp;rfl) ?_;simp only[Act.put,ae,af,ag]) | (refine dm rfl (by decide) (by rfl) ?_;simp only[Act.put,ae,af,ag])))
 refine du ?_
 go_wp2
 go_ret
 refine⟨?_,cZ⟩
 simp[*]
end
section
theorem mz (c:Con) (s:Nat) (w:World) (hc:chkCon c=0) (s1:1≤s) (hs:s≤65536):
  Calls Tryz.prog 138 #[.agg #[.int .i64 c.fr,.int .i64 c.tt,.int .i64 c.st,.int .i64 c.en,.int .i64 c.ra,.int .i64 c.rg,.int .i64 c.lo],.int .i64 (s:Int)] w fun e w'=>e= .returned (.int .i64 0)∧Below w.heap.size w w':=by
 have HC:=aa hc;have HW:Hid (wth (s:Int) 1 65536=true):=aa (jI.2 ⟨by omega,by omega⟩);clear hc;go_enter Tryz.func138,Tryz.ntmps138
 go_upto_region 1 with fail
 obtain⟨w1,hw1⟩:=cR (w.alloc (.cells #[.int .i64 c.fr,.int .i64 c.tt,.int .i64 c.st,.int .i64 c.en,.int .i64 c.ra,.int .i64 c.rg,.int .i64 c.lo] 95))
 rw[hw1];have B1:Below w.heap.size w w1:=by rw[←hw1];exact cZ
 have X1:w1.heap[w.heap.size]? =some (.cells #[.int .i64 c.fr,.int .i64 c.tt,.int .i64 c.st,.int .i64 c.en,.int .i64 c.ra,.int .i64 c.rg,.int .i64 c.lo] 95 (0,0)):=by rw[←hw1];exact cW
 have z1:w.heap.size<w1.heap.size:=(ai.1 X1).1;have cb:=fun o=>cU X1 o
 have HX1:=aa X1;clear X1 hw1;go_wp2_with fail
 refine(eH c _).mono ?_
 rw[HC.out];rintro e w2 ⟨rfl,hb2⟩;have B2:Below w.heap.size w w2:=dq B1 hb2;have HX2:Hid (w2.heap[w.heap.size]? =some (.cells #[.int .i64 c.fr,.int .i64 c.tt,.int .i64 c.st,.int .i64 c.en,.int .i64 c.ra,.int .i64 c.rg,.int .i64 c.lo] 95 (0,0))):=aa ((hb2.block _ z1).trans HX1.out);have z2:w.heap.size<w2.heap.size:=by have:=hb2.size;omega
 clear hb2 cb;have cb:=fun o=>cU HX2.out o
 go_wp2_with fail
 refine(dE (s:Int) 1 65536 _).mono ?_
 rw[HW.out];rintro e w3 ⟨rfl,rfl⟩;go_wp2
 go_ret
 exact⟨rfl,B2⟩
theorem Dur_ok (c:Con) (s:Nat) (w:World) (hc:chkCon c=0) (s1:1≤s) (hs:s≤65536):
  Calls Tryz.prog 117 #[.agg #[.int .i64 c.fr,.int .i64 c.tt,.int .i64 c.st,.int .i64 c.en,.int .i64 c.ra,.int .i64 c.rg,.int .i64 c.lo],.int .i64 (s:Int)] w fun e w'=>e= .returned (.tuple #[.int .i64 (durS c s),.int .i64 0])∧Below w.heap.size w w':=by
 obtain⟨D,hD⟩:=cR (durS c s)
 have HD:=aa hD;have HC:=aa hc;rw[hD];clear hc hD;go_enter Tryz.func117,Tryz.ntmps117
 go_upto_region 1 with fail
 obtain⟨w1,hw1⟩:=cR (w.alloc (.cells #[.int .i64 c.fr,.int .i64 c.tt,.int .i64 c.st,.int .i64 c.en,.int .i64 c.ra,.int .i64 c.rg,.int .i64 c.lo] 95))
 rw[hw1];have B1:Below w.heap.size w w1:=by rw[←hw1];exact cZ
 have X1:w1.heap[w.heap.size]? =some (.cells #[.int .i64 c.fr,.int .i64 c.tt,.int .i64 c.st,.int .i64 c.en,.int .i64 c.ra,.int .i64 c.rg,.int .i64 c.lo] 95 (0,0)):=by rw[←hw1];exact cW
 have z1:w.heap.size<w1.heap.size:=(ai.1 X1).1;have cb:=fun o=>cU X1 o
 have HX1:=aa X1;clear X1 hw1;go_wp2_with fail
 refine(mz c s _ HC.out s1 hs).mono ?_
 rintro e w2 ⟨rfl,hb2⟩;have B2:Below w.heap.size w w2:=dq B1 hb2;have HX2:Hid (w2.heap[w.heap.size]? =some (.cells #[.int .i64 c.fr,.int .i64 c.tt,.int .i64 c.st,.int .i64 c.en,.int .i64 c.ra,.int .i64 c.rg,.int .i64 c.lo] 95 (0,0))):=aa ((hb2.block _ z1).trans HX1.out);have z2:w.heap.size<w2.heap.size:=by have:=hb2.size;omega
 clear hb2 cb;have cb:=fun o=>cU HX2.out o
 go_wp2_with fail
 refine(oM c s _ (ee HC.out) hs).mono ?_
 rw[HD.out];rintro e w3 ⟨rfl,hb3⟩;have B3:Below w.heap.size w w3:=dq B2 hb3;go_wp2
 go_ret2
 exact⟨rfl,B3⟩
end
end Go.Proofs.YtfnciigbbolckaaGreat
