/- Part 10 of the proof about mailboattop.TopOthers. No condition. -/
import Derived.Test.YtfnciigbbolckaaGreatQ00
import Derived.Test.YtfnciigbbolckaaGreatQ05
import Derived.Test.YtfnciigbbolckaaGreatQ09
set_option linter.unusedVariables false
set_option linter.unusedSimpArgs false
set_option maxRecDepth 100000
set_option maxHeartbeats 64000000
namespace Go.Proofs.YtfnciigbbolckaaGreat
open Go Go.RowKit Iv
attribute [local go_sem] Oper.semAt_some
attribute [local go_sem] pw gu B_app pv B_get B_toList
section
theorem jP:(Tryz.prog.info? 53).map (fun i=>(i.zero,i.size,i.bytes))=some (some (.agg #[.int .i64 0,.int .i64 0,.int .i64 0,.int .i64 0]),4,32):=by kernel_rfl
theorem jQ:(Tryz.prog.info? 68).map (fun i=>(i.zero,i.size,i.bytes))=some (some (.agg #[.int .i64 0,.int .i64 0,.int .i64 0,.int .i64 0]),4,32):=by kernel_rfl
theorem iF:(Tryz.prog.info? 75).map (fun i=>(i.zero,i.size,i.bytes))=some (some (.agg #[.int .i64 0,.int .i64 0,.int .i64 0,.int .i64 0,.int .i64 0]),5,40):=by kernel_rfl
theorem lX:(Tryz.prog.info? 41).map (fun i=>(i.zero,i.size,i.bytes))=some (some (.agg #[.int .i64 0,.int .i64 0,.int .i64 0,.int .i64 0,.int .i64 0,.int .i64 0,.int .i64 0,.bool false,.slice none 0 0,.int .i64 0,.int .i64 0]),11,104):=by kernel_rfl
theorem fL {α:Type} {enc:α→List Value} {k:Nat} (h0:0<k) (hk:∀x,(enc x).length=k) {w:World} {bb o:Nat} {l:List α} (hc:∀(i:Nat) (x:α),l[i]? =some x→∀(j:Nat) (u:Value),(enc x)[j]? =some u→w.cell? ⟨bb,o+i*k+j,none⟩=some u):∀j u,(l.flatMap enc)[j]? =some u→w.cell? ((⟨bb,o,none⟩:Addr).add j)=some u:=by
 intro j u hu;obtain⟨i,q,x,rfl,hx⟩:=px enc k h0 hk hu;rw[fj,←Nat.add_assoc];exact hc i x hx.2.1 q u hx.2.2
theorem dF {α:Type} {enc:α→List Value} {k:Nat} (h0:0<k) (hk:∀x,(enc x).length=k) {w:World} {base n:Nat} {T:TypeId} {u:Value} {l:List α} (h:w.ownsRow base T k u n (l.flatMap enc)):RRow enc k w w.heap.size u l:=by
 have hn:l.length=n:=Nat.eq_of_mul_eq_mul_right h0 (by rw[←ef enc k hk l];exact h.1);subst hn;rcases h.2 with⟨h1,h2⟩ | ⟨g,cap,cur,h1,hb,hg,hn,hm,hs,ht⟩
 ·have:l=[]:=aF h2
  subst this;rw[h1];exact RRow.nil _ _ _ _
 ·refine⟨some ⟨g,0,none⟩,cap,h1,hn,hm,(fun e=>by cases e),fun _=>⟨g,0,rfl,(ai.1 hg).1,fun i x hx j v hv=>?_⟩⟩
  have hj:j<k:=by rw[←hk x];exact(aw.1 hv).1
  have h2:(l.flatMap enc)[i*k+j]? =some v:=by rw[eG enc k hk l i j hj,hx];exact hv
  have:=h.cells (g:=g) (by rw[h1];rfl) _ _ h2;rw[fj]at this;rw[show 0+i*k+j=0+(i*k+j)by omega];exact this
def ClonePost {α:Type} (enc:α→List Value) (k:Nat) (T:TypeId) (l:List α) (w:World) (e:Ending) (w':World):Prop:=(∃u,e= .returned u∧w'.ownsRow w.heap.size T k u l.length (l.flatMap enc))∧Below w.heap.size w w'
theorem oX (hr:∀p:Tk×Value,True) {ps:List (Tk×Value)} (h:∀p∈ps,∃a n c,p.2= .slice a n c):∀v∈ps.flatMap tkP,v.oneCell'=true:=by
 intro v hv;obtain⟨p,hp,hv⟩:=cw.1 hv;obtain⟨a,n,c,e⟩:=h p hp;simp only[tkP,aG,List.not_mem_nil,or_false]at hv;rcases hv with rfl | rfl | rfl | rfl | rfl | rfl | rfl | rfl | rfl | rfl | rfl<;>first | rfl | (rw[e];rfl)
theorem eF {α:Type} {enc:α→List Value} (h:∀x,∀v∈enc x,∃i,v= .int .i64 i) (l:List α):∀v∈l.flatMap enc,v.oneCell'=true:=by
 intro v hv;obtain⟨p,hp,hv⟩:=cw.1 hv;obtain⟨i,rfl⟩:=h p v hv;rfl
theorem lY (x:Hp):∀v∈hpC x,∃i,v= .int .i64 i:=by
 intro v hv;simp only[hpC,aG,List.not_mem_nil,or_false]at hv;rcases hv with rfl | rfl | rfl | rfl<;>exact⟨_,rfl⟩
theorem gD (x:Bkg):∀v∈bkgC x,∃i,v= .int .i64 i:=by
 intro v hv;simp only[bkgC,aG,List.not_mem_nil,or_false]at hv;rcases hv with rfl | rfl | rfl | rfl<;>exact⟨_,rfl⟩
theorem gd (x:Hld):∀v∈hldC x,∃i,v= .int .i64 i:=by
 intro v hv;simp only[hldC,aG,List.not_mem_nil,or_false]at hv;rcases hv with rfl | rfl | rfl | rfl | rfl<;>exact⟨_,rfl⟩
theorem lx (l:List Bkg) (u:Value) (w:World) (h:RRow bkgC 4 w w.heap.size u l) (hone:∀v∈l.flatMap bkgC,v.oneCell'=true) (hl:l.length≤100000):
  Calls Tryz.prog 50 #[u] w (ClonePost bkgC 4 53 l w):=by
 obtain⟨a,c,rfl,h1,h2,h3,h4⟩:=h
 cases a with
 | none=>
  obtain rfl:c=0:=h3 rfl;obtain rfl:l=[]:=aF (by omega);have hq:∀W:World,(binOp .eql 33 (.slice none 0 0) (.slice none 0 0)).run Tryz.prog W= .ok (.bool true) W:=fun W=>by kernel_rfl
  clear h1 h2 h3 h4 hone hl;go_enter Tryz.func50,Tryz.ntmps50
  go_wp2
  go_ret
  exact⟨⟨_,rfl,aX _ _ _ _⟩,cZ⟩
 | some ad=>
  have hq:∀W:World,(binOp .eql 33 (.slice (some ad) l.length c) (.slice none 0 0)).run Tryz.prog W= .ok (.bool false) W:=fun W=>Lib.run_eql_slice_nil W _ _ (some _) _ _ _ _ bU
  obtain⟨i0,hi,hz0,hz1,hz2⟩:=info_parts jP;have hn:∀j u,(l.flatMap bkgC)[j]? =some u→(w.alloc (.cells #[] 53)).cell? (ad.add j)=some u:=by
   intro j u hu;have hp:0<l.length:=by
    rcases bC l.length with e | e
    ·rw[aF e]at hu;simp at hu
    ·exact e
   obtain⟨bb,o,e,hbn,hc⟩:=h4 hp;injection e with e
   subst e;have:=fL (k:=4) (enc:=bkgC) (by decide) (fun x=>rfl) hc j u hu;rw[←this,fj];exact World.cell?_alloc_lt _ _ _ (by simpa using hbn)
  have hown:(w.alloc (.cells #[] 53)).ownsRow w.heap.size 53 4 (.slice (some ⟨w.heap.size,0,none⟩) 0 0) 0 []:=World.ownsRow_made w #[] 0 (aj _) (by simp) rfl;have HN:=aa hn;have HO1:=aa hone;have HOWN:=aa hown;have HFL:Hid ((l.flatMap bkgC).length=l.length*4):=aa (ef bkgC 4 (fun _=>rfl) l);clear hn h1 h2 h3 h4 hone hown;go_enter Tryz.func50,Tryz.ntmps50
  go_wp2_with (at_builtin;refine wpList_append_own_at _ rfl _ _ _ rfl w.heap.size 53 i0 _ 4 32 bU hi hz0 hz1 hz2 rfl (by omega) _ _ _ rfl HOWN.out ad l.length c (l.flatMap bkgC) rfl HFL.out HN.out HO1.out (by simp only[maxLen];omega) (by omega) (by simp) ?_;intro v' w1 hown1 hg1 _ hat)
  go_ret
  have hb1:Below w.heap.size w w1:=((ap _ _).alloc (aj _) _).grown hg1 (by simp) (fun k hk=>by have:w.heap.size=k:=Option.some.inj hk;omega);simp only[bx,br]at hown1;exact⟨⟨v',rfl,hown1⟩,hb1⟩
theorem pK (l:List (Tk×Value)) (u:Value) (w:World) (h:RRow tkP 11 w w.heap.size u l) (hone:∀v∈l.flatMap tkP,v.oneCell'=true) (hl:l.length≤100000):
  Calls Tryz.prog 92 #[u] w (ClonePost tkP 11 41 l w):=by
 obtain⟨a,c,rfl,h1,h2,h3,h4⟩:=h
 cases a with
 | none=>
  obtain rfl:c=0:=h3 rfl;obtain rfl:l=[]:=aF (by omega);have hq:∀W:World,(binOp .eql 34 (.slice none 0 0) (.slice none 0 0)).run Tryz.prog W= .ok (.bool true) W:=fun W=>by kernel_rfl
  clear h1 h2 h3 h4 hone hl;go_enter Tryz.func92,Tryz.ntmps92
  go_wp2
  go_ret
  exact⟨⟨_,rfl,aX _ _ _ _⟩,cZ⟩
 | some ad=>
  have hq:∀W:World,(binOp .eql 34 (.slice (some ad) l.length c) (.slice none 0 0)).run Tryz.prog W= .ok (.bool false) W:=fun W=>Lib.run_eql_slice_nil W _ _ (some _) _ _ _ _ Tryz.underlying34
  obtain⟨i0,hi,hz0,hz1,hz2⟩:=info_parts lX;have hn:∀j u,(l.flatMap tkP)[j]? =some u→(w.alloc (.cells #[] 41)).cell? (ad.add j)=some u:=by
   intro j u hu;have hp:0<l.length:=by
    rcases bC l.length with e | e
    ·rw[aF e]at hu;simp at hu
    ·exact e
   obtain⟨bb,o,e,hbn,hc⟩:=h4 hp;injection e with e
   subst e;have:=fL (k:=11) (enc:=tkP) (by decide) (fun x=>rfl) hc j u hu;rw[←this,fj];exact World.cell?_alloc_lt _ _ _ (by simpa using hbn)
  have hown:(w.alloc (.cells #[] 41)).ownsRow w.heap.size 41 11 (.slice (some ⟨w.heap.size,0,none⟩) 0 0) 0 []:=World.ownsRow_made w #[] 0 (aj _) (by simp) rfl;have HN:=aa hn;have HO1:=aa hone;have HOWN:=aa hown;have HFL:Hid ((l.flatMap tkP).length=l.length*11):=aa (ef tkP 11 (fun _=>rfl) l);clear hn h1 h2 h3 h4 hone hown;go_enter Tryz.func92,Tryz.ntmps92
  go_wp2_with (at_builtin;refine wpList_append_own_at _ rfl _ _ _ rfl w.heap.size 41 i0 _ 11 104 Tryz.underlying34 hi hz0 hz1 hz2 rfl (by omega) _ _ _ rfl HOWN.out ad l.length c (l.flatMap tkP) rfl HFL.out HN.out HO1.out (by simp only[maxLen];omega) (by omega) (by simp) ?_;intro v' w1 hown1 hg1 _ hat)
  go_ret
  have hb1:Below w.heap.size w w1:=((ap _ _).alloc (aj _) _).grown hg1 (by simp) (fun k hk=>by have:w.heap.size=k:=Option.some.inj hk;omega);simp only[bx,br]at hown1;exact⟨⟨v',rfl,hown1⟩,hb1⟩
theorem pL (l:List Hp) (u:Value) (w:World) (h:RRow hpC 4 w w.heap.size u l) (hone:∀v∈l.flatMap hpC,v.oneCell'=true) (hl:l.length≤100000):
  Calls Tryz.prog 200 #[u] w (ClonePost hpC 4 68 l w):=by
 obtain⟨a,c,rfl,h1,h2,h3,h4⟩:=h
 cases a with
 | none=>
  obtain rfl:c=0:=h3 rfl;obtain rfl:l=[]:=aF (by omega);have hq:∀W:World,(binOp .eql 39 (.slice none 0 0) (.slice none 0 0)).run Tryz.prog W= .ok (.bool true) W:=fun W=>by kernel_rfl
  clear h1 h2 h3 h4 hone hl;go_enter Tryz.func200,Tryz.ntmps200
  go_wp2
  go_ret
  exact⟨⟨_,rfl,aX _ _ _ _⟩,cZ⟩
 | some ad=>
  have hq:∀W:World,(binOp .eql 39 (.slice (some ad) l.length c) (.slice none 0 0)).run Tryz.prog W= .ok (.bool false) W:=fun W=>Lib.run_eql_slice_nil W _ _ (some _) _ _ _ _ Tryz.underlying39
  obtain⟨i0,hi,hz0,hz1,hz2⟩:=info_parts jQ;have hn:∀j u,(l.flatMap hpC)[j]? =some u→(w.alloc (.cells #[] 68)).cell? (ad.add j)=some u:=by
   intro j u hu;have hp:0<l.length:=by
    rcases bC l.length with e | e
    ·rw[aF e]at hu;simp at hu
    ·exact e
   obtain⟨bb,o,e,hbn,hc⟩:=h4 hp;injection e with e
   subst e;have:=fL (k:=4) (enc:=hpC) (by decide) (fun x=>rfl) hc j u hu;rw[←this,fj];exact World.cell?_alloc_lt _ _ _ (by simpa using hbn)
  have hown:(w.alloc (.cells #[] 68)).ownsRow w.heap.size 68 4 (.slice (some ⟨w.heap.size,0,none⟩) 0 0) 0 []:=World.ownsRow_made w #[] 0 (aj _) (by simp) rfl;have HN:=aa hn;have HO1:=aa hone;have HOWN:=aa hown;have HFL:Hid ((l.flatMap hpC).length=l.length*4):=aa (ef hpC 4 (fun _=>rfl) l);clear hn h1 h2 h3 h4 hone hown;go_enter Tryz.func200,Tryz.ntmps200
  go_wp2_with (at_builtin;refine wpList_append_own_at _ rfl _ _ _ rfl w.heap.size 68 i0 _ 4 32 Tryz.underlying39 hi hz0 hz1 hz2 rfl (by omega) _ _ _ rfl HOWN.out ad l.length c (l.flatMap hpC) rfl HFL.out HN.out HO1.out (by simp only[maxLen];omega) (by omega) (by simp) ?_;intro v' w1 hown1 hg1 _ hat)
  go_ret
  have hb1:Below w.heap.size w w1:=((ap _ _).alloc (aj _) _).grown hg1 (by simp) (fun k hk=>by have:w.heap.size=k:=Option.some.inj hk;omega);simp only[bx,br]at hown1;exact⟨⟨v',rfl,hown1⟩,hb1⟩
theorem ly (l:List Hld) (u:Value) (w:World) (h:RRow hldC 5 w w.heap.size u l) (hone:∀v∈l.flatMap hldC,v.oneCell'=true) (hl:l.length≤100000):
  Calls Tryz.prog 63 #[u] w (ClonePost hldC 5 75 l w):=by
 obtain⟨a,c,rfl,h1,h2,h3,h4⟩:=h
 cases a with
 | none=>
  obtain rfl:c=0:=h3 rfl;obtain rfl:l=[]:=aF (by omega);have hq:∀W:World,(binOp .eql 42 (.slice none 0 0) (.slice none 0 0)).run Tryz.prog W= .ok (.bool true) W:=fun W=>by kernel_rfl
  clear h1 h2 h3 h4 hone hl;go_enter Tryz.func63,Tryz.ntmps63
  go_wp2
  go_ret
  exact⟨⟨_,rfl,aX _ _ _ _⟩,cZ⟩
 | some ad=>
  have hq:∀W:World,(binOp .eql 42 (.slice (some ad) l.length c) (.slice none 0 0)).run Tryz.prog W= .ok (.bool false) W:=fun W=>Lib.run_eql_slice_nil W _ _ (some _) _ _ _ _ bV
  obtain⟨i0,hi,hz0,hz1,hz2⟩:=info_parts iF;have hn:∀j u,(l.flatMap hldC)[j]? =some u→(w.alloc (.cells #[] 75)).cell? (ad.add j)=some u:=by
   intro j u hu;have hp:0<l.length:=by
    rcases bC l.length with e | e
    ·rw[aF e]at hu;simp at hu
    ·exact e
   obtain⟨bb,o,e,hbn,hc⟩:=h4 hp;injection e with e
   subst e;have:=fL (k:=5) (enc:=hldC) (by decide) (fun x=>rfl) hc j u hu;rw[←this,fj];exact World.cell?_alloc_lt _ _ _ (by simpa using hbn)
  have hown:(w.alloc (.cells #[] 75)).ownsRow w.heap.size 75 5 (.slice (some ⟨w.heap.size,0,none⟩) 0 0) 0 []:=World.ownsRow_made w #[] 0 (aj _) (by simp) rfl;have HN:=aa hn;have HO1:=aa hone;have HOWN:=aa hown;have HFL:Hid ((l.flatMap hldC).length=l.length*5):=aa (ef hldC 5 (fun _=>rfl) l);clear hn h1 h2 h3 h4 hone hown;go_enter Tryz.func63,Tryz.ntmps63
  go_wp2_with (at_builtin;refine wpList_append_own_at _ rfl _ _ _ rfl w.heap.size 75 i0 _ 5 40 bV hi hz0 hz1 hz2 rfl (by omega) _ _ _ rfl HOWN.out ad l.length c (l.flatMap hldC) rfl HFL.out HN.out HO1.out (by simp only[maxLen];omega) (by omega) (by simp) ?_;intro v' w1 hown1 hg1 _ hat)
  go_ret
  have hb1:Below w.heap.size w w1:=((ap _ _).alloc (aj _) _).grown hg1 (by simp) (fun k hk=>by have:w.heap.size=k:=Option.some.inj hk;omega);simp only[bx,br]at hown1;exact⟨⟨v',rfl,hown1⟩,hb1⟩
end
section
theorem not_t {b:Bool} (h:(!b)=true):b=false:=by cases b<;>first | rfl | cases h
def IdxPost {α:Type} (Pd:α→Bool) (l:List α) (w:World) (e:Ending) (w':World):Prop:=Below w.heap.size w w'∧
 ((e= .returned (.int .i64 (-1))∧∀x∈l,Pd x=false)∨∃k:Nat,e= .returned (.int .i64 k)∧k<l.length∧(∀x∈l.take k,Pd x=false)∧∀x,l[k]? =some x→Pd x=true)
def PrdH (f:FuncId) (caps:Array Value) (Pd:Hp→Bool) (w:World) (l:List Hp):Prop:=(∀args W,(callFunc f args).run Tryz.prog W= .ok (.enter f args) W)∧
 ∀(x:Hp) (W:World),x∈l→Below w.heap.size w W→Calls Tryz.prog f (#[.agg #[.int .i64 x.ct,.int .i64 x.bg,.int .i64 x.en,.int .i64 x.ar]]++caps) W fun e W'=>e= .returned (.bool (Pd x))∧Below W.heap.size W W'
theorem pM (l:List Hp) (u:Value) (f:FuncId) (caps:Array Value) (Pd:Hp→Bool) (w:World) (h:RRow hpC 4 w w.heap.size u l) (hp:PrdH f caps Pd w l):
  Calls Tryz.prog 199 #[u,.func (.func f) #[] caps] w (IdxPost Pd l w):=by
 obtain⟨a,c,rfl,h1,h2,h3,h4⟩:=h;unfold maxLen at h2;have hlen:l.length≤9223372036854775807:=by omega
 have H4:=aa h4;obtain⟨hcall,hq⟩:=hp;have HP:=aa hq;clear h3 h4 hq;go_enter Tryz.func199,Tryz.ntmps199
 go_wp2
 go_loopw [8] (fun i wr=>∃k:Nat,k≤l.length∧i= .int .i64 k∧Hid (∀x∈l.take k,Pd x=false)∧Below w.heap.size w wr) (fun i _=>l.length-(intOf i).toNat)
 case atStart=>exact⟨0,aE _,rfl,aa (by simp),ap _ _⟩
 case round=>
  obtain⟨k,hk,rfl,HF,hB⟩:=hrel;by_cases hlt:k<l.length
  ·obtain⟨bb,o,rfl,hbn,hcell⟩:=H4.out (by omega)
   obtain⟨x,hx⟩:∃x,l[k]? =some x:=⟨_,am hlt⟩
   have q0:wr.cell? ⟨bb,o+k*4,none⟩=some (.int .i64 x.ct):=(hB.cell (p:=⟨bb,o+k*4+0,none⟩) hbn).trans (hcell k x hx 0 _ rfl);have q1:wr.cell? ⟨bb,o+k*4+1,none⟩=some (.int .i64 x.bg):=(hB.cell (p:=⟨bb,o+k*4+1,none⟩) hbn).trans (hcell k x hx 1 _ rfl);have q2:wr.cell? ⟨bb,o+k*4+2,none⟩=some (.int .i64 x.en):=(hB.cell (p:=⟨bb,o+k*4+2,none⟩) hbn).trans (hcell k x hx 2 _ rfl);have q3:wr.cell? ⟨bb,o+k*4+3,none⟩=some (.int .i64 x.ar):=(hB.cell (p:=⟨bb,o+k*4+3,none⟩) hbn).trans (hcell k x hx 3 _ rfl);have k0:(0:Int)≤(k:Int):=by omega
   have k1:(k:Int)<(l.length:Int):=by omega
   obtain⟨q,hq⟩:=cR (Pd x)
   have HQ:=aa hq;have HX:=aa hx;have hsz:=hB.size;clear hq hx hcell;go_wp2_with fail
   refine(HP.out x _ (az HX.out) hB).mono ?_
   rw[HQ.out];rintro e w1 ⟨rfl,hb1⟩;have hb2:Below w.heap.size w w1:=cZ
   cases q with
   | false=>
    go_wp2
    go_roundw
    case rel=>exact⟨k+1,by omega,by go_num,aa (iC (p:=fun x=> !Pd x) (fun y hy=>by rw[HF.out y hy];rfl) HX.out (by rw[HQ.out];rfl) |> fun h y hy=>not_t (h y hy)),hb2⟩
    case measure=>simp[intOf];omega
   | true=>
    go_wp2
    go_ret
    exact⟨hb2,.inr ⟨k,rfl,hlt,HF.out,fun y hy=>by rw[HX.out]at hy;injection hy with hy;subst hy;exact HQ.out⟩⟩
  ·obtain rfl:k=l.length:=by omega
   go_wp2
   go_ret
   exact⟨hB,.inl ⟨rfl,by have:=HF.out;rwa [aL]at this⟩⟩
theorem iG (l:List Hp) (u:Value) (f:FuncId) (caps:Array Value) (Pd:Hp→Bool) (w:World) (h:RRow hpC 4 w w.heap.size u l) (hp:PrdH f caps Pd w l):
  Calls Tryz.prog 163 #[u,.func (.func f) #[] caps] w fun e w'=>e= .returned (.bool (l.any Pd))∧Below w.heap.size w w':=by
 have HR:=aa h;have HP:=aa hp;clear h hp;go_enter Tryz.func163,Tryz.ntmps163
 go_wp2_with fail
 refine(pM l u f caps Pd _ HR.out HP.out).mono ?_
 rintro e w1 ⟨hb1,⟨rfl,hF⟩ | ⟨k,rfl,hk,hF,hT⟩⟩
 ·have HL:Hid (l.any Pd=false):=aa (by rw[cM];intro x hx;rw[hF x hx];simp)
  clear hF;go_wp2
  go_ret
  exact⟨by rw[HL.out];rfl,hb1⟩
 ·have HL:Hid (l.any Pd=true):=aa (by rw[List.any_eq_true];exact⟨l[k],bY hk,hT _ (am hk)⟩)
  clear hF hT;go_wp2
  go_ret
  exact⟨by rw[HL.out];first | rfl | (simp;done),hb1⟩
def PrdB (f:FuncId) (caps:Array Value) (Pd:Bkg→Bool) (w:World) (l:List Bkg):Prop:=(∀args W,(callFunc f args).run Tryz.prog W= .ok (.enter f args) W)∧
 ∀(x:Bkg) (W:World),x∈l→Below w.heap.size w W→Calls Tryz.prog f (#[.agg #[.int .i64 x.ct,.int .i64 x.bg,.int .i64 x.en,.int .i64 x.tk]]++caps) W fun e W'=>e= .returned (.bool (Pd x))∧Below W.heap.size W W'
theorem jh (l:List Bkg) (u:Value) (f:FuncId) (caps:Array Value) (Pd:Bkg→Bool) (w:World) (h:RRow bkgC 4 w w.heap.size u l) (hp:PrdB f caps Pd w l):
  Calls Tryz.prog 95 #[u,.func (.func f) #[] caps] w (IdxPost Pd l w):=by
 obtain⟨a,c,rfl,h1,h2,h3,h4⟩:=h;unfold maxLen at h2;have hlen:l.length≤9223372036854775807:=by omega
 have H4:=aa h4;obtain⟨hcall,hq⟩:=hp;have HP:=aa hq;clear h3 h4 hq;go_enter Tryz.func95,Tryz.ntmps95
 go_wp2
 go_loopw [8] (fun i wr=>∃k:Nat,k≤l.length∧i= .int .i64 k∧Hid (∀x∈l.take k,Pd x=false)∧Below w.heap.size w wr) (fun i _=>l.length-(intOf i).toNat)
 case atStart=>exact⟨0,aE _,rfl,aa (by simp),ap _ _⟩
 case round=>
  obtain⟨k,hk,rfl,HF,hB⟩:=hrel;by_cases hlt:k<l.length
  ·obtain⟨bb,o,rfl,hbn,hcell⟩:=H4.out (by omega)
   obtain⟨x,hx⟩:∃x,l[k]? =some x:=⟨_,am hlt⟩
   have q0:wr.cell? ⟨bb,o+k*4,none⟩=some (.int .i64 x.ct):=(hB.cell (p:=⟨bb,o+k*4+0,none⟩) hbn).trans (hcell k x hx 0 _ rfl);have q1:wr.cell? ⟨bb,o+k*4+1,none⟩=some (.int .i64 x.bg):=(hB.cell (p:=⟨bb,o+k*4+1,none⟩) hbn).trans (hcell k x hx 1 _ rfl);have q2:wr.cell? ⟨bb,o+k*4+2,none⟩=some (.int .i64 x.en):=(hB.cell (p:=⟨bb,o+k*4+2,none⟩) hbn).trans (hcell k x hx 2 _ rfl);have q3:wr.cell? ⟨bb,o+k*4+3,none⟩=some (.int .i64 x.tk):=(hB.cell (p:=⟨bb,o+k*4+3,none⟩) hbn).trans (hcell k x hx 3 _ rfl);have k0:(0:Int)≤(k:Int):=by omega
   have k1:(k:Int)<(l.length:Int):=by omega
   obtain⟨q,hq⟩:=cR (Pd x)
   have HQ:=aa hq;have HX:=aa hx;have hsz:=hB.size;clear hq hx hcell;go_wp2_with fail
   refine(HP.out x _ (az HX.out) hB).mono ?_
   rw[HQ.out];rintro e w1 ⟨rfl,hb1⟩;have hb2:Below w.heap.size w w1:=cZ
   cases q with
   | false=>
    go_wp2
    go_roundw
    case rel=>exact⟨k+1,by omega,by go_num,aa (iC (p:=fun x=> !Pd x) (fun y hy=>by rw[HF.out y hy];rfl) HX.out (by rw[HQ.out];rfl) |> fun h y hy=>not_t (h y hy)),hb2⟩
    case measure=>simp[intOf];omega
   | true=>
    go_wp2
    go_ret
    exact⟨hb2,.inr ⟨k,rfl,hlt,HF.out,fun y hy=>by rw[HX.out]at hy;injection hy with hy;subst hy;exact HQ.out⟩⟩
  ·obtain rfl:k=l.length:=by omega
   go_wp2
   go_ret
   exact⟨hB,.inl ⟨rfl,by have:=HF.out;rwa [aL]at this⟩⟩
theorem lZ (l:List Bkg) (u:Value) (f:FuncId) (caps:Array Value) (Pd:Bkg→Bool) (w:World) (h:RRow bkgC 4 w w.heap.size u l) (hp:PrdB f caps Pd w l):
  Calls Tryz.prog 47 #[u,.func (.func f) #[] caps] w fun e w'=>e= .returned (.bool (l.any Pd))∧Below w.heap.size w w':=by
 have HR:=aa h;have HP:=aa hp;clear h hp;go_enter Tryz.func47,Tryz.ntmps47
 go_wp2_with fail
 refine(jh l u f caps Pd _ HR.out HP.out).mono ?_
 rintro e w1 ⟨hb1,⟨rfl,hF⟩ | ⟨k,rfl,hk,hF,hT⟩⟩
 ·have HL:Hid (l.any Pd=false):=aa (by rw[cM];intro x hx;rw[hF x hx];simp)
  clear hF;go_wp2
  go_ret
  exact⟨by rw[HL.out];rfl,hb1⟩
 ·have HL:Hid (l.any Pd=true):=aa (by rw[List.any_eq_true];exact⟨l[k],bY hk,hT _ (am hk)⟩)
  clear hF hT;go_wp2
  go_ret
  exact⟨by rw[HL.out];first | rfl | (simp;done),hb1⟩
theorem set1_any (t:Tk) (u:Value) (no:Int) (z:Nat) (r:Array Value) (w:World) (hz:w.heap[z]? =some (.cells r 41 (0,0))) (h0:r[0]? =some (.int .i64 no)):
  Calls Tryz.prog 94 #[.agg #[.int .i64 t.no,.int .i64 t.q.src,.int .i64 t.q.dst,.int .i64 t.q.sz,.int .i64 t.q.rd,.int .i64 t.q.D,.int .i64 t.q.pr,.bool t.q.cu,u,.int .i64 t.st,.int .i64 t.un],.pointer (some ⟨z,0,none⟩)] w fun e w'=>e= .returned (.bool (t.no==no))∧Below w.heap.size w w':=by
 have cz:w.cell? ⟨z,0,none⟩=some (.int .i64 no):=(cU hz 0).trans h0;have hzl:z<w.heap.size:=(ai.1 hz).1;clear hz h0;obtain⟨r,hr⟩:=cR ((t.no==no))
 rw[hr];have HR:=aa hr;obtain⟨tn,htn⟩:=cR t.no
 rw[htn]at hr ⊢;clear htn;go_enter Tryz.func94,Tryz.ntmps94
 go_wp2
 go_ret
 exact⟨by first | rfl | (rw[←hr];rfl) | simp[hr],cZ⟩
theorem index_tk (ps:List (Tk×Value)) (v:Value) (no:Int) (z:Nat) (r:Array Value) (w:World) (h:RRow tkP 11 w w.heap.size v ps) (hz:w.heap[z]? =some (.cells r 41 (0,0))) (h0:r[0]? =some (.int .i64 no)):
  Calls Tryz.prog 93 #[v,.func (.func 94) #[] #[.pointer (some ⟨z,0,none⟩)]] w (IdxPost (fun p:Tk×Value=>p.1.no==no) ps w):=by
 obtain⟨a,c,rfl,h1,h2,h3,h4⟩:=h;unfold maxLen at h2;have hlen:ps.length≤9223372036854775807:=by omega
 have H4:=aa h4;have HZ:=aa (cS hz h0);have zl:z<w.heap.size:=(ai.1 hz).1;have hcall:∀args W,(callFunc 94 args).run Tryz.prog W= .ok (.enter 94 args) W:=fun _ _=>by kernel_rfl
 clear h3 h4 hz h0;go_enter Tryz.func93,Tryz.ntmps93
 go_wp2
 go_loopw [8] (fun i wr=>∃k:Nat,k≤ps.length∧i= .int .i64 k∧Hid (∀x∈ps.take k,(x.1.no==no)=false)∧Below w.heap.size w wr) (fun i _=>ps.length-(intOf i).toNat)
 case atStart=>exact⟨0,aE _,rfl,aa (by simp),ap _ _⟩
 case round=>
  obtain⟨k,hk,rfl,HF,hB⟩:=hrel;by_cases hlt:k<ps.length
  ·obtain⟨bb,o,rfl,hbn,hcell⟩:=H4.out (by omega)
   obtain⟨⟨t,u⟩,hx⟩:∃x,ps[k]? =some x:=⟨_,am hlt⟩
   obtain⟨g0,g1,g2,g3,g4,g5,g6,g7,g8,g9,g10⟩:=(iA hcell hx).below (fun q=>hB.cell (p:=⟨bb,q,none⟩) hbn);have k0:(0:Int)≤(k:Int):=by omega
   have k1:(k:Int)<(ps.length:Int):=by omega
   obtain⟨q,hq⟩:=cR ((t.no==no))
   have HQ:=aa hq;have HX:=aa hx;have hsz:=hB.size;clear hq hx hcell;go_wp2_with fail
   refine(set1_any t u no z r _ ((hB.block _ zl).trans HZ.out.1) HZ.out.2).mono ?_
   rw[HQ.out];rintro e w1 ⟨rfl,hb1⟩;have hb2:Below w.heap.size w w1:=cZ
   cases q with
   | false=>
    go_wp2
    go_roundw
    case rel=>exact⟨k+1,by omega,by go_num,aa (iC (p:=fun x:Tk×Value=> !(x.1.no==no)) (fun y hy=>by rw[HF.out y hy];rfl) HX.out (by rw[HQ.out];rfl) |> fun h y hy=>not_t (h y hy)),hb2⟩
    case measure=>simp[intOf];omega
   | true=>
    go_wp2
    go_ret
    exact⟨hb2,.inr ⟨k,rfl,hlt,HF.out,fun y hy=>by rw[HX.out]at hy;injection hy with hy;subst hy;exact HQ.out⟩⟩
  ·obtain rfl:k=ps.length:=by omega
   go_wp2
   go_ret
   exact⟨hB,.inl ⟨rfl,by have:=HF.out;rwa [aL]at this⟩⟩
end
section
def PredDB (f:FuncId) (caps:Array Value) (Pd:Bkg→Bool) (g:Nat) (w:World) (l:List Bkg):Prop:=(∀args W,(callFunc f args).run Tryz.prog W= .ok (.enter f args) W)∧
 ∀(x:Bkg) (W:World),x∈l→w.heap.size≤W.heap.size→(∀q,q<w.heap.size→q≠g→W.heap[q]? =w.heap[q]?)→Calls Tryz.prog f (#[.agg #[.int .i64 x.ct,.int .i64 x.bg,.int .i64 x.en,.int .i64 x.tk]]++caps) W fun e W'=>e= .returned (.bool (Pd x))∧Below W.heap.size W W'
theorem PredDB.pred {f:FuncId} {caps:Array Value} {Pd:Bkg→Bool} {g:Nat} {w:World} {l:List Bkg} (h:PredDB f caps Pd g w l):PrdB f caps Pd w l:=⟨h.1,fun x W hx hW=>h.2 x W hx hW.size (fun q hq _=>hW.block q hq)⟩
def bksF (l:List Bkg):List Value:=l.flatMap bkgC
theorem l6 (l:List Bkg):(bksF l).length=l.length*4:=ef bkgC 4 dL l
theorem l7 (l:List Bkg) (q k:Nat) (hk:k<4) {x:Bkg} (hx:l[q]? =some x):(bksF l)[q*4+k]? =(bkgC x)[k]?:=by
 have:=eG bkgC 4 dL l q k hk;rw[hx]at this;exact this
theorem RRow.of_bks {w:World} {base n:Nat} {e:TypeId} {v:Value} {l:List Bkg} (h:w.ownsRow base e 4 v n (bksF l)):RRow bkgC 4 w w.heap.size v l:=by
 have hl:n=l.length:=by have:=h.1;rw[l6]at this;omega
 subst hl;rcases h.2 with⟨rfl,hz⟩ | ⟨g,cap,cur,rfl,hb,hg,hn,hm,hs,ht⟩
 ·have:l=[]:=aF hz
  subst this;exact RRow.nil _ _ _ _
 ·refine⟨_,cap,rfl,hn,hm,(fun h=>by cases h),fun _=>⟨g,0,rfl,(ai.1 hg).1,fun i x hx j u hu=>?_⟩⟩
  have hj:j<4:=by have:=(aw.1 hu).1;rwa [dL]at this
  have:=h.cells (g:=g) rfl (i*4+j) u (by rw[l7 l i j hj hx];exact hu);rw[fj]at this;rw[Nat.add_assoc];exact this
def DelRB (cur:Array Value) (cap:Nat) (keep:Bkg→Bool) (O:List Bkg) (j:Nat):Prop:=
 cur.size=cap*4∧(∀(q:Nat) (x:Bkg),((O.take j).filter keep)[q]? =some x→∀k,k<4→cur[q*4+k]? =(bkgC x)[k]?)∧∀(q:Nat) (x:Bkg),j≤q→O[q]? =some x→∀k,k<4→cur[q*4+k]? =(bkgC x)[k]?
theorem nY {keep:Bkg→Bool} {O:List Bkg} {j:Nat}:((O.take j).filter keep).length≤j:=aK (bn _ _) (List.length_take_le _ _)
theorem DelRB.skip {cur:Array Value} {cap:Nat} {keep:Bkg→Bool} {O:List Bkg} {j:Nat} {x:Bkg} (h:DelRB cur cap keep O j) (hx:O[j]? =some x) (hk:keep x=false):DelRB cur cap keep O (j+1):=by
 obtain⟨h1,h2,h3⟩:=h;have e:(O.take (j+1)).filter keep=(O.take j).filter keep:=by rw[aN,hx,aW];simp[hk]
 exact⟨h1,by rw[e];exact h2,fun q y hq=>h3 q y (by omega)⟩
theorem DelRB.put {cur:Array Value} {cap:Nat} {keep:Bkg→Bool} {O:List Bkg} {j i:Nat} {x:Bkg} (h:DelRB cur cap keep O j) (hx:O[j]? =some x) (hk:keep x=true) (hi:i=((O.take j).filter keep).length) (hc:O.length≤cap):DelRB (setAll cur (i*4) (bkgC x)) cap keep O (j+1)∧i+1=((O.take (j+1)).filter keep).length:=by
 obtain⟨h1,h2,h3⟩:=h;have e:(O.take (j+1)).filter keep=(O.take j).filter keep++[x]:=by rw[aN,hx,aW];simp[hk]
 have hj:=(aw.1 hx).1;have hij:i≤j:=by rw[hi];exact nY
 have hfit:i*4+(bkgC x).length≤cur.size:=by rw[h1,dL];omega
 refine⟨⟨by rw[eU];exact h1,fun q y hy k hk4=>?_,fun q y hq hy k hk4=>?_⟩,by rw[e,ay,←hi];rfl⟩
 ·rw[eS _ _ _ _ hfit,dL]
  rw[e]at hy;rcases bq q i with hq | hq
  ·rw[bH (by rw[←hi];exact hq)]at hy
   rw[if_neg (by omega)];exact h2 q y hy k hk4
  ·rw[bz (by rw[←hi];exact hq),←hi]at hy
   obtain rfl:q=i:=by
    rcases bq i q with h' | h'
    ·rw[bj (by simp;omega)]at hy;cases hy
    ·omega
   simp at hy
   subst hy;rw[if_pos (by omega),show q*4+k-q*4=k by omega]
 ·rw[eS _ _ _ _ hfit,dL,if_neg (by omega)]
  exact h3 q y (by omega) hy k hk4
theorem delB_any (O:List Bkg) (B g cap:Nat) (f:FuncId) (caps:Array Value) (Pd:Bkg→Bool) (w:World) (ho:w.ownsRow B 53 4 (.slice (some ⟨g,0,none⟩) O.length cap) O.length (bksF O)) (hp:PredDB f caps Pd g w O) (hex:∃x∈O,Pd x=true) (hl:O.length≤1000000000000):
  Calls Tryz.prog 84 #[.slice (some ⟨g,0,none⟩) O.length cap,.func (.func f) #[] caps] w fun e w'=>e= .returned (.slice (some ⟨g,0,none⟩) (O.filter fun x=> !Pd x).length cap)∧w'.ownsRow B 53 4 (.slice (some ⟨g,0,none⟩) (O.filter fun x=> !Pd x).length cap) (O.filter fun x=> !Pd x).length (bksF (O.filter fun x=> !Pd x))∧(∀q,q<w.heap.size→q≠g→w'.heap[q]? =w.heap[q]?)∧Below B w w':=by
 have hI:=jh O _ f caps Pd w (RRow.of_bks ho) (hp.pred);rcases ho.2 with⟨hz,h0⟩ | ⟨g',cap',cur,e,hBg,hg,hn,hm,hs,ht⟩
 ·obtain⟨x,hx,_⟩:=hex
  have:O=[]:=aF h0;rw[this]at hx
  cases hx
 injection e with e1 e2 e3
 injection e1 with e1
 injection e1 with e1
 subst e1 e3;have hcall:=hp.1;have HP:=aa hp.2;have HEX:=aa hex;have HG:=aa hg;have hgl:g<w.heap.size:=(ai.1 hg).1;have HR0:Hid (∀(q:Nat) (x:Bkg),O[q]? =some x→∀k,k<4→cur[q*4+k]? =(bkgC x)[k]?):=aa (fun q x hx k hk=>by
  have h1:=l7 O q k hk hx;have hq:=(aw.1 hx).1;have ht':cur.toList.take (O.length*4)=bksF O:=ht;rw[←ht',bA,if_pos (by omega)]at h1;rw[←h1];simp)
 have HS:=aa hs;unfold maxLen at hm;clear hp hex hg hs ht ho;go_enter Tryz.func84,Tryz.ntmps84
 go_wp2_with fail
 refine hI.mono ?_
 unfold IdxPost;rintro e w1 ⟨hb1,⟨rfl,hall⟩ | ⟨k,rfl,hk,hpre,hdel⟩⟩
 ·exfalso
  obtain⟨x,hx,h1⟩:=HEX.out;rw[hall x hx]at h1
  cases h1
 ·have e0:(O.take (k+1)).filter (fun x=> !Pd x)=O.take k:=by
   rw[aN,aW,List.filter_eq_self.2 (fun x hx=>by simp[hpre x hx]),am hk];simp[hdel _ (am hk)]
  have R0:DelRB cur cap (fun x=> !Pd x) O (k+1):=by
   refine⟨HS.out,fun q x hx=>?_,fun q x _ hx=>HR0.out q x hx⟩
   rw[e0]at hx;refine HR0.out q x ?_
   rw[bA]at hx;split at hx
   ·exact hx
   ·cases hx
  have RR:=aa R0;have HK:Hid (k=((O.take (k+1)).filter (fun x=> !Pd x)).length):=aa (by rw[e0,aS];omega);have HG1:Hid (w1.heap[g]? =some (.cells cur 53 (0,0))):=aa ((hb1.block _ hgl).trans HG.out);have HB1:=aa hb1;have z1:w.heap.size≤w1.heap.size:=hb1.size;clear hI hpre hdel e0 R0 hb1;have hne:((k:Int)== -1)=false:=beq_eq_false_iff_ne.2 (by omega);go_wp2_with fail
  go_loopw [5,6] (fun iv jv wr=>∃(i j:Nat) (cu:Array Value),iv= .int .i64 (i:Int)∧jv= .int .i64 (j:Int)∧i<j∧j≤O.length∧Hid (i=((O.take j).filter (fun x=> !Pd x)).length)∧Hid (DelRB cu cap (fun x=> !Pd x) O j)∧Hid (wr.heap[g]? =some (.cells cu 53 (0,0)))∧Hid (∀q,q<w1.heap.size→q≠g→wr.heap[q]? =w1.heap[q]?)∧Hid (Below B w1 wr)) (fun _ jv _=>O.length-(intOf jv).toNat)
  case atStart=>exact⟨k,k+1,cur,rfl,by go_num,by omega,by omega,HK,RR,HG1,aa (fun _ _ _=>rfl),aa (ap _ _)⟩
  case round=>
   obtain⟨i,j,cu,rfl,rfl,hij,hj,HI,HD,HGr,HO,HB⟩:=hrel;clear HK RR HG1;have hgr:g<wr.heap.size:=(ai.1 HGr.out).1;have zr:w1.heap.size≤wr.heap.size:=HB.out.size;have j0:(0:Int)≤(j:Int):=by omega
   have i0:(0:Int)≤(i:Int):=by omega
   by_cases hlt:j<O.length
   ·obtain⟨x,hx⟩:∃x,O[j]? =some x:=⟨_,am hlt⟩
    have hd:=HD.out.2.2 j x (aj _) hx;have p0:wr.cell? ⟨g,j*4,none⟩=some (.int .i64 x.ct):=by rw[cU HGr.out];exact hd 0 (by omega)
    have p1:wr.cell? ⟨g,j*4+1,none⟩=some (.int .i64 x.bg):=by rw[cU HGr.out];exact hd 1 (by omega)
    have p2:wr.cell? ⟨g,j*4+2,none⟩=some (.int .i64 x.en):=by rw[cU HGr.out];exact hd 2 (by omega)
    have p3:wr.cell? ⟨g,j*4+3,none⟩=some (.int .i64 x.tk):=by rw[cU HGr.out];exact hd 3 (by omega)
    have j1:(j:Int)<(O.length:Int):=by omega
    have i1:(i:Int)<(O.length:Int):=by omega
    obtain⟨q,hq⟩:=cR (Pd x)
    have HQ:=aa hq;have HX:=aa hx;clear hd hx hq;go_upto_region 8 with fail
    obtain⟨w2,hw2⟩:=cR (wr.alloc (.cells #[.int .i64 x.ct,.int .i64 x.bg,.int .i64 x.en,.int .i64 x.tk] 53))
    rw[hw2];have K2:Below wr.heap.size wr w2:=by rw[←hw2];exact de (ap _ _)
    have XV:Hid (w2.heap[wr.heap.size]? =some (.cells #[.int .i64 x.ct,.int .i64 x.bg,.int .i64 x.en,.int .i64 x.tk] 53 (0,0))):=aa (by rw[←hw2];exact cW);have z2:wr.heap.size<w2.heap.size:=by rw[←hw2];simp
    obtain⟨vB,hvB⟩:=cR wr.heap.size
    have HK2:=aa K2;have hgv:g<vB:=by omega
    have zvw:w1.heap.size≤vB:=by omega
    rw[hvB]at XV z2 ⊢;have cv:=fun o=>cU XV.out o
    clear hw2 K2 p0 p1 p2 p3;have hold:∀q,q<w.heap.size→q≠g→w2.heap[q]? =w.heap[q]?:=fun q hq hne=>(HK2.out.block q (by omega)).trans ((HO.out q (by omega) hne).trans (HB1.out.block q hq))
    have hsz:w.heap.size≤w2.heap.size:=by omega
    have HOLD:=aa hold;clear hold;go_wp2_with fail
    refine(HP.out x _ (az HX.out) hsz HOLD.out).mono ?_
    rw[HQ.out];rintro e w3 ⟨rfl,hb3⟩;have z3:w2.heap.size≤w3.heap.size:=hb3.size;have HGr3:Hid (w3.heap[g]? =some (.cells cu 53 (0,0))):=aa ((hb3.block _ (by omega)).trans ((HK2.out.block _ (by omega)).trans HGr.out));have XV3:Hid (w3.heap[vB]? =some (.cells #[.int .i64 x.ct,.int .i64 x.bg,.int .i64 x.en,.int .i64 x.tk] 53 (0,0))):=aa ((hb3.block _ z2).trans XV.out);have HO3:Hid (∀q,q<w1.heap.size→q≠g→w3.heap[q]? =w1.heap[q]?):=aa (fun q hq hne=>(hb3.block q (by omega)).trans ((HK2.out.block q (by omega)).trans (HO.out q hq hne)));have HB3:Hid (Below B w1 w3):=aa ((HB.out.trans (HK2.out.mono (by omega))).trans (hb3.mono (by omega)));have z4:vB<w3.heap.size:=by omega
    have cv3:=fun o=>cU XV3.out o
    clear cv hb3
    cases q with
    | true=>
     have HD2:=aa (HD.out.skip HX.out (by rw[HQ.out];rfl));have HI2:Hid (i=((O.take (j+1)).filter (fun x=> !Pd x)).length):=aa (by
      rw[HI.out,aN,HX.out,aW];simp[HQ.out])
     go_wp2
     go_roundw
     case rel=>exact⟨i,j+1,cu,rfl,by go_num,by omega,by omega,HI2,HD2,HGr3,HO3,HB3⟩
     case measure=>simp[intOf];omega
    | false=>
     have HDP:=aa (HD.out.put (i:=i) HX.out (by rw[HQ.out];rfl) HI.out hn);have hi4:i*4+4≤cu.size:=by have:=HD.out.1;omega
     go_wp2_with (refine wpList_store_mid rfl 53 _ _ rfl g (i*4) #[.int .i64 x.ct,.int .i64 x.bg,.int .i64 x.en,.int .i64 x.tk] rfl rfl (fun jj hjj=>by have hjj':jj<4:=hjj;rw[cU HGr3.out,dC HGr3.out];exact⟨by rw[bI (by omega)];rfl,rfl⟩) (by kernel_rfl) (by simp[Value.oneCell']) ?_)
     have HGF:Hid ((w3.setCells g (i*4) (bkgC x)).heap[g]? =some (.cells (setAll cu (i*4) (bkgC x)) 53 (0,0))):=aa (ez g _ _ _ _ _ HGr3.out);have HOF:Hid (∀q,q<w1.heap.size→q≠g→(w3.setCells g (i*4) (bkgC x)).heap[q]? =w1.heap[q]?):=aa (fun q hq hne=>(dR g q hne _ _ _).trans (HO3.out q hq hne));have HBF:Hid (Below B w1 (w3.setCells g (i*4) (bkgC x))):=aa (HB3.out.trans (dX g _ _ _ B hBg));obtain⟨wF,hwF⟩:=cR (w3.setCells g (i*4) (bkgC x))
     have hwF':w3.setCells g (i*4) [.int .i64 x.ct,.int .i64 x.bg,.int .i64 x.en,.int .i64 x.tk]=wF:=hwF;rw[hwF]at HGF HOF HBF
     (try rw[hwF'])
     (try rw[hwF])
     clear hwF hwF' cv3;go_wp2
     go_roundw
     case rel=>exact⟨i+1,j+1,_,by go_num,by go_num,by omega,by omega,aa HDP.out.2,aa HDP.out.1,HGF,HOF,HBF⟩
     case measure=>simp[intOf];omega
   ·obtain rfl:j=O.length:=by omega
    have hsome:∀o,o<(O.length-i)*4→(wr.cell? ⟨g,i*4+o,none⟩).isSome=true:=fun o ho=>by
     rw[cU HGr.out,bI (by have:=HD.out.1;omega)];rfl
    obtain⟨cs,hcl,hcs⟩:=j5 (P:=Tryz.prog) wr 33 53 bU (fun W=>by kernel_rfl) g (i*4) (O.length-i) (cap-i) hsome (fun o _=>dC HGr.out _);have HCS:=aa hcs;have hi1:i<O.length:=by omega
    have hi2:i<cap:=by omega
    have hi3:(i:Int)≤(O.length:Int):=by omega
    have hi4:¬cap=i:=by omega
    clear hsome HCS;go_wp2
    go_ret
    have e1:i=(O.filter (fun x=> !Pd x)).length:=by have:=HI.out;rwa [aL]at this
    have hgs:i*4+cs.length≤cap*4:=by rw[hcl];omega
    refine⟨by rw[←e1];rfl,⟨by rw[l6],Or.inr ⟨g,cap,setAll cu (i*4) cs,by rw[←e1],hBg,ez g _ _ _ _ _ HGr.out,by rw[←e1];omega,hm,by rw[eU];exact HD.out.1,?_⟩⟩,fun q hq hne=>(dR g q hne _ _ _).trans ((HO.out q (by omega) hne).trans (HB1.out.block q hq)),((HB1.out.mono (by omega)).trans HB.out).trans (dX g _ _ _ B hBg)⟩
    rw[←e1];refine List.ext_getElem? fun q=>?_
    rcases bq q (i*4)with hq | hq
    ·rw[bA,if_pos hq,bw,gy _ _ _ _ hq]
     obtain⟨x,hx⟩:∃x,(O.filter (fun x=> !Pd x))[q / 4]? =some x:=⟨_,am (by omega)⟩
     have h1:=HD.out.2.1 (q / 4) x (by rw[aL];exact hx) (q % 4) (by omega);have h2:=l7 (O.filter (fun x=> !Pd x)) (q / 4) (q % 4) (by omega) hx;have h3:q / 4*4+q % 4=q:=by omega
     rw[h3]at h1 h2;rw[h1,h2]
    ·rw[bj (by simp;omega),bj (by rw[l6];omega)]
end
end Go.Proofs.YtfnciigbbolckaaGreat
