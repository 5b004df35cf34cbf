/- Part 5 of the proof about mailboattop.TopOthers. No condition. -/
import Derived.Test.YtfnciigbbolckaaGreatQ00
import Derived.Test.YtfnciigbbolckaaGreatQ04
set_option linter.unusedVariables false
set_option linter.unusedSimpArgs false
set_option maxRecDepth 100000
set_option maxHeartbeats 64000000
namespace Go.Proofs.YtfnciigbbolckaaGreat
open Go Go.RowKit Iv
attribute [local go_sem] Oper.semAt_some
attribute [local go_sem] pw gu B_app pv B_get B_toList
section
theorem nS {P:Program} {Q:Exit→Act→World→Prop} {S:World→Prop} {kd:List Nat} {l rl:List Oper} {i:Nat} {r:List Nat} {o:Oper} {a:Act} {w:World} (hd:l.drop i=o::rl) (hk:kd.getD i 2=2) (hw:Region.wanted o (yielded l.toArray a.tmps)=false)
  (hS:S w) (h:wpPlan P l.toArray Q S kd r (a.put o.dst undef) w):wpPlan P l.toArray Q S kd (i::r) a w:=by
 have ho:=eq hd;unfold wpPlan;rw[ho];simp only;rw[if_neg (by omega),if_pos hk];unfold wpOp;simp only[ho,hw];exact⟨hS,h⟩
structure Gp where
 cs:List Con
 G:List (List Sp)
 R:List (List Sp)
 Ds:List Int
 src:Int
 dst:Int
 sz:Int
 rd:Int
 D:Int
 pr:Int
 cu:Bool
def spOK (x:Sp):Prop:=0≤x.1∧x.1<x.2∧x.2≤1099511627776
structure GOK (g:Gp):Prop where
 c64:g.cs.length≤64
 r16:g.R.length≤16
 gl:g.G.length=g.cs.length
 dl:g.Ds.length=g.cs.length
 con:∀c∈g.cs,chkCon c=0∧c.fr<g.R.length∧c.tt<g.R.length
 gs:∀l∈g.G,l.length≤1000∧∀x∈l,spOK x
 rs:∀l∈g.R,l.length≤1100∧∀x∈l,spOK x
 ds:∀d∈g.Ds,1≤d∧d≤50000000
 s0:0≤g.src∧g.src<g.R.length
 t0:0≤g.dst∧g.dst<g.R.length
 r0:0≤g.rd∧g.rd≤g.D
 d1:g.D≤1099511627776
def roomsP (g:Gp) (n:Nat):List Sp:=if(n:Int)=g.dst then[(0,1099511627776)]else g.R.getD n []
def hopG:List Sp→Int→Int→Option Int
 | [],_,_=>none
 | x::l,d,f=>if max x.1 f+d≤x.2 then some (max x.1 f)else hopG l d f
theorem i7 {l:List Sp} {d f b:Int} (h:hopG l d f=some b):∃x∈l,b=max x.1 f∧b+d≤x.2:=by
 induction l with
 | nil=>cases h
 | cons y l ih=>
  unfold hopG at h;split at h
  ·rename_i z
   injection h with h
   exact⟨y,by simp,h.symm,by omega⟩
  ·obtain⟨x,hx,e1,e2⟩:=ih h
   exact⟨x,by simp[hx],e1,e2⟩
def leaveS (cu:Bool) (e rg:Int):Int:=if cu then e+2*rg else e
def CK (w w':World):Prop:=w.heap.size≤w'.heap.size∧∀(q:Nat) (cs:Array Value) (e:TypeId) (f:Nat×Nat),w.heap[q]? =some (Obj.cells cs e f)→w'.heap[q]? =some (Obj.cells cs e f)
theorem CK.trans {a b c:World} (h:CK a b) (k:CK b c):CK a c:=⟨aK h.1 k.1,fun q cs e f hq=>k.2 q cs e f (h.2 q cs e f hq)⟩
theorem CK.of {w w':World} (h:Below w.heap.size w w'):CK w w':=⟨h.size,fun q cs e f hq=>(h.block q (ai.1 hq).1).trans hq⟩
theorem CK.cell {w w':World} (h:CK w w') {b o:Nat} {u:Value} (hu:w.cell? ⟨b,o,none⟩=some u):w'.cell? ⟨b,o,none⟩=some u:=by
 unfold World.cell? at hu ⊢;split at hu
 ·rename_i c e f hc
  rw[h.2 _ _ _ _ hc];exact hu
 ·cases hu
theorem RRow.ck {α:Type} {enc:α→List Value} {s:Nat} {w w':World} {v:Value} {l:List α} (h:RRow enc s w w.heap.size v l) (k:CK w w'):RRow enc s w' w'.heap.size v l:=by
 obtain⟨a,c,rfl,h1,h2,h3,h4⟩:=h;refine⟨a,c,rfl,h1,h2,h3,fun hp=>?_⟩
 obtain⟨b,o,rfl,hb,hc⟩:=h4 hp;exact⟨b,o,rfl,aO hb k.1,fun i x hx j u hu=>k.cell (hc i x hx j u hu)⟩
theorem RSps.ck {w w':World} {v:Value} {l:List Sp} (h:RSps w w.heap.size v l) (k:CK w w'):RSps w' w'.heap.size v l:=by
 obtain⟨a,c,rfl,h1,h2,h3,h4⟩:=h;refine⟨a,c,rfl,h1,h2,h3,fun hp=>?_⟩
 obtain⟨b,o,rfl,hb,hc⟩:=h4 hp;exact⟨b,o,rfl,aO hb k.1,fun j u hu=>k.cell (hc j u hu)⟩
def RRows (w:World) (N:Nat) (v:Value) (L:List (List Sp)):Prop:=∃(a:Option Addr) (c:Nat),v= .slice a L.length c∧L.length≤c∧c≤maxLen∧
 (0<L.length→∃b o,a=some ⟨b,o,none⟩∧b<N∧∀(i:Nat) (l:List Sp),L[i]? =some l→∃u,w.cell? ⟨b,o+i,none⟩=some u∧RSps w N u l)
theorem RRows.below' {w w':World} {v:Value} {L:List (List Sp)} (h:RRows w w.heap.size v L) (k:Below w.heap.size w w'):RRows w' w'.heap.size v L:=by
 obtain⟨a,c,rfl,h1,h2,h3⟩:=h;refine⟨a,c,rfl,h1,h2,fun hp=>?_⟩
 obtain⟨b,o,rfl,hb,hc⟩:=h3 hp;refine⟨b,o,rfl,aO hb k.size,fun i l hi=>?_⟩
 obtain⟨u,hu,hr⟩:=hc i l hi;exact⟨u,(k.cell (p:=⟨b,o+i,none⟩) hb).trans hu,hr.below' k⟩
theorem RRows.ck {w w':World} {v:Value} {L:List (List Sp)} (h:RRows w w.heap.size v L) (k:CK w w'):RRows w' w'.heap.size v L:=by
 obtain⟨a,c,rfl,h1,h2,h3⟩:=h;refine⟨a,c,rfl,h1,h2,fun hp=>?_⟩
 obtain⟨b,o,rfl,hb,hc⟩:=h3 hp;refine⟨b,o,rfl,aO hb k.1,fun i l hi=>?_⟩
 obtain⟨u,hu,hr⟩:=hc i l hi;exact⟨u,k.cell hu,hr.ck k⟩
structure Gr (w:World) (gB:Nat) (g:Gp):Prop where
 box:∃uq uc ub uh ug ur ud:Value,w.heap[gB]? =some (.cells #[uq,uc,ub,uh,.int .i64 g.src,.int .i64 g.dst,.int .i64 g.sz,.int .i64 g.rd,.int .i64 g.D,.int .i64 g.pr,.bool g.cu,ug,ur,ud] 196 (0,0))∧RRow conC 7 w w.heap.size uc g.cs∧RRows w w.heap.size ug g.G∧RRows w w.heap.size ur g.R∧RRow intC 1 w w.heap.size ud g.Ds
theorem Gr.lt {w:World} {gB:Nat} {g:Gp} (h:Gr w gB g):gB<w.heap.size:=by
 obtain⟨uq,uc,ub,uh,ug,ur,ud,h1,_⟩:=h.box;exact(ai.1 h1).1
theorem Gr.below {w w':World} {gB:Nat} {g:Gp} (h:Gr w gB g) (k:Below w.heap.size w w'):Gr w' gB g:=by
 obtain⟨uq,uc,ub,uh,ug,ur,ud,h1,h2,h3,h4,h5⟩:=h.box;exact⟨uq,uc,ub,uh,ug,ur,ud,(k.block _ h.lt).trans h1,h2.below' k,h3.below' k,h4.below' k,h5.below' k⟩
theorem Gr.ck {w w':World} {gB:Nat} {g:Gp} (h:Gr w gB g) (k:CK w w'):Gr w' gB g:=by
 obtain⟨uq,uc,ub,uh,ug,ur,ud,h1,h2,h3,h4,h5⟩:=h.box;exact⟨uq,uc,ub,uh,ug,ur,ud,k.2 _ _ _ _ h1,h2.ck k,h3.ck k,h4.ck k,h5.ck k⟩
theorem pF (g:Gp) (hg:GOK g) (gB n:Nat) (w0 w:World) (h:Gr w0 gB g) (hk:CK w0 w) (hn:n<g.R.length):Calls Tryz.prog 127 #[.pointer (some ⟨gB,0,none⟩),.int .i64 (n:Int)] w fun e w'=>∃u,e= .returned u∧RSps w' w'.heap.size u (roomsP g n)∧Below w.heap.size w w'∧∀V,CK w0 V→(∀(q:Nat) (cs:Array Value) (f:Nat×Nat),w'.heap[q]? =some (Obj.cells cs 86 f)→V.heap[q]? =some (Obj.cells cs 86 f))→RSps V V.heap.size u (roomsP g n):=by
 obtain⟨uq,uc,ub,uh,ug,ur,ud,h1,h2,h3,h4,h5⟩:=h.box;obtain⟨a,c,rfl,e1,e2,e3⟩:=h4;obtain⟨b,o,rfl,hb,hc⟩:=e3 (by omega);obtain⟨l,hl⟩:∃l,g.R[n]? =some l:=⟨_,am hn⟩
 obtain⟨u,hu,hru⟩:=hc n l hl;have HRU:=aa hru;have HK:=aa hk;have cg:=fun q=>cU (hk.2 _ _ _ _ h1) q
 have pu:=hk.cell hu;have hgl:gB<w.heap.size:=aO h.lt hk.1;have hbl:b<w.heap.size:=aO hb hk.1;have n0:(0:Int)≤(n:Int):=by omega
 have n1:(n:Int)<(g.R.length:Int):=by omega
 have HL:=aa hl;unfold maxLen at e2;clear h2 h3 h5 hc hl hru e3 h1 h hk hu;by_cases z:(n:Int)=g.dst
 ·have d1:((n:Int)==g.dst)=true:=by simpa using z
  have HP:Hid (roomsP g n=[(0,1099511627776)]):=aa (if_pos z);clear z;go_enter Tryz.func127,Tryz.ntmps127
  go_wp2
  go_ret
  refine⟨_,rfl,by rw[HP.out];exact RSps.one cW rfl,cZ,fun V _ hV=>?_⟩
  rw[HP.out];exact RSps.one (hV _ _ _ cW) rfl
 ·have d1:((n:Int)==g.dst)=false:=by simpa using z
  have HP:Hid (roomsP g n=l):=aa (by unfold roomsP;rw[if_neg z,aJ,HL.out];rfl);clear z;go_enter Tryz.func127,Tryz.ntmps127
  go_wp2
  go_ret
  exact⟨_,rfl,by rw[HP.out];exact HRU.out.ck HK.out,ap _ _,fun V hV _=>by rw[HP.out];exact HRU.out.ck hV⟩
theorem fZ (g:Gp) (hg:GOK g) (gB i:Nat) (c:Con) (b e a:Int) (w:World) (h:Gr w gB g) (hc:g.cs[i]? =some c) (h0:0≤e) (h1:e≤2000000000000):Calls Tryz.prog 129 #[.pointer (some ⟨gB,0,none⟩),.agg #[.int .i64 (i:Int),.int .i64 b,.int .i64 e,.int .i64 a]] w fun r w'=>r= .returned (.int .i64 (leaveS g.cu e c.rg))∧Below w.heap.size w w':=by
 obtain⟨uq,uc,ub,uh,ug,ur,ud,g1,g2,g3,g4,g5⟩:=h.box;obtain⟨ca,cc,rfl,e1,e2,e3,e4⟩:=g2;have hil:=(aw.1 hc).1;obtain⟨bb,o,rfl,hbb,hcell⟩:=e4 (by omega);have hcf:=ee (hg.con c (az hc)).1;have r0:=hcf.rg0;have r1:=hcf.rg1;have p5:w.cell? ⟨bb,o+i*7+5,none⟩=some (.int .i64 c.rg):=hcell i c hc 5 _ rfl;have cg:=fun q=>cU g1 q
 have hgl:=h.lt;have i0:(0:Int)≤(i:Int):=by omega
 have i1:(i:Int)<(g.cs.length:Int):=by omega
 obtain⟨rg,hrg⟩:=cR c.rg
 rw[hrg]at r0 r1 p5 ⊢;have w1_:IntKind.i64.wrap (2*rg)=2*rg:=by rw[ax];omega
 have w2_:IntKind.i64.wrap (e+2*rg)=e+2*rg:=by rw[ax];omega
 obtain⟨cu,hcu⟩:=cR g.cu
 rw[hcu]at cg ⊢;unfold maxLen at e2;clear g3 g4 g5 hcell hcf g1 e3 e4 h hc hrg hcu hg
 cases cu with
 | true=>
  go_enter Tryz.func129,Tryz.ntmps129
  go_upto_region 2 with fail
  obtain⟨W,hW⟩:=cR (w.alloc (.cells #[.int .i64 (i:Int),.int .i64 b,.int .i64 e,.int .i64 a] 68))
  rw[hW];have B1:Below w.heap.size w W:=by rw[←hW];exact de (ap _ _)
  have cx:=fun q=>cU (w:=W) (g:=w.heap.size) (by rw[←hW];exact cW) q
  have cg':=fun q=>(B1.cell (p:=⟨gB,q,none⟩) hgl).trans (cg q)
  have p5':=(B1.cell (p:=⟨bb,o+i*7+5,none⟩) hbb).trans p5;clear hW cg p5;go_quiet (fail)
  go_wp2
  go_ret
  exact⟨rfl,eu B1 _⟩
 | false=>
  go_enter Tryz.func129,Tryz.ntmps129
  go_wp2
  go_ret
  exact⟨rfl,cZ⟩
theorem ghop_any (g:Gp) (hg:GOK g) (gB i:Nat) (c:Con) (d f:Int) (l:List Sp) (w:World) (h:Gr w gB g) (hc:g.cs[i]? =some c) (hd:g.Ds[i]? =some d) (hl:g.G[i]? =some l) (h0:0≤f) (h1:f≤1099511627776):
  Calls Tryz.prog 128 #[.pointer (some ⟨gB,0,none⟩),.int .i64 (i:Int),.int .i64 f] w fun r w'=>Below w.heap.size w w'∧((∃b,hopG l d f=some b∧r= .returned (.tuple #[.agg #[.int .i64 (i:Int),.int .i64 b,.int .i64 (b+d),.int .i64 (b+d+c.rg)],.bool true]))∨(hopG l d f=none∧r= .returned (.tuple #[.agg #[.int .i64 0,.int .i64 0,.int .i64 0,.int .i64 0],.bool false]))):=by
 obtain⟨uq,uc,ub,uh,ug,ur,ud,g1,g2,g3,g4,g5⟩:=h.box;obtain⟨ca,cc,rfl,e1,e2,e3,e4⟩:=g2;have hil:=(aw.1 hc).1;obtain⟨bb,o,rfl,hbb,hcell⟩:=e4 (by omega);have p5:w.cell? ⟨bb,o+i*7+5,none⟩=some (.int .i64 c.rg):=hcell i c hc 5 _ rfl;obtain⟨da,dc,rfl,d1,d2,d3,d4⟩:=g5;have hid_:=(aw.1 hd).1;obtain⟨db,od,rfl,hdb,hdcell⟩:=d4 (by omega);have pd:w.cell? ⟨db,od+i,none⟩=some (.int .i64 d):=by have:=hdcell i d hd 0 _ rfl;simpa using this
 obtain⟨ga,gc,rfl,f1,f2,f3⟩:=g3;have hig:=(aw.1 hl).1;obtain⟨gb,og,rfl,hgb,hgcell⟩:=f3 (by omega);obtain⟨u,pu,hru⟩:=hgcell i l hl;obtain⟨la,lc,rfl,l1,l2,l3,l4⟩:=hru;have hcf:=ee (hg.con c (az hc)).1;have r0:=hcf.rg0;have r1:=hcf.rg1;have hds:=hg.ds d (az hd);have hgs:=hg.gs l (az hl);have cg:=fun q=>cU g1 q
 have hgl:=h.lt;have i0:(0:Int)≤(i:Int):=by omega
 have i1:(i:Int)<(g.cs.length:Int):=by omega
 have i2:(i:Int)<(g.Ds.length:Int):=by omega
 have i3:(i:Int)<(g.G.length:Int):=by omega
 obtain⟨rg,hrg⟩:=cR c.rg
 rw[hrg]at r0 r1 p5 ⊢;have HL4:=aa l4;have HGS:=aa hgs.2;have hlen:=hgs.1;unfold maxLen at e2 d2 f2 l2;clear g4 hcell hcf g1 e3 e4 h hc hd hl hrg hg d3 d4 hdcell hgcell f3 l3 l4 hgs;go_enter Tryz.func128,Tryz.ntmps128
 go_wp2_with fail
 obtain⟨W,hW⟩:=cR (w.alloc (.cells #[.int .i64 0,.int .i64 0,.int .i64 0,.int .i64 0] 68))
 rw[hW];have B1:Below w.heap.size w W:=by rw[←hW];exact de (ap _ _)
 have HX:Hid (W.heap[w.heap.size]? =some (.cells #[.int .i64 0,.int .i64 0,.int .i64 0,.int .i64 0] 68 (0,0))):=aa (by rw[←hW];exact cW);have z1:w.heap.size<W.heap.size:=by rw[←hW];simp
 have HB1:=aa B1;clear hW B1;go_loopw [28] (fun kv wr=>∃k:Nat,k≤l.length∧kv= .int .i64 (k:Int)∧Hid (hopG l d f=hopG (l.drop k) d f)∧Hid (Below W.heap.size W wr)) (fun kv _=>l.length-(intOf kv).toNat)
 case atStart=>exact⟨0,aE _,rfl,aa rfl,aa (ap _ _)⟩
 case round=>
  obtain⟨k,hk,rfl,HE,HB⟩:=hrel;have zr:W.heap.size≤wr.heap.size:=HB.out.size;have HBw:Hid (Below w.heap.size w wr):=aa (HB1.out.trans (HB.out.mono (by omega)));have HXr:Hid (wr.heap[w.heap.size]? =some (.cells #[.int .i64 0,.int .i64 0,.int .i64 0,.int .i64 0] 68 (0,0))):=aa ((HB.out.block _ z1).trans HX.out);by_cases hlt:k<l.length
  ·obtain⟨x,hx⟩:∃x,l[k]? =some x:=⟨_,am hlt⟩
   obtain⟨lb,ol,rfl,hlb,hlc⟩:=HL4.out (by omega);have q0:wr.cell? ⟨lb,ol+k*2,none⟩=some (.int .i64 x.1):=(HBw.out.cell (p:=⟨lb,ol+k*2,none⟩) hlb).trans (sp0 hlc hx);have q1:wr.cell? ⟨lb,ol+k*2+1,none⟩=some (.int .i64 x.2):=(HBw.out.cell (p:=⟨lb,ol+k*2+1,none⟩) hlb).trans (sp1 hlc hx);have hxo:=HGS.out x (az hx);unfold spOK at hxo;have HDR:Hid (hopG (l.drop k) d f=if max x.1 f+d≤x.2 then some (max x.1 f)else hopG (l.drop (k+1)) d f):=aa (by
    rw[bX hlt];have:l[k]=x:=(aw.1 hx).2;rw[this];rfl)
   obtain⟨M,hM⟩:=cR (max x.1 f)
   have hM0:0≤M∧M≤1099511627776:=by omega
   rw[hM]at HDR;have HM:=aa hM;have k0:(0:Int)≤(k:Int):=by omega
   have k1:(k:Int)<(l.length:Int):=by omega
   have w1_:IntKind.i64.wrap (M+d)=M+d:=by rw[ax];omega
   have w2_:IntKind.i64.wrap (M+d+rg)=M+d+rg:=by rw[ax];omega
   have cgr:=fun q=>(HBw.out.cell (p:=⟨gB,q,none⟩) hgl).trans (cg q)
   have p5r:=(HBw.out.cell (p:=⟨bb,o+i*7+5,none⟩) hbb).trans p5;have zg:gB<wr.heap.size:=by omega
   have zb:bb<wr.heap.size:=by omega
   have hmx:max x.1 f=M:=HM.out;clear hx hM hlc hxo hM0;by_cases zz:M+d≤x.2
   ·have dz:decide (M+d≤x.2)=true:=decide_eq_true zz
    have HR:Hid (hopG l d f=some M):=aa (by rw[HE.out,HDR.out,if_pos zz]);have HMX:=aa hmx;have hmx':(if f≤x.1 then x.1 else f)=M:=by rw[←HM.out];omega
    go_wp2_with (refine dv rfl 68 _ _ rfl w.heap.size #[.int .i64 (i:Int),.int .i64 M,.int .i64 (M+d),.int .i64 (M+d+rg)] _ 68 rfl rfl ((ak _ _ _ (by omega)).trans HXr.out) rfl (by kernel_rfl) (by simp[Value.oneCell']) ?_;intro wF hW hbW hsW hoW;have bF:Below w.heap.size w wF:=(HBw.out.trans ((de (ap _ _)).mono (by omega))).trans (hbW _ (aj _));have zF:w.heap.size<wF.heap.size:=(ai.1 hW).1;have cF:=fun o=>cU hW o;clear hW hbW hsW hoW)
    refine bodyPost_ret (v:=.tuple #[.agg #[.int .i64 (i:Int),.int .i64 M,.int .i64 (M+d),.int .i64 (M+d+rg)],.bool true]) (by simp[results,Tryz.results128,go_sem,aP,cF,zF]) rfl ?_
    exact⟨bF,.inl ⟨M,HR.out,rfl⟩⟩
   ·have dz:decide (M+d≤x.2)=false:=decide_eq_false zz
    have HR:Hid (hopG l d f=hopG (l.drop (k+1)) d f):=aa (by rw[HE.out,HDR.out,if_neg zz]);have hmx':(if f≤x.1 then x.1 else f)=M:=by rw[←HM.out];omega
    clear zz;go_wp2
    go_roundw
    case rel=>exact⟨k+1,by omega,by go_num,HR,aa (HB.out.alloc zr _)⟩
    case measure=>simp[intOf];omega
  ·obtain rfl:k=l.length:=by omega
   have HR:Hid (hopG l d f=none):=aa (by rw[HE.out,List.drop_length];rfl);go_wp2_with (refine dv rfl 68 _ _ rfl w.heap.size #[.int .i64 0,.int .i64 0,.int .i64 0,.int .i64 0] _ 68 rfl rfl HXr.out rfl (by kernel_rfl) (by simp[Value.oneCell']) ?_;intro wF hW hbW hsW hoW;have bF:Below w.heap.size w wF:=HBw.out.trans (hbW _ (aj _));have zF:w.heap.size<wF.heap.size:=(ai.1 hW).1;have cF:=fun o=>cU hW o;clear hW hbW hsW hoW)
   refine bodyPost_ret (v:=.tuple #[.agg #[.int .i64 0,.int .i64 0,.int .i64 0,.int .i64 0],.bool false]) (by simp[results,Tryz.results128,go_sem,aP,cF,zF]) rfl ?_
   exact⟨bF,.inr ⟨HR.out,rfl⟩⟩
end
section
theorem oN (a b:Lbl):cmpL a b=if cmpI a.tm b.tm=0 then orL [cmpI a.nd b.nd,cmpI a.fr b.fr]else cmpI a.tm b.tm:=by
 unfold cmpL;conv=>lhs;unfold orL
theorem cmpL_lt {a b:Lbl} (h:cmpL a b<0):a.tm≤b.tm:=by
 rw[oN]at h;split at h
 ·rename_i h2
  exact Int.le_of_eq (dV.1 h2)
 ·unfold cmpI at h
  split at h
  ·omega
  ·split at h<;>omega
theorem cmpL_ge {a b:Lbl} (h:¬cmpL a b<0):b.tm≤a.tm:=by
 refine Int.not_lt.1 fun hlt=>h ?_
 have:cmpI a.tm b.tm= -1:=if_pos hlt;rw[oN,this,if_neg (by decide)];decide
theorem minf_any (O:List Lbl) (u:Value) (w:World) (hr:RRow lblC 4 w w.heap.size u O) (hn:0<O.length) (hl:O.length≤1000000000000):
  Calls Tryz.prog 119 #[u,.func (.func 120) #[] #[]] w fun e w'=>(∃x∈O,e= .returned (.agg #[.int .i64 x.nd,.int .i64 x.fr,.int .i64 x.tt,.int .i64 x.tm])∧∀y∈O,x.tm≤y.tm)∧Below w.heap.size w w':=by
 obtain⟨a,c,rfl,h1,h2,h3,h4⟩:=hr;obtain⟨bb,o,rfl,hbb,hcell⟩:=h4 hn;have HC:=aa hcell;unfold maxLen at h2;obtain⟨x0,hx0⟩:∃x,O[0]? =some x:=⟨_,am hn⟩
 have q0:w.cell? ⟨bb,o,none⟩=some (.int .i64 x0.nd):=by have:=hcell 0 x0 hx0 0 _ rfl;simpa using this
 have q1:w.cell? ⟨bb,o+1,none⟩=some (.int .i64 x0.fr):=by have:=hcell 0 x0 hx0 1 _ rfl;simpa using this
 have q2:w.cell? ⟨bb,o+2,none⟩=some (.int .i64 x0.tt):=by have:=hcell 0 x0 hx0 2 _ rfl;simpa using this
 have q3:w.cell? ⟨bb,o+3,none⟩=some (.int .i64 x0.tm):=by have:=hcell 0 x0 hx0 3 _ rfl;simpa using this
 have n0:(0:Int)<(O.length:Int):=by omega
 have n1:¬(O.length:Int)<1:=by omega
 have n2:¬O.length<1:=by omega
 have HX0:=aa hx0;clear h3 h4 hcell hx0;go_enter Tryz.func119,Tryz.ntmps119
 go_wp2_with fail
 obtain⟨W,hW⟩:=cR ((w.alloc (.cells #[.int .i64 0,.int .i64 0,.int .i64 0,.int .i64 0] 153)).alloc (.cells #[.int .i64 x0.nd,.int .i64 x0.fr,.int .i64 x0.tt,.int .i64 x0.tm] 153))
 rw[hW];have B1:Hid (Below w.heap.size w W):=aa (by rw[←hW];exact cZ);have XZ:Hid (W.heap[w.heap.size]? =some (.cells #[.int .i64 0,.int .i64 0,.int .i64 0,.int .i64 0] 153 (0,0))):=aa (by rw[←hW];exact(by repeat (first | exact cY (by first | rfl | (simp;done)) | refine(ak _ _ _ (by first | (simp;done) | (simp;omega))).trans ?_)));have XM:Hid (W.heap[w.heap.size+1]? =some (.cells #[.int .i64 x0.nd,.int .i64 x0.fr,.int .i64 x0.tt,.int .i64 x0.tm] 153 (0,0))):=aa (by rw[←hW];exact(by repeat (first | exact cY (by first | rfl | (simp;done)) | refine(ak _ _ _ (by first | (simp;done) | (simp;omega))).trans ?_)));clear hW q0 q1 q2 q3;go_loopw [6] (fun kv wr=>∃(k:Nat) (x:Lbl),1≤k∧k≤O.length∧kv= .int .i64 (k:Int)∧Hid (x∈O∧∀j y,j<k→O[j]? =some y→x.tm≤y.tm)∧Hid (wr.heap[w.heap.size]? =some (.cells #[.int .i64 0,.int .i64 0,.int .i64 0,.int .i64 0] 153 (0,0)))∧Hid (wr.heap[w.heap.size+1]? =some (.cells #[.int .i64 x.nd,.int .i64 x.fr,.int .i64 x.tt,.int .i64 x.tm] 153 (0,0)))∧Hid (Below w.heap.size w wr)) (fun kv _=>O.length-(intOf kv).toNat)
 case atStart=>exact⟨1,x0,aj _,by omega,rfl,aa ⟨az HX0.out,fun j y hj hy=>by have e:j=0:=(by omega);subst e;rw[HX0.out]at hy;injection hy with hy;subst hy;exact aR _⟩,XZ,XM,B1⟩
 case round=>
  obtain⟨k,x,k1,k2,rfl,HX,HZ,HM,HB⟩:=hrel;have z1:w.heap.size+1<wr.heap.size:=(ai.1 HM.out).1;have cm:=fun q=>cU HM.out q
  by_cases hlt:k<O.length
  ·obtain⟨y,hy⟩:∃y,O[k]? =some y:=⟨_,am hlt⟩
   have p0:wr.cell? ⟨bb,o+k*4,none⟩=some (.int .i64 y.nd):=(HB.out.cell (p:=⟨bb,o+k*4,none⟩) hbb).trans (HC.out k y hy 0 _ rfl);have p1:wr.cell? ⟨bb,o+k*4+1,none⟩=some (.int .i64 y.fr):=(HB.out.cell (p:=⟨bb,o+k*4+1,none⟩) hbb).trans (HC.out k y hy 1 _ rfl);have p2:wr.cell? ⟨bb,o+k*4+2,none⟩=some (.int .i64 y.tt):=(HB.out.cell (p:=⟨bb,o+k*4+2,none⟩) hbb).trans (HC.out k y hy 2 _ rfl);have p3:wr.cell? ⟨bb,o+k*4+3,none⟩=some (.int .i64 y.tm):=(HB.out.cell (p:=⟨bb,o+k*4+3,none⟩) hbb).trans (HC.out k y hy 3 _ rfl);have zb:bb<wr.heap.size:=by omega
   have k0:(0:Int)≤(k:Int):=by omega
   have k3:(k:Int)<(O.length:Int):=by omega
   have HY:=aa hy;obtain⟨C,hC⟩:=cR (cmpL y x)
   have HCC:=aa hC;clear hy hC;go_upto_region 7 with fail
   refine dd (fun V=>Below (wr).heap.size (wr) V) [0,0,0,0,1,1,3,0] [0,1,2,3,4,5,6,7] (by kernel_rfl) (by kernel_rfl) ?_ ?_
   case refine_1=>exact cZ
   (iterate 6 (first | (refine cX rfl (by decide) (by rfl) (fun w1 hS=>by(try(obtain⟨_,_⟩:=bcell (hS rfl)));go_simp;rfl) ?_;simp only[Act.put,ae,af,ag]) | (refine dm rfl (by decide) (by rfl) ?_;simp only[Act.put,ae,af,ag])))
   (refine di rfl rfl (by rfl) (fun K hK=>?_);go_simp)
   refine(lcmp_any y x _).mono ?_
   rw[HCC.out];rintro e wc26 ⟨rfl,hbc26⟩
   (refine hK _ _ ?_;clear hK K;(try simp only[Act.put,ae,af,ag]))
   (iterate 1 (first | (refine cX rfl (by decide) (by rfl) (fun w1 hS=>by(try(obtain⟨_,_⟩:=bcell (hS rfl)));go_simp;rfl) ?_;simp only[Act.put,ae,af,ag]) | (refine dm rfl (by decide) (by rfl) ?_;simp only[Act.put,ae,af,ag])))
   refine du ?_
   have K2:Below wr.heap.size wr wc26:=dq (bdrew (ap _ _)) hbc26;have HZ2:Hid (wc26.heap[w.heap.size]? =some (.cells #[.int .i64 0,.int .i64 0,.int .i64 0,.int .i64 0] 153 (0,0))):=aa ((K2.block _ (by omega)).trans HZ.out);have HM2:Hid (wc26.heap[w.heap.size+1]? =some (.cells #[.int .i64 x.nd,.int .i64 x.fr,.int .i64 x.tt,.int .i64 x.tm] 153 (0,0))):=aa ((K2.block _ z1).trans HM.out);have HB2:Hid (Below w.heap.size w wc26):=aa (HB.out.trans (K2.mono (by omega)));have z2:w.heap.size+1<wc26.heap.size:=(ai.1 HM2.out).1;by_cases hc:C<0
   ·have dc:decide (C<0)=true:=decide_eq_true hc
    have HN:Hid (y∈O∧∀j v,j<k+1→O[j]? =some v→y.tm≤v.tm):=aa ⟨az HY.out,fun j v hj hv=>by
     by_cases e:j=k
     ·subst e;rw[HY.out]at hv;injection hv with hv;subst hv;exact aR _
     ·exact Int.le_trans (cmpL_lt (by rw[HCC.out];exact hc)) (HX.out.2 j v (by omega) hv)⟩
    have p0':=(K2.cell (p:=⟨bb,o+k*4,none⟩) zb).trans p0;have p1':=(K2.cell (p:=⟨bb,o+k*4+1,none⟩) zb).trans p1;have p2':=(K2.cell (p:=⟨bb,o+k*4+2,none⟩) zb).trans p2;have p3':=(K2.cell (p:=⟨bb,o+k*4+3,none⟩) zb).trans p3;have zb':bb<wc26.heap.size:=by omega
    clear K2 hbc26 cm p0 p1 p2 p3 hc;rw[dc];go_wp2_with (refine dv rfl 153 _ _ rfl (w.heap.size+1) #[.int .i64 y.nd,.int .i64 y.fr,.int .i64 y.tt,.int .i64 y.tm] _ 153 rfl rfl HM2.out rfl (by kernel_rfl) (by simp[Value.oneCell']) ?_;intro wF hW hbW hsW hoW;have HF:=aa hW;have HZF:=aa ((hoW w.heap.size (by omega)).trans HZ2.out);have HBF:=aa (HB2.out.trans (hbW w.heap.size (by omega)));clear hW hbW hsW hoW)
    go_roundw
    case rel=>exact⟨k+1,y,by omega,by omega,by go_num,HN,HZF,HF,HBF⟩
    case measure=>simp[intOf];omega
   ·have dc:decide (C<0)=false:=decide_eq_false hc
    have HN:Hid (x∈O∧∀j v,j<k+1→O[j]? =some v→x.tm≤v.tm):=aa ⟨HX.out.1,fun j v hj hv=>by
     by_cases e:j=k
     ·subst e;rw[HY.out]at hv;injection hv with hv;subst hv;exact cmpL_ge (by rw[HCC.out];exact hc)
     ·exact HX.out.2 j v (by omega) hv⟩
    clear K2 hbc26 cm p0 p1 p2 p3 hc;rw[dc];go_wp2
    go_roundw
    case rel=>exact⟨k+1,x,by omega,by omega,by go_num,HN,HZ2,HM2,HB2⟩
    case measure=>simp[intOf];omega
  ·obtain rfl:k=O.length:=by omega
   go_wp2_with (refine dv rfl 153 _ _ rfl w.heap.size #[.int .i64 x.nd,.int .i64 x.fr,.int .i64 x.tt,.int .i64 x.tm] _ 153 rfl rfl HZ.out rfl (by kernel_rfl) (by simp[Value.oneCell']) ?_;intro wF hW hbW hsW hoW;have bF:Below w.heap.size w wF:=HB.out.trans (hbW _ (aj _));have zF:w.heap.size<wF.heap.size:=(ai.1 hW).1;have cF:=fun o=>cU hW o;clear hW hbW hsW hoW)
   refine bodyPost_ret (v:=.agg #[.int .i64 x.nd,.int .i64 x.fr,.int .i64 x.tt,.int .i64 x.tm]) (by simp[results,Tryz.results119,go_sem,aP,cF,zF]) rfl ?_
   exact⟨⟨x,HX.out.1,rfl,fun y hy=>by obtain⟨j,hj⟩:=List.getElem?_of_mem hy;exact HX.out.2 j y (aw.1 hj).1 hj⟩,bF⟩
end
section
def PredD (f:FuncId) (caps:Array Value) (Pd:Lbl→Bool) (g:Nat) (w:World) (l:List Lbl):Prop:=(∀args W,(callFunc f args).run Tryz.prog W= .ok (.enter f args) W)∧
 ∀(x:Lbl) (W:World),x∈l→w.heap.size≤W.heap.size→(∀q,q<w.heap.size→q≠g→W.heap[q]? =w.heap[q]?)→Calls Tryz.prog f (#[.agg #[.int .i64 x.nd,.int .i64 x.fr,.int .i64 x.tt,.int .i64 x.tm]]++caps) W fun e W'=>e= .returned (.bool (Pd x))∧Below W.heap.size W W'
theorem PredD.pred {f:FuncId} {caps:Array Value} {Pd:Lbl→Bool} {g:Nat} {w:World} {l:List Lbl} (h:PredD f caps Pd g w l):PredL f caps Pd w l:=⟨h.1,fun x W hx hW=>h.2 x W hx hW.size (fun q hq _=>hW.block q hq)⟩
def lbs (l:List Lbl):List Value:=l.flatMap lblC
theorem lT (l:List Lbl):(lbs l).length=l.length*4:=ef lblC 4 fA l
theorem mA (l:List Lbl) (x:Lbl):lbs (l++[x])=lbs l++lblC x:=by unfold lbs;rw[aV];simp
theorem jK (l:List Lbl) (q k:Nat) (hk:k<4) {x:Lbl} (hx:l[q]? =some x):(lbs l)[q*4+k]? =(lblC x)[k]?:=by
 have:=eG lblC 4 fA l q k hk;rw[hx]at this;exact this
theorem RRow.of_lbs {w:World} {base n:Nat} {e:TypeId} {v:Value} {l:List Lbl} (h:w.ownsRow base e 4 v n (lbs l)):RRow lblC 4 w w.heap.size v l:=by
 have hl:n=l.length:=by have:=h.1;rw[lT]at this;omega
 subst hl;rcases h.2 with⟨rfl,hz⟩ | ⟨g,cap,cur,rfl,hb,hg,hn,hm,hs,ht⟩
 ·have:l=[]:=aF hz
  subst this;exact RRow.nil _ _ _ _
 ·refine⟨_,cap,rfl,hn,hm,(fun h=>by cases h),fun _=>⟨g,0,rfl,(ai.1 hg).1,fun i x hx j u hu=>?_⟩⟩
  have hj:j<4:=by have:=(aw.1 hu).1;rwa [fA]at this
  have:=h.cells (g:=g) rfl (i*4+j) u (by rw[jK l i j hj hx];exact hu);rw[fj]at this;rw[Nat.add_assoc];exact this
def DelR (cur:Array Value) (cap:Nat) (keep:Lbl→Bool) (O:List Lbl) (j:Nat):Prop:=
 cur.size=cap*4∧(∀(q:Nat) (x:Lbl),((O.take j).filter keep)[q]? =some x→∀k,k<4→cur[q*4+k]? =(lblC x)[k]?)∧∀(q:Nat) (x:Lbl),j≤q→O[q]? =some x→∀k,k<4→cur[q*4+k]? =(lblC x)[k]?
theorem nT {keep:Lbl→Bool} {O:List Lbl} {j:Nat}:((O.take j).filter keep).length≤j:=aK (bn _ _) (List.length_take_le _ _)
theorem DelR.skip {cur:Array Value} {cap:Nat} {keep:Lbl→Bool} {O:List Lbl} {j:Nat} {x:Lbl} (h:DelR cur cap keep O j) (hx:O[j]? =some x) (hk:keep x=false):DelR cur cap keep O (j+1):=by
 obtain⟨h1,h2,h3⟩:=h;have e:(O.take (j+1)).filter keep=(O.take j).filter keep:=by rw[aN,hx,aW];simp[hk]
 exact⟨h1,by rw[e];exact h2,fun q y hq=>h3 q y (by omega)⟩
theorem DelR.put {cur:Array Value} {cap:Nat} {keep:Lbl→Bool} {O:List Lbl} {j i:Nat} {x:Lbl} (h:DelR cur cap keep O j) (hx:O[j]? =some x) (hk:keep x=true) (hi:i=((O.take j).filter keep).length) (hc:O.length≤cap):DelR (setAll cur (i*4) (lblC x)) cap keep O (j+1)∧i+1=((O.take (j+1)).filter keep).length:=by
 obtain⟨h1,h2,h3⟩:=h;have e:(O.take (j+1)).filter keep=(O.take j).filter keep++[x]:=by rw[aN,hx,aW];simp[hk]
 have hj:=(aw.1 hx).1;have hij:i≤j:=by rw[hi];exact nT
 have hfit:i*4+(lblC x).length≤cur.size:=by rw[h1,fA];omega
 refine⟨⟨by rw[eU];exact h1,fun q y hy k hk4=>?_,fun q y hq hy k hk4=>?_⟩,by rw[e,ay,←hi];rfl⟩
 ·rw[eS _ _ _ _ hfit,fA]
  rw[e]at hy;rcases bq q i with hq | hq
  ·rw[bH (by rw[←hi];exact hq)]at hy
   rw[if_neg (by omega)];exact h2 q y hy k hk4
  ·rw[bz (by rw[←hi];exact hq),←hi]at hy
   obtain rfl:q=i:=by
    rcases bq i q with h' | h'
    ·rw[bj (by simp;omega)]at hy;cases hy
    ·omega
   simp at hy
   subst hy;rw[if_pos (by omega),show q*4+k-q*4=k by omega]
 ·rw[eS _ _ _ _ hfit,fA,if_neg (by omega)]
  exact h3 q y (by omega) hy k hk4
theorem j5 {P:Program} (w:World) (t e:TypeId) (ht:P.underlying t=some (.slice e)) (hv:∀w,(zeroValue e).run P w= .ok (.agg #[.int .i64 0,.int .i64 0,.int .i64 0,.int .i64 0]) w) (b o n c:Nat)
  (hc:∀j,j<n*4→(w.cell? ⟨b,o+j,none⟩).isSome=true) (hf:∀j,j<n*4→w.frozen? ⟨b,o+j,none⟩=false):
  ∃cs:List Value,cs.length=n*4∧∀ty,(Builtin.clear_ #[t] ty #[.slice (some ⟨b,o,none⟩) n c]).run P w= .ok (.tuple #[]) (w.setCells b o cs):=by
 rcases bC n with rfl | hn
 ·exact⟨[],rfl,fun ty=>by simp[Builtin.clear_,run_underlying ht,World.setCells]⟩
 ·obtain⟨cs,hcs⟩:=cR ((Builtin.zeroCells #[.int .i64 0,.int .i64 0,.int .i64 0,.int .i64 0] n).toList)
  have hl:cs.length=n*4:=by rw[←hcs];simp[Builtin.zeroCells,Nat.mul_comm]
  have h1:∀u∈cs,u.oneCell'=true:=by
   intro u hu;rw[←hcs]at hu;simp[Builtin.zeroCells]at hu
   obtain⟨i,_,rfl⟩:=hu;have:i % 4<4:=Nat.mod_lt _ (by omega);rcases(show i % 4=0∨i % 4=1∨i % 4=2∨i % 4=3 by omega)with h | h | h | h<;>simp[h]<;>rfl
  have hst:=run_storeCells_cells (P:=P) b o cs 0 w (by rw[hl];simpa using hc) (by rw[hl];simpa using hf) h1;simp only[Nat.add_zero]at hst;obtain⟨m,rfl⟩:∃m,n=m+1:=⟨n-1,by omega⟩
  refine⟨cs,hl,fun ty=>?_⟩
  have hz:(Value.agg #[.int .i64 0,.int .i64 0,.int .i64 0,.int .i64 0]).cells=#[.int .i64 0,.int .i64 0,.int .i64 0,.int .i64 0]:=rfl;simp[Builtin.clear_,run_underlying ht,hv,hz,hcs,hst]
theorem gy:∀(vs:List Value) (o:Nat) (cs:Array Value) (j:Nat),j<o→(setAll cs o vs)[j]? =cs[j]?
 | [],o,cs,j,_=>rfl
 | v::r,o,cs,j,h=>by
  rw[setAll,gy r (o+1) _ j (by omega),Array.getElem?_setIfInBounds_ne (by omega)]
theorem del_any (O:List Lbl) (B g cap:Nat) (f:FuncId) (caps:Array Value) (Pd:Lbl→Bool) (w:World) (ho:w.ownsRow B 153 4 (.slice (some ⟨g,0,none⟩) O.length cap) O.length (lbs O)) (hp:PredD f caps Pd g w O) (hex:∃x∈O,Pd x=true) (hl:O.length≤1000000000000):
  Calls Tryz.prog 121 #[.slice (some ⟨g,0,none⟩) O.length cap,.func (.func f) #[] caps] w fun e w'=>e= .returned (.slice (some ⟨g,0,none⟩) (O.filter fun x=> !Pd x).length cap)∧w'.ownsRow B 153 4 (.slice (some ⟨g,0,none⟩) (O.filter fun x=> !Pd x).length cap) (O.filter fun x=> !Pd x).length (lbs (O.filter fun x=> !Pd x))∧(∀q,q<w.heap.size→q≠g→w'.heap[q]? =w.heap[q]?)∧Below B w w':=by
 have hI:=jx O _ f caps Pd w (RRow.of_lbs ho) (hp.pred);rcases ho.2 with⟨hz,h0⟩ | ⟨g',cap',cur,e,hBg,hg,hn,hm,hs,ht⟩
 ·obtain⟨x,hx,_⟩:=hex
  have:O=[]:=aF h0;rw[this]at hx
  cases hx
 injection e with e1 e2 e3
 injection e1 with e1
 injection e1 with e1
 subst e1 e3;have hcall:=hp.1;have HP:=aa hp.2;have HEX:=aa hex;have HG:=aa hg;have hgl:g<w.heap.size:=(ai.1 hg).1;have HR0:Hid (∀(q:Nat) (x:Lbl),O[q]? =some x→∀k,k<4→cur[q*4+k]? =(lblC x)[k]?):=aa (fun q x hx k hk=>by
  have h1:=jK O q k hk hx;have hq:=(aw.1 hx).1;have ht':cur.toList.take (O.length*4)=lbs O:=ht;rw[←ht',bA,if_pos (by omega)]at h1;rw[←h1];simp)
 have HS:=aa hs;unfold maxLen at hm;clear hp hex hg hs ht ho;go_enter Tryz.func121,Tryz.ntmps121
 go_wp2_with fail
 refine hI.mono ?_
 unfold PredLIdx;rintro e w1 ⟨hb1,⟨rfl,hall⟩ | ⟨k,rfl,hk,hpre,hdel⟩⟩
 ·exfalso
  obtain⟨x,hx,h1⟩:=HEX.out;rw[hall x hx]at h1
  cases h1
 ·have e0:(O.take (k+1)).filter (fun x=> !Pd x)=O.take k:=by
   rw[aN,aW,List.filter_eq_self.2 (fun x hx=>by simp[hpre x hx]),am hk];simp[hdel _ (am hk)]
  have R0:DelR cur cap (fun x=> !Pd x) O (k+1):=by
   refine⟨HS.out,fun q x hx=>?_,fun q x _ hx=>HR0.out q x hx⟩
   rw[e0]at hx;refine HR0.out q x ?_
   rw[bA]at hx;split at hx
   ·exact hx
   ·cases hx
  have RR:=aa R0;have HK:Hid (k=((O.take (k+1)).filter (fun x=> !Pd x)).length):=aa (by rw[e0,aS];omega);have HG1:Hid (w1.heap[g]? =some (.cells cur 153 (0,0))):=aa ((hb1.block _ hgl).trans HG.out);have HB1:=aa hb1;have z1:w.heap.size≤w1.heap.size:=hb1.size;clear hI hpre hdel e0 R0 hb1;have hne:((k:Int)== -1)=false:=beq_eq_false_iff_ne.2 (by omega);go_wp2_with fail
  go_loopw [5,6] (fun iv jv wr=>∃(i j:Nat) (cu:Array Value),iv= .int .i64 (i:Int)∧jv= .int .i64 (j:Int)∧i<j∧j≤O.length∧Hid (i=((O.take j).filter (fun x=> !Pd x)).length)∧Hid (DelR cu cap (fun x=> !Pd x) O j)∧Hid (wr.heap[g]? =some (.cells cu 153 (0,0)))∧Hid (∀q,q<w1.heap.size→q≠g→wr.heap[q]? =w1.heap[q]?)∧Hid (Below B w1 wr)) (fun _ jv _=>O.length-(intOf jv).toNat)
  case atStart=>exact⟨k,k+1,cur,rfl,by go_num,by omega,by omega,HK,RR,HG1,aa (fun _ _ _=>rfl),aa (ap _ _)⟩
  case round=>
   obtain⟨i,j,cu,rfl,rfl,hij,hj,HI,HD,HGr,HO,HB⟩:=hrel;clear HK RR HG1;have hgr:g<wr.heap.size:=(ai.1 HGr.out).1;have zr:w1.heap.size≤wr.heap.size:=HB.out.size;have j0:(0:Int)≤(j:Int):=by omega
   have i0:(0:Int)≤(i:Int):=by omega
   by_cases hlt:j<O.length
   ·obtain⟨x,hx⟩:∃x,O[j]? =some x:=⟨_,am hlt⟩
    have hd:=HD.out.2.2 j x (aj _) hx;have p0:wr.cell? ⟨g,j*4,none⟩=some (.int .i64 x.nd):=by rw[cU HGr.out];exact hd 0 (by omega)
    have p1:wr.cell? ⟨g,j*4+1,none⟩=some (.int .i64 x.fr):=by rw[cU HGr.out];exact hd 1 (by omega)
    have p2:wr.cell? ⟨g,j*4+2,none⟩=some (.int .i64 x.tt):=by rw[cU HGr.out];exact hd 2 (by omega)
    have p3:wr.cell? ⟨g,j*4+3,none⟩=some (.int .i64 x.tm):=by rw[cU HGr.out];exact hd 3 (by omega)
    have j1:(j:Int)<(O.length:Int):=by omega
    have i1:(i:Int)<(O.length:Int):=by omega
    obtain⟨q,hq⟩:=cR (Pd x)
    have HQ:=aa hq;have HX:=aa hx;clear hd hx hq;go_upto_region 8 with fail
    obtain⟨w2,hw2⟩:=cR (wr.alloc (.cells #[.int .i64 x.nd,.int .i64 x.fr,.int .i64 x.tt,.int .i64 x.tm] 153))
    rw[hw2];have K2:Below wr.heap.size wr w2:=by rw[←hw2];exact de (ap _ _)
    have XV:Hid (w2.heap[wr.heap.size]? =some (.cells #[.int .i64 x.nd,.int .i64 x.fr,.int .i64 x.tt,.int .i64 x.tm] 153 (0,0))):=aa (by rw[←hw2];exact cW);have z2:wr.heap.size<w2.heap.size:=by rw[←hw2];simp
    obtain⟨vB,hvB⟩:=cR wr.heap.size
    have HK2:=aa K2;have hgv:g<vB:=by omega
    have zvw:w1.heap.size≤vB:=by omega
    rw[hvB]at XV z2 ⊢;have cv:=fun o=>cU XV.out o
    clear hw2 K2 p0 p1 p2 p3;have hold:∀q,q<w.heap.size→q≠g→w2.heap[q]? =w.heap[q]?:=fun q hq hne=>(HK2.out.block q (by omega)).trans ((HO.out q (by omega) hne).trans (HB1.out.block q hq))
    have hsz:w.heap.size≤w2.heap.size:=by omega
    have HOLD:=aa hold;clear hold;go_wp2_with fail
    refine(HP.out x _ (az HX.out) hsz HOLD.out).mono ?_
    rw[HQ.out];rintro e w3 ⟨rfl,hb3⟩;have z3:w2.heap.size≤w3.heap.size:=hb3.size;have HGr3:Hid (w3.heap[g]? =some (.cells cu 153 (0,0))):=aa ((hb3.block _ (by omega)).trans ((HK2.out.block _ (by omega)).trans HGr.out));have XV3:Hid (w3.heap[vB]? =some (.cells #[.int .i64 x.nd,.int .i64 x.fr,.int .i64 x.tt,.int .i64 x.tm] 153 (0,0))):=aa ((hb3.block _ z2).trans XV.out);have HO3:Hid (∀q,q<w1.heap.size→q≠g→w3.heap[q]? =w1.heap[q]?):=aa (fun q hq hne=>(hb3.block q (by omega)).trans ((HK2.out.block q (by omega)).trans (HO.out q hq hne)));have HB3:Hid (Below B w1 w3):=aa ((HB.out.trans (HK2.out.mono (by omega))).trans (hb3.mono (by omega)));have z4:vB<w3.heap.size:=by omega
    have cv3:=fun o=>cU XV3.out o
    clear cv hb3
    cases q with
    | true=>
     have HD2:=aa (HD.out.skip HX.out (by rw[HQ.out];rfl));have HI2:Hid (i=((O.take (j+1)).filter (fun x=> !Pd x)).length):=aa (by
      rw[HI.out,aN,HX.out,aW];simp[HQ.out])
     go_wp2
     go_roundw
     case rel=>exact⟨i,j+1,cu,rfl,by go_num,by omega,by omega,HI2,HD2,HGr3,HO3,HB3⟩
     case measure=>simp[intOf];omega
    | false=>
     have HDP:=aa (HD.out.put (i:=i) HX.out (by rw[HQ.out];rfl) HI.out hn);have hi4:i*4+4≤cu.size:=by have:=HD.out.1;omega
     go_wp2_with (refine wpList_store_mid rfl 153 _ _ rfl g (i*4) #[.int .i64 x.nd,.int .i64 x.fr,.int .i64 x.tt,.int .i64 x.tm] rfl rfl (fun jj hjj=>by have hjj':jj<4:=hjj;rw[cU HGr3.out,dC HGr3.out];exact⟨by rw[bI (by omega)];rfl,rfl⟩) (by kernel_rfl) (by simp[Value.oneCell']) ?_)
     have HGF:Hid ((w3.setCells g (i*4) (lblC x)).heap[g]? =some (.cells (setAll cu (i*4) (lblC x)) 153 (0,0))):=aa (ez g _ _ _ _ _ HGr3.out);have HOF:Hid (∀q,q<w1.heap.size→q≠g→(w3.setCells g (i*4) (lblC x)).heap[q]? =w1.heap[q]?):=aa (fun q hq hne=>(dR g q hne _ _ _).trans (HO3.out q hq hne));have HBF:Hid (Below B w1 (w3.setCells g (i*4) (lblC x))):=aa (HB3.out.trans (dX g _ _ _ B hBg));obtain⟨wF,hwF⟩:=cR (w3.setCells g (i*4) (lblC x))
     have hwF':w3.setCells g (i*4) [.int .i64 x.nd,.int .i64 x.fr,.int .i64 x.tt,.int .i64 x.tm]=wF:=hwF;rw[hwF]at HGF HOF HBF
     (try rw[hwF'])
     (try rw[hwF])
     clear hwF hwF' cv3;go_wp2
     go_roundw
     case rel=>exact⟨i+1,j+1,_,by go_num,by go_num,by omega,by omega,aa HDP.out.2,aa HDP.out.1,HGF,HOF,HBF⟩
     case measure=>simp[intOf];omega
   ·obtain rfl:j=O.length:=by omega
    have hsome:∀o,o<(O.length-i)*4→(wr.cell? ⟨g,i*4+o,none⟩).isSome=true:=fun o ho=>by
     rw[cU HGr.out,bI (by have:=HD.out.1;omega)];rfl
    obtain⟨cs,hcl,hcs⟩:=j5 (P:=Tryz.prog) wr 62 153 Tryz.underlying62 (fun W=>by kernel_rfl) g (i*4) (O.length-i) (cap-i) hsome (fun o _=>dC HGr.out _);have HCS:=aa hcs;have hi1:i<O.length:=by omega
    have hi2:i<cap:=by omega
    have hi3:(i:Int)≤(O.length:Int):=by omega
    have hi4:¬cap=i:=by omega
    clear hsome HCS;go_wp2
    go_ret
    have e1:i=(O.filter (fun x=> !Pd x)).length:=by have:=HI.out;rwa [aL]at this
    have hgs:i*4+cs.length≤cap*4:=by rw[hcl];omega
    refine⟨by rw[←e1];rfl,⟨by rw[lT],Or.inr ⟨g,cap,setAll cu (i*4) cs,by rw[←e1],hBg,ez g _ _ _ _ _ HGr.out,by rw[←e1];omega,hm,by rw[eU];exact HD.out.1,?_⟩⟩,fun q hq hne=>(dR g q hne _ _ _).trans ((HO.out q (by omega) hne).trans (HB1.out.block q hq)),((HB1.out.mono (by omega)).trans HB.out).trans (dX g _ _ _ B hBg)⟩
    rw[←e1];refine List.ext_getElem? fun q=>?_
    rcases bq q (i*4)with hq | hq
    ·rw[bA,if_pos hq,bw,gy _ _ _ _ hq]
     obtain⟨x,hx⟩:∃x,(O.filter (fun x=> !Pd x))[q / 4]? =some x:=⟨_,am (by omega)⟩
     have h1:=HD.out.2.1 (q / 4) x (by rw[aL];exact hx) (q % 4) (by omega);have h2:=jK (O.filter (fun x=> !Pd x)) (q / 4) (q % 4) (by omega) hx;have h3:q / 4*4+q % 4=q:=by omega
     rw[h3]at h1 h2;rw[h1,h2]
    ·rw[bj (by simp;omega),bj (by rw[lT];omega)]
end
end Go.Proofs.YtfnciigbbolckaaGreat
