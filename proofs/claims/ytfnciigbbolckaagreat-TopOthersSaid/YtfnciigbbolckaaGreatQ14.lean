/- Part 14 of the proof about mailboattop.TopOthers. No condition. -/
import Derived.Test.YtfnciigbbolckaaGreatQ00
import Derived.Test.YtfnciigbbolckaaGreatQ04
import Derived.Test.YtfnciigbbolckaaGreatQ13
set_option linter.unusedVariables false
set_option linter.unusedSimpArgs false
set_option maxRecDepth 100000
set_option maxHeartbeats 64000000
namespace Go.Proofs.YtfnciigbbolckaaGreat
open Go Go.RowKit Iv
attribute [local go_sem] Oper.semAt_some
attribute [local go_sem] pw gu B_app pv B_get B_toList
section
open Go.Sort
section
variable {α:Type} [Inhabited α]
theorem fg (d:Array α) {i j:Nat} (h:i=j):d[i]! =d[j]! :=by rw[h]
def swR (d:Array α) (a b:Nat):Nat→Array α
 | 0=>d
 | n+1=>swp (swR d a b n) (a+n) (b+n)
theorem eI (d:Array α) (a b n:Nat):(swR d a b n).size=d.size:=by
 induction n with
 | zero=>rfl
 | succ n ih=>unfold swR;rw[swp_size,ih]
theorem jR (d:Array α) (a b:Nat):∀n,a+n≤b→b+n≤d.size→∀k,(swR d a b n)[k]! =if a≤k∧k<a+n then d[k-a+b]! else if b≤k∧k<b+n then d[k-b+a]! else d[k]!
 | 0,_,_,k=>by unfold swR;rw[if_neg (by omega),if_neg (by omega)]
 | n+1,h1,h2,k=>by
  have ih:=jR d a b n (by omega) (by omega);unfold swR;rw[swp_get _ (by rw[eI];omega) (by rw[eI];omega),ih,ih,ih]
  repeat' split
  all_goals first | omega | exact fg d (by omega)
theorem fQ (d:Array α) (lo hi a b:Nat) (h0:lo≤a) (h3:hi≤d.size):∀n,a+n≤b→b+n≤hi→PermIn lo hi d (swR d a b n)
 | 0,_,_=>permIn_refl d lo hi
 | n+1,h1,h2=>permIn_trans _ _ _ lo hi (fQ d lo hi a b h0 h3 n (by omega) (by omega)) (swp_permIn _ lo hi (a+n) (b+n) (by omega) (by omega) (by omega) (by omega) (by rw[eI];exact h3))
def rotI (lo m hi k:Nat):Nat:=if k<lo then k else if k<lo+(hi-m)then m+(k-lo)else if k<hi then k-(hi-m)else k
theorem lz {lo m hi:Nat} (h:¬lo<m∨¬m<hi) (h1:lo≤m) (h2:m≤hi) (k:Nat):rotI lo m hi k=k:=by
 unfold rotI
 repeat' split
 all_goals omega
theorem rot_gt (d:Array α) (m i j k:Nat) (h1:j<i) (h2:i≤m) (h3:m+j≤d.size):(swR d (m-i) m j)[rotI (m-(i-j)) m (m+j) k]! =d[rotI (m-i) m (m+j) k]! :=by
 rw[jR d _ _ _ (by omega) (by omega)];unfold rotI
 repeat' split
 all_goals first | omega | exact fg d (by omega)
theorem rot_lt (d:Array α) (m i j k:Nat) (h1:i<j) (h2:i≤m) (h3:m+j≤d.size):(swR d (m-i) (m+j-i) i)[rotI (m-i) m (m+(j-i)) k]! =d[rotI (m-i) m (m+j) k]! :=by
 rw[jR d _ _ _ (by omega) (by omega)];unfold rotI
 repeat' split
 all_goals first | omega | exact fg d (by omega)
theorem rot_eq (d:Array α) (m i k:Nat) (h2:i≤m) (h3:m+i≤d.size):(swR d (m-i) m i)[k]! =d[rotI (m-i) m (m+i) k]! :=by
 rw[jR d _ _ _ (by omega) (by omega)];unfold rotI
 repeat' split
 all_goals first | omega | exact fg d (by omega)
variable {lt:α→α→Bool}
theorem eJ {a b a' b':Nat} {d:Array α} (h:SortedIn lt a b d) (h1:a≤a') (h2:b'≤b):SortedIn lt a' b' d:=fun i j x y z=>h i j (by omega) y (by omega)
theorem eK {a b:Nat} {d d':Array α} (h:SortedIn lt a b d) (e:∀k,a≤k→k<b→d'[k]! =d[k]!):SortedIn lt a b d':=fun i j x y z=>by rw[e i x (by omega),e j (by omega) z];exact h i j x y z
theorem eW (hS:SWO lt) {a b:Nat} {d:Array α} (h:SortedIn lt a b d) {i j:Nat} (x:a≤i) (y:i≤j) (z:j<b):lt d[j]! d[i]! =false:=by
 rcases bq i j with hlt | hge
 ·exact h i j x hlt z
 ·obtain rfl:i=j:=by omega
  exact hS.irrefl _
theorem mT {d d1:Array α} {a st m en b mid:Nat} (h:a≤st∧st≤m∧m≤en∧en≤b∧mid=st+(en-m)) (s1:SortedIn lt a m d) (s2:SortedIn lt m b d) (h1:∀k,d1[k]! =d[rotI st m en k]!):
  SortedIn lt a st d1∧SortedIn lt st mid d1∧SortedIn lt mid en d1∧SortedIn lt en b d1:=by
 obtain⟨e1,e2,e3,e4,rfl⟩:=h;have r:∀k,rotI st m en k=if k<st then k else if k<st+(en-m)then m+(k-st)else if k<en then k-(en-m)else k:=fun k=>rfl
 refine⟨fun i j x y z=>?_,fun i j x y z=>?_,fun i j x y z=>?_,fun i j x y z=>?_⟩
 ·rw[h1,h1,r,r,if_pos (by omega),if_pos (by omega)];exact s1 i j (by omega) y (by omega)
 ·rw[h1,h1,r,r,if_neg (by omega),if_pos (by omega),if_neg (by omega),if_pos (by omega)];exact s2 _ _ (by omega) (by omega) (by omega)
 ·rw[h1,h1,r,r,if_neg (by omega),if_neg (by omega),if_pos (by omega),if_neg (by omega),if_neg (by omega),if_pos (by omega)];exact s1 _ _ (by omega) (by omega) (by omega)
 ·rw[h1,h1,r,r,if_neg (by omega),if_neg (by omega),if_neg (by omega),if_neg (by omega),if_neg (by omega),if_neg (by omega)];exact s2 _ _ (by omega) (by omega) (by omega)
theorem lA (hS:SWO lt) {d d1:Array α} {a st m en b mid:Nat} (h:a≤st∧st≤m∧m≤en∧en≤b∧mid=st+(en-m)) (s1:SortedIn lt a m d) (s2:SortedIn lt m b d) (h1:∀k,d1[k]! =d[rotI st m en k]!)
  (hA:a<st→en<b→lt d[en]! d[st-1]! =false) (hB:st<m→m<en→lt d[en-1]! d[st]! =true):
  ∀x y,a≤x→x<mid→mid≤y→y<b→lt d1[y]! d1[x]! =false:=by
 obtain⟨e1,e2,e3,e4,rfl⟩:=h;have r:∀k,rotI st m en k=if k<st then k else if k<st+(en-m)then m+(k-st)else if k<en then k-(en-m)else k:=fun k=>rfl
 intro x y x1 x2 y1 y2;rw[h1,h1,r,r];by_cases cx:x<st
 ·rw[if_neg (by omega),if_neg (by omega),if_pos cx]
  by_cases cy:y<en
  ·rw[if_pos cy];exact eW hS s1 x1 (by omega) (by omega)
  ·rw[if_neg cy]
   exact hS.ntrans _ _ _ (hS.ntrans _ _ _ (eW hS s2 e3 (show en≤y by omega) y2) (hA (by omega) (by omega))) (eW hS s1 x1 (show x≤st-1 by omega) (by omega))
 ·rw[if_neg (by omega),if_neg (by omega),if_neg cx,if_pos x2]
  by_cases cy:y<en
  ·rw[if_pos cy]
   exact hS.ntrans _ _ _ (hS.ntrans _ _ _ (eW hS s1 e1 (show st≤y-(en-m)by omega) (by omega)) (hS.asymmA (hB (by omega) (by omega)))) (eW hS s2 (show m≤m+(x-st)by omega) (show m+(x-st)≤en-1 by omega) (by omega))
  ·rw[if_neg cy];exact eW hS s2 (by omega) (by omega) y2
theorem gp {d1 d2 d3:Array α} {a mid b:Nat} (hm:a≤mid∧mid≤b) (hb:b≤d1.size) (hc:∀x y,a≤x→x<mid→mid≤y→y<b→lt d1[y]! d1[x]! =false)
  (p2:PermIn a mid d1 d2) (q2:SortedIn lt a mid d2) (p3:PermIn mid b d2 d3) (q3:SortedIn lt mid b d3):SortedIn lt a b d3:=by
 have o2:∀k,k<a∨mid≤k→d2[k]! =d1[k]! :=p2.2.1;have o3:∀k,k<mid∨b≤k→d3[k]! =d2[k]! :=p3.2.1;intro i j x y z;by_cases cj:j<mid
 ·rw[o3 i (by omega),o3 j (by omega)];exact q2 i j x y cj
 ·by_cases ci:mid≤i
  ·exact q3 i j ci y z
  ·rw[o3 i (by omega)]
   refine permIn_all d2 d3 mid b (fun v=>lt v d2[i]! =false) (by rw[p2.1];exact hb) p3 (fun y' y1 y2=>?_) j (by omega) z
   show lt d2[y']! d2[i]! =false
   rw[o2 y' (by omega)];exact permIn_all d1 d2 a mid (fun v=>lt d1[y']! v=false) (by omega) p2 (fun x' x1 x2=>hc x' y' x1 x2 y1 y2) i x (by omega)
def upI (a k p:Nat):Nat:=if a≤p∧p<k then p+1 else if p=k then a else p
theorem mU (a p:Nat):upI a a p=p:=by
 unfold upI
 repeat' split
 all_goals omega
theorem oZ {d dk:Array α} {a k:Nat} (hk:k+1<dk.size) (ha:a≤k) (h:∀p,dk[p]! =d[upI a k p]!) (p:Nat):(swp dk k (k+1))[p]! =d[upI a (k+1) p]! :=by
 rw[swp_get _ (by omega) hk,h,h,h];unfold upI
 repeat' split
 all_goals first | omega | exact fg d (by omega)
theorem lC {d d':Array α} {a b i:Nat} (hi:a+1≤i∧i≤b) (hS:SWO lt) (s2:SortedIn lt (a+1) b d) (f1:a+1<i→lt d[i-1]! d[a]! =true) (f2:i<b→lt d[i]! d[a]! =false) (h:∀p,d'[p]! =d[upI a (i-1) p]!):SortedIn lt a b d':=by
 have r:∀p,upI a (i-1) p=if a≤p∧p<i-1 then p+1 else if p=i-1 then a else p:=fun p=>rfl
 intro x y x1 x2 x3;rw[h,h,r,r];by_cases c1:y<i-1
 ·rw[if_pos (by omega),if_pos (by omega)];exact s2 _ _ (by omega) (by omega) (by omega)
 ·by_cases c2:y=i-1
  ·rw[if_neg (by omega),if_pos c2,if_pos (by omega)]
   exact hS.asymmA (by
    rcases bq (x+1) (i-1)with e | e
    ·have h1:=s2 (x+1) (i-1) (by omega) e (by omega)
     cases h2:lt d[x+1]! d[a]! with
     | true=>rfl
     | false=>have:=hS.ntrans _ _ _ h1 h2;rw[f1 (by omega)]at this;cases this
    ·rw[fg d (show x+1=i-1 by omega)];exact f1 (by omega))
  ·rw[if_neg (by omega),if_neg c2]
   by_cases c3:x<i-1
   ·rw[if_pos (by omega)];exact s2 _ _ (by omega) (by omega) (by omega)
   ·by_cases c4:x=i-1
    ·rw[if_neg (by omega),if_pos c4]
     exact hS.ntrans _ _ _ (eW hS s2 (show a+1≤i by omega) (show i≤y by omega) x3) (f2 (by omega))
    ·rw[if_neg (by omega),if_neg c4];exact s2 _ _ (by omega) x2 x3
def dnI (m k p:Nat):Nat:=if k<p∧p≤m then p-1 else if p=k then m else p
theorem mV (m p:Nat):dnI m m p=p:=by
 unfold dnI
 repeat' split
 all_goals omega
theorem o0 {d dk:Array α} {m k:Nat} (hk:k<dk.size) (h0:0<k) (hm:k≤m) (h:∀p,dk[p]! =d[dnI m k p]!) (p:Nat):(swp dk k (k-1))[p]! =d[dnI m (k-1) p]! :=by
 rw[swp_get _ hk (by omega),h,h,h];unfold dnI
 repeat' split
 all_goals first | omega | exact fg d (by omega)
theorem lD {d d':Array α} {a m i:Nat} (hi:a≤i∧i≤m) (hS:SWO lt) (s1:SortedIn lt a m d) (f1:a<i→lt d[m]! d[i-1]! =false) (f2:i<m→lt d[m]! d[i]! =true) (h:∀p,d'[p]! =d[dnI m i p]!):SortedIn lt a (m+1) d':=by
 have r:∀p,dnI m i p=if i<p∧p≤m then p-1 else if p=i then m else p:=fun p=>rfl
 intro x y x1 x2 x3;rw[h,h,r,r];by_cases c1:y<i
 ·rw[if_neg (by omega),if_neg (by omega),if_neg (by omega),if_neg (by omega)];exact s1 _ _ x1 x2 (by omega)
 ·by_cases c2:y=i
  ·rw[if_neg (by omega),if_pos c2,if_neg (by omega),if_neg (by omega)]
   exact hS.ntrans _ _ _ (f1 (by omega)) (eW hS s1 x1 (show x≤i-1 by omega) (by omega))
  ·rw[if_pos (by omega)]
   by_cases c3:x<i
   ·rw[if_neg (by omega),if_neg (by omega)];exact s1 _ _ x1 (by omega) (by omega)
   ·by_cases c4:x=i
    ·rw[if_neg (by omega),if_pos c4]
     exact hS.asymmA (by
      rcases bq i (y-1)with e | e
      ·have h1:=s1 i (y-1) (by omega) e (by omega)
       cases h2:lt d[m]! d[y-1]! with
       | true=>rfl
       | false=>have:=hS.ntrans _ _ _ h2 h1;rw[f2 (by omega)]at this;cases this
      ·rw[fg d (show y-1=i by omega)];exact f2 (by omega))
    ·rw[if_pos (by omega)];exact s1 _ _ (by omega) (by omega) (by omega)
inductive Pre (lt:α→α→Bool) (bs:Nat) (d:Array α):Nat→Prop
 | zero:Pre lt bs d 0
 | snoc {p:Nat}:Pre lt bs d p→SortedIn lt p (p+bs) d→Pre lt bs d (p+bs)
inductive Suf (lt:α→α→Bool) (bs n:Nat) (d:Array α):Nat→Prop
 | last {p:Nat}:p≤n→n<p+bs→SortedIn lt p n d→Suf lt bs n d p
 | cons {p:Nat}:p+bs≤n→SortedIn lt p (p+bs) d→Suf lt bs n d (p+bs)→Suf lt bs n d p
theorem Pre.cong {bs p:Nat} {d d':Array α} (h:Pre lt bs d p) (e:∀k,k<p→d'[k]! =d[k]!):Pre lt bs d' p:=by
 induction h with
 | zero=>exact .zero
 | snoc h1 h2 ih=>exact .snoc (ih (fun k hk=>e k (by omega))) (eK h2 (fun k _ hk=>e k hk))
theorem Suf.cong {bs n p:Nat} {d d':Array α} (h:Suf lt bs n d p) (e:∀k,p≤k→d'[k]! =d[k]!):Suf lt bs n d' p:=by
 induction h with
 | last h1 h2 h3=>exact .last h1 h2 (eK h3 (fun k hk _=>e k hk))
 | cons h1 h2 _ ih=>exact .cons h1 (eK h2 (fun k hk _=>e k hk)) (ih (fun k hk=>e k (by omega)))
theorem Suf.all {bs n p:Nat} {d:Array α} (h:Pre lt bs d p) (k:Suf lt bs n d p) (hb:p≤n):Suf lt bs n d 0:=by
 induction h with
 | zero=>exact k
 | snoc h1 h2 ih=>exact ih (.cons hb h2 k) (by omega)
theorem Suf.two {bs n p:Nat} {d:Array α} (h:Suf lt bs n d p) (hp:p+2*bs≤n) (hb:0<bs):SortedIn lt p (p+bs) d∧SortedIn lt (p+bs) (p+2*bs) d∧Suf lt bs n d (p+2*bs):=by
 cases h with
 | last h1 h2 h3=>omega
 | cons h1 h2 h3=>
  cases h3 with
  | last k1 k2 k3=>omega
  | cons k1 k2 k3=>rw[show p+2*bs=p+bs+bs by omega];exact⟨h2,k2,k3⟩
theorem Suf.end1 {bs n p:Nat} {d:Array α} (h:Suf lt bs n d p) (hp:n≤p+bs):SortedIn lt p n d:=by
 cases h with
 | last h1 h2 h3=>exact h3
 | cons h1 h2 h3=>rw[show n=p+bs by omega];exact h2
theorem Suf.end2 {bs n p:Nat} {d:Array α} (h:Suf lt bs n d p) (hp:p+bs<n) (h2:n<p+2*bs):SortedIn lt p (p+bs) d∧SortedIn lt (p+bs) n d:=by
 cases h with
 | last h1 h2 h3=>omega
 | cons h1 h3 h4=>exact⟨h3,h4.end1 (by omega)⟩
end
end
section
open Go.Sort Go.Shelf
instance :Inhabited Bkg:=⟨⟨0,0,0,0⟩⟩
instance :Inhabited Hld:=⟨⟨0,0,0,0,0⟩⟩
theorem ge {α:Type} [Inhabited α] {P:Program} {enc:α→List Value} {k:Nat} {w0 W:World} {blk off:Nat} {dk:Array α} {g:Nat} {cb:Array Value} {cf:α→α→Int} {size:Nat} (h:SWK enc k w0 blk off dk W) (hC:CmpLays P g cb enc k cf blk off size w0) (hs:dk.size=size) (x y:α):
  Calls P g (#[.agg (enc x).toArray,.agg (enc y).toArray]++cb) W fun e w'=>e= .returned (.int .i64 (cf x y))∧SWK enc k w0 blk off dk w':=by
 obtain⟨m,os0,rfl⟩:=h;refine(hC m os0 dk hs x y).mono ?_
 rintro e w' ⟨rfl,q,os',rfl⟩;exact⟨rfl,_,_,sortWorldK_grown_c enc k w0 blk off m q dk os0 os'⟩
theorem dh {α:Type} [Inhabited α] {enc:α→List Value} {k N:Nat} {w0 W:World} {blk:Nat} {dk d0:Array α} (h:SWK enc k w0 blk 0 dk W) (R:RowK enc k w0 blk 0 d0) (h0:d0.size=N) (hs:dk.size=N) {i j:Nat} (hi:i<N) {v:Value} (hv:(enc dk[i]!)[j]? =some v):W.cell? ⟨blk,i*k+j,none⟩=some v:=by
 have hj:j<k:=by have:=(aw.1 hv).1;rwa [R.hk]at this
 have hb:=rowK_bnd dk k i (by omega);have h1:=(h.holds R.hblk R.hH (hs.trans h0.symm) (i*k+j) (by rw[size_flatK];omega)).1;rw[get_flatK enc k dk _ (by omega),show(i*k+j) / k=i by rw[Nat.mul_comm,Nat.mul_add_div (by omega),Nat.div_eq_of_lt hj];rfl,show(i*k+j) % k=j by rw[Nat.mul_comm,Nat.mul_add_mod,Nat.mod_eq_of_lt hj],bx]at h1;refine h1.trans ?_
 rw[id,List.getElem!_eq_getElem?_getD,hv];rfl
theorem ep {α:Type} [Inhabited α] {enc:α→List Value} {k N:Nat} {w0 W:World} {blk:Nat} {dk d0:Array α} (h:SWK enc k w0 blk 0 dk W) (R:RowK enc k w0 blk 0 d0) (h0:d0.size=N) (hs:dk.size=N) {i:Nat} (hi:i<N):W.there blk (i*k) k:=by
 intro j hj;have hb:=rowK_bnd dk k i (by omega);have h1:=h.holds R.hblk R.hH (hs.trans h0.symm) (i*k+j) (by rw[size_flatK];omega);rw[bx]at h1;exact⟨by rw[h1.1];rfl,h1.2⟩
theorem gg {α:Type} [Inhabited α] {enc:α→List Value} {k N:Nat} {w0 W:World} {blk:Nat} {dk d0:Array α} (h:SWK enc k w0 blk 0 dk W) (R:RowK enc k w0 blk 0 d0) (hs:dk.size=N) {i j:Nat} (hi:i<N) (hj:j<N) {x y:α} (hx:x=dk[i]!) (hy:y=dk[j]!):SWK enc k w0 blk 0 (swp dk i j) ((W.drew.setCells blk (i*k) (enc y)).setCells blk (j*k) (enc x)):=by
 have:=h.swapped R i j (by omega) (by omega);rw[bx,bx,←hx,←hy]at this;exact this
theorem swr_b (g cap N:Nat) (d0:Array Bkg) (w0:World) (R:RowK bkgC 4 w0 g 0 d0) (hN:d0.size=N) (hsz:N<1000000000000) (fv:Value) (d:Array Bkg) (a b n:Nat) (w:World) (hs:d.size=N) (S:SWK bkgC 4 w0 g 0 d w) (h1:a+n≤b) (h2:b+n≤N):
  Calls Tryz.prog 186 #[.slice (some ⟨g,0,none⟩) N cap,.int .i64 (a:Int),.int .i64 (b:Int),.int .i64 (n:Int),fv] w fun e w'=>e= .returned (.tuple #[])∧SWK bkgC 4 w0 g 0 (swR d a b n) w':=by
 have S0:Aside (SWK bkgC 4 w0 g 0 d w):=S;have HN:=aa hN;have HD:=aa hs;clear S hN hs;go_enter Tryz.func186,Tryz.ntmps186
 go_wp2
 go_loopw [10] (fun iv wr=>∃(i:Nat),i≤n∧iv= .int .i64 (i:Int)∧Aside (SWK bkgC 4 w0 g 0 (swR d a b i) wr)) (fun iv _=>n-(intOf iv).toNat)
 case atStart=>exact⟨0,aE _,rfl,S0⟩
 case round=>
  clear S0;obtain⟨i,hi,rfl,S1⟩:=hrel;by_cases hlt:i<n
  ·have k1:(i:Int)<(n:Int):=by omega
   obtain⟨dk,hdk⟩:=cR (swR d a b i)
   rw[hdk]at S1;have HDK:Hid (dk.size=N):=aa (by rw[←hdk,eI];exact HD.out);have HSW:Hid (swR d a b (i+1)=swp dk (a+i) (b+i)):=aa (by rw[←hdk];rfl);obtain⟨p,hp⟩:=cR (a+i)
   obtain⟨q,hq⟩:=cR (b+i)
   rw[hp,hq]at HSW;have v1:IntKind.i64.wrap ((a:Int)+(i:Int))=(p:Int):=by rw[ax];omega
   have v2:IntKind.i64.wrap ((b:Int)+(i:Int))=(q:Int):=by rw[ax];omega
   have p0:(0:Int)≤(p:Int):=by omega
   have p1:(p:Int)<(N:Int):=by omega
   have q0:(0:Int)≤(q:Int):=by omega
   have q1:(q:Int)<(N:Int):=by omega
   have p2:p<N:=by omega
   have q2:q<N:=by omega
   clear hdk hp hq;go_upto_region 3 with fail
   obtain⟨x,hx⟩:∃z,z=dk[p]! :=⟨_,rfl⟩
   obtain⟨y,hy⟩:∃z,z=dk[q]! :=⟨_,rfl⟩
   have x0:wr.cell? ⟨g,p*4,none⟩=some (.int .i64 x.ct):=dh S1.out R HN.out HDK.out (i:=p) (j:=0) (by omega) (by rw[←hx];rfl);have x1:wr.cell? ⟨g,p*4+1,none⟩=some (.int .i64 x.bg):=dh S1.out R HN.out HDK.out (i:=p) (j:=1) (by omega) (by rw[←hx];rfl);have x2:wr.cell? ⟨g,p*4+2,none⟩=some (.int .i64 x.en):=dh S1.out R HN.out HDK.out (i:=p) (j:=2) (by omega) (by rw[←hx];rfl);have x3:wr.cell? ⟨g,p*4+3,none⟩=some (.int .i64 x.tk):=dh S1.out R HN.out HDK.out (i:=p) (j:=3) (by omega) (by rw[←hx];rfl);have y0:wr.cell? ⟨g,q*4,none⟩=some (.int .i64 y.ct):=dh S1.out R HN.out HDK.out (i:=q) (j:=0) (by omega) (by rw[←hy];rfl);have y1:wr.cell? ⟨g,q*4+1,none⟩=some (.int .i64 y.bg):=dh S1.out R HN.out HDK.out (i:=q) (j:=1) (by omega) (by rw[←hy];rfl);have y2:wr.cell? ⟨g,q*4+2,none⟩=some (.int .i64 y.en):=dh S1.out R HN.out HDK.out (i:=q) (j:=2) (by omega) (by rw[←hy];rfl);have y3:wr.cell? ⟨g,q*4+3,none⟩=some (.int .i64 y.tk):=dh S1.out R HN.out HDK.out (i:=q) (j:=3) (by omega) (by rw[←hy];rfl);have HT1:Hid (wr.drew.there g (p*4) 4):=aa (ep S1.out.drew R HN.out HDK.out (by omega));have HT2:Hid ((wr.drew.setCells g (p*4) (bkgC y)).there g (q*4) 4):=aa (World.there_setCells (ep S1.out.drew R HN.out HDK.out (by omega)) _ _ _);have S2:Aside (SWK bkgC 4 w0 g 0 (swp dk p q) ((wr.drew.setCells g (p*4) (bkgC y)).setCells g (q*4) (bkgC x))):=gg S1.out R HDK.out (by omega) (by omega) hx hy;clear hx hy S1
   refine dd (fun V=>V.cell? ⟨g,p*4,none⟩=some (.int .i64 x.ct)∧V.cell? ⟨g,p*4+1,none⟩=some (.int .i64 x.bg)∧V.cell? ⟨g,p*4+2,none⟩=some (.int .i64 x.en)∧V.cell? ⟨g,p*4+3,none⟩=some (.int .i64 x.tk)∧V.cell? ⟨g,q*4,none⟩=some (.int .i64 y.ct)∧V.cell? ⟨g,q*4+1,none⟩=some (.int .i64 y.bg)∧V.cell? ⟨g,q*4+2,none⟩=some (.int .i64 y.en)∧V.cell? ⟨g,q*4+3,none⟩=some (.int .i64 y.tk)) [0,0,0,0,0,0,0,0,0,0,0,0,0,1,0,0,0,0,0,1,0,3,0,3] [0,1,2,3,4,5,6,7,8,9,10,11,12,13,14,15,16,17,18,19,20,21,22,23] (by kernel_rfl) (by kernel_rfl) ?_ ?_
   case refine_1=>exact⟨x0,x1,x2,x3,y0,y1,y2,y3⟩
   (iterate 21 (refine cX rfl (by decide) (by rfl) (fun w1 hS=>by(try(have hS:=hS rfl;obtain hS:=hS;repeat (obtain⟨_,hS⟩:=hS)));go_simp;rfl) ?_;simp only[Act.put,ae,af,ag]))
   refine di rfl rfl (by rfl) (fun K hK=>?_)
   refine wp_store_mid 53 _ _ rfl g (p*4) #[.int .i64 y.ct,.int .i64 y.bg,.int .i64 y.en,.int .i64 y.tk] rfl rfl HT1.out (by kernel_rfl) (by simp[Value.oneCell']) ?_
   refine hK _ _ ?_
   clear hK K;simp only[Act.put,ae,af,ag]
   (iterate 1 (refine cX rfl (by decide) (by rfl) (fun w1 hS=>by(try(have hS:=hS rfl;obtain hS:=hS;repeat (obtain⟨_,hS⟩:=hS)));go_simp;rfl) ?_;simp only[Act.put,ae,af,ag]))
   refine di rfl rfl (by rfl) (fun K hK=>?_)
   refine wp_store_mid 53 _ _ rfl g (q*4) #[.int .i64 x.ct,.int .i64 x.bg,.int .i64 x.en,.int .i64 x.tk] rfl rfl HT2.out (by kernel_rfl) (by simp[Value.oneCell']) ?_
   refine hK _ _ ?_
   clear hK K;simp only[Act.put,ae,af,ag];refine du ?_
   obtain⟨w2,hw2⟩:=cR ((wr.drew.setCells g (p*4) [.int .i64 y.ct,.int .i64 y.bg,.int .i64 y.en,.int .i64 y.tk]).setCells g (q*4) [.int .i64 x.ct,.int .i64 x.bg,.int .i64 x.en,.int .i64 x.tk])
   replace S2:Aside (SWK bkgC 4 w0 g 0 (swp dk p q) w2):=by rw[←hw2];exact S2
   rw[hw2];clear hw2 HT1 HT2 x0 x1 x2 x3 y0 y1 y2 y3;go_wp2
   go_roundw
   case rel=>exact⟨i+1,by omega,by go_num,by rw[HSW.out];exact S2⟩
   case measure=>simp[intOf];omega
  ·obtain rfl:i=n:=by omega
   go_wp2
   go_end0
   exact⟨rfl,S1.out⟩
end
section
open Go.Sort Go.Shelf
theorem rot_b (g cap N:Nat) (d0:Array Bkg) (w0:World) (R:RowK bkgC 4 w0 g 0 d0) (hN:d0.size=N) (hsz:N<1000000000000) (fv:Value) (d:Array Bkg) (a m b:Nat) (w:World) (hs:d.size=N) (S:SWK bkgC 4 w0 g 0 d w) (h1:a<m) (h2:m<b) (h3:b≤N):
  Calls Tryz.prog 152 #[.slice (some ⟨g,0,none⟩) N cap,.int .i64 (a:Int),.int .i64 (m:Int),.int .i64 (b:Int),fv] w fun e w'=>e= .returned (.tuple #[])∧∃d':Array Bkg,d'.size=N∧SWK bkgC 4 w0 g 0 d' w'∧PermIn a b d d'∧∀k,d'[k]! =d[rotI a m b k]! :=by
 have S0:Aside (SWK bkgC 4 w0 g 0 d w):=S;have HN:=aa hN;have HD:=aa hs;clear S hN hs;obtain⟨I,hI⟩:=cR (m-a)
 obtain⟨J,hJ⟩:=cR (b-m)
 have v1:IntKind.i64.wrap ((m:Int)-(a:Int))=(I:Int):=by rw[ax];omega
 have v2:IntKind.i64.wrap ((b:Int)-(m:Int))=(J:Int):=by rw[ax];omega
 go_enter Tryz.func152,Tryz.ntmps152
 go_wp2
 go_loopw [10,11] (fun iv jv wr=>∃(i j:Nat) (dk:Array Bkg),1≤i∧i≤I∧1≤j∧j≤J∧iv= .int .i64 (i:Int)∧jv= .int .i64 (j:Int)∧Hid (dk.size=N)∧Aside (SWK bkgC 4 w0 g 0 dk wr)∧Hid (PermIn a b d dk)∧Hid (∀k,d[rotI a m b k]! =dk[rotI (m-i) m (m+j) k]!)) (fun iv jv _=>(intOf iv).toNat+(intOf jv).toNat)
 case atStart=>exact⟨I,J,d,by omega,aj _,by omega,aj _,rfl,rfl,HD,S0,aa (permIn_refl d a b),aa (fun k=>by rw[show m-I=a by omega,show m+J=b by omega])⟩
 case round=>
  clear S0;obtain⟨i,j,dk,i1,i2,j1,j2,rfl,rfl,HDK,S1,HPM,HE⟩:=hrel;obtain⟨p,hp⟩:=cR (m-i)
  have v3:IntKind.i64.wrap ((m:Int)-(i:Int))=(p:Int):=by rw[ax];omega
  by_cases hij:i=j
  ·subst hij
   have HF:Hid (∀k,(swR dk p m i)[k]! =d[rotI a m b k]!):=aa (fun k=>by rw[HE.out,←hp];exact rot_eq dk m i k (by omega) (by rw[HDK.out];omega));go_wp2_with fail
   refine(swr_b g cap N d0 w0 R HN.out hsz fv dk p m i _ HDK.out S1.out (by omega) (by omega)).mono ?_
   rintro e w2 ⟨rfl,hS2⟩;have S2:Aside (SWK bkgC 4 w0 g 0 _ w2):=hS2;have HDK2:Hid ((swR dk p m i).size=N):=aa (by rw[eI];exact HDK.out);have HP2:Hid (PermIn a b d (swR dk p m i)):=aa (permIn_trans _ _ _ a b HPM.out (fQ dk a b p m (by omega) (by rw[HDK.out];omega) i (by omega) (by omega)));clear S1 hS2;go_wp2
   go_end0
   exact⟨rfl,_,HDK2.out,S2.out,HP2.out,HF.out⟩
  ·have hb:((i:Int)==(j:Int))=false:=beq_eq_false_iff_ne.2 (by omega)
   have hne:¬(i:Int)=(j:Int):=by omega
   by_cases hlt:j<i
   ·have k1:(j:Int)<(i:Int):=by omega
    obtain⟨q,hq⟩:=cR (i-j)
    have v4:IntKind.i64.wrap ((i:Int)-(j:Int))=(q:Int):=by rw[ax];omega
    have HF:Hid (∀k,d[rotI a m b k]! =(swR dk p m j)[rotI (m-q) m (m+j) k]!):=aa (fun k=>by rw[HE.out,←hp,←hq];exact(rot_gt dk m i j k hlt (by omega) (by rw[HDK.out];omega)).symm);go_wp2_with fail
    refine(swr_b g cap N d0 w0 R HN.out hsz fv dk p m j _ HDK.out S1.out (by omega) (by omega)).mono ?_
    rintro e w2 ⟨rfl,hS2⟩;have S2:Aside (SWK bkgC 4 w0 g 0 _ w2):=hS2;have HDK2:Hid ((swR dk p m j).size=N):=aa (by rw[eI];exact HDK.out);have HP2:Hid (PermIn a b d (swR dk p m j)):=aa (permIn_trans _ _ _ a b HPM.out (fQ dk a b p m (by omega) (by rw[HDK.out];omega) j (by omega) (by omega)));clear S1 hS2;go_wp2
    go_roundw
    case rel=>exact⟨q,j,_,by omega,by omega,j1,j2,rfl,rfl,HDK2,S2,HP2,HF⟩
    case measure=>simp[intOf];omega
   ·have k1:¬(j:Int)<(i:Int):=by omega
    obtain⟨q,hq⟩:=cR (j-i)
    obtain⟨s,hs⟩:=cR (m+j)
    obtain⟨r,hr⟩:=cR (s-i)
    have v4:IntKind.i64.wrap ((j:Int)-(i:Int))=(q:Int):=by rw[ax];omega
    have v5:IntKind.i64.wrap ((m:Int)+(j:Int))=(s:Int):=by rw[ax];omega
    have v6:IntKind.i64.wrap ((s:Int)-(i:Int))=(r:Int):=by rw[ax];omega
    have HF:Hid (∀k,d[rotI a m b k]! =(swR dk p r i)[rotI (m-i) m (m+q) k]!):=aa (fun k=>by rw[HE.out,←hp,←hq,←hr,←hs];exact(rot_lt dk m i j k (by omega) (by omega) (by rw[HDK.out];omega)).symm);go_wp2_with fail
    refine(swr_b g cap N d0 w0 R HN.out hsz fv dk p r i _ HDK.out S1.out (by omega) (by omega)).mono ?_
    rintro e w2 ⟨rfl,hS2⟩;have S2:Aside (SWK bkgC 4 w0 g 0 _ w2):=hS2;have HDK2:Hid ((swR dk p r i).size=N):=aa (by rw[eI];exact HDK.out);have HP2:Hid (PermIn a b d (swR dk p r i)):=aa (permIn_trans _ _ _ a b HPM.out (fQ dk a b p r (by omega) (by rw[HDK.out];omega) i (by omega) (by omega)));clear S1 hS2;go_wp2
    go_roundw
    case rel=>exact⟨i,q,_,i1,i2,by omega,by omega,rfl,rfl,HDK2,S2,HP2,HF⟩
    case measure=>simp[intOf];omega
end
end Go.Proofs.YtfnciigbbolckaaGreat
