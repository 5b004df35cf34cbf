/- The graph of tables and a request: plain. -/
import Derived.Test.YtkokiahmgmeokaaGreatYw
import Derived.Test.YtkokiahmgmeokaaGreatNz
import Derived.Test.YtkokiahmgmeokaaGreatKfhz
import Derived.Test.YtkokiahmgmeokaaGreatKfm
import Derived.Test.YtkokiahmgmeokaaGreatYcz
import Derived.Lib.MinMax
import Derived.Test.YtkokiahmgmeokaaGreatYo
set_option linter.unusedVariables false
set_option linter.unusedSimpArgs false
namespace Go.Proofs.YtkokiahmgmeokaaGreat
open Go Go.RowKit Iv
attribute [local go_sem] Oper.semAt_some
attribute [local go_sem] B_getElem B_size B_app B_extract B_get B_toList
theorem outs_in (m : Int) : ∀ (l : List Sp) (f : Int), DJ f l → (∀ x ∈ l, x.2 ≤ m) → ∀ x ∈ outs m f l, f ≤ x.1 ∧ x.1 < x.2 ∧ x.2 ≤ m
  | [], f, _, _ => by
    intro x hx
    unfold outs at hx
    split at hx
    · rw [List.mem_singleton.1 hx]; simp only; omega
    · cases hx
  | y :: r, f, h, hm => by
    obtain ⟨h1, h2, h3⟩ := h
    have hy := hm y (by simp)
    have ih := outs_in m r y.2 h3 (fun z hz => hm z (by simp [hz]))
    intro x hx
    unfold outs at hx
    split at hx
    · rcases List.mem_cons.1 hx with rfl | hx
      · simp only; omega
      · have := ih x hx; omega
    · have := ih x hx; omega
theorem nf_pair : ∀ {l : List Sp} {b : Int}, NF b l → l.Pairwise (fun x y => x.1 ≤ y.1)
  | [], _, _ => List.Pairwise.nil
  | x :: l, b, h => List.pairwise_cons.2 ⟨fun y hy => by have := h.2.2.lo y hy; have := h.2.1; omega, nf_pair h.2.2⟩
/-- the booked spans of a contact lie in it -/
theorem busy_in {qs : List Int} {cs : List Con} {l : List Bkg} {n : Nat} {c : Con} (hb : BkOK cs l) (hn : cs[n]? = some c) : ∀ x ∈ busyS l n, c.st ≤ x.1 ∧ x.1 < x.2 ∧ x.2 ≤ c.en := by
  intro x hx
  unfold busyS at hx
  obtain ⟨b, hb1, rfl⟩ := List.mem_map.1 hx
  have := List.mem_filter.1 hb1
  exact (hb.2.1 b this.1).2.2 c (by have e : b.ct = (n : Int) := by simpa using this.2
                                    rw [e]; simpa using hn)
theorem gap_in {qs : List Int} {cs : List Con} {l : List Bkg} {n : Nat} {c : Con} (hp : PlanOK qs cs) (hb : BkOK cs l) (hn : cs[n]? = some c) : ∀ x ∈ outs c.en c.st (busyS l n), c.st ≤ x.1 ∧ x.1 < x.2 ∧ x.2 ≤ c.en :=
  outs_in c.en _ _ (fb_facts hp hb hn).dj (fun x hx => (busy_in (qs := qs) hb hn x hx).2.2)
theorem gap_sort {qs : List Int} {cs : List Con} {l : List Bkg} {n : Nat} {c : Con} (hp : PlanOK qs cs) (hb : BkOK cs l) (hn : cs[n]? = some c) : (outs c.en c.st (busyS l n)).Pairwise (fun x y => x.1 ≤ y.1) :=
  nf_pair (outsD_nf c.en _ _ (fb_facts hp hb hn).dj)
/-- the free intervals of the contacts -/
def gapsL (cs : List Con) (l : List Bkg) : List (List Sp) := cs.mapIdx fun i c => outs c.en c.st (busyS l i)
theorem gapsL_len (cs : List Con) (l : List Bkg) : (gapsL cs l).length = cs.length := by unfold gapsL; simp
theorem gapsL_get {cs : List Con} (l : List Bkg) {i : Nat} {c : Con} (h : cs[i]? = some c) : (gapsL cs l)[i]? = some (outs c.en c.st (busyS l i)) := by unfold gapsL; rw [List.getElem?_mapIdx, h]; rfl
theorem gapsL_mem {cs : List Con} {l : List Bkg} {g : List Sp} (h : g ∈ gapsL cs l) : ∃ (i : Nat) (c : Con), cs[i]? = some c ∧ g = outs c.en c.st (busyS l i) := by
  obtain ⟨i, hi⟩ := List.mem_iff_getElem?.1 h
  have hl := (List.getElem?_eq_some_iff.1 hi).1
  rw [gapsL_len] at hl
  refine ⟨i, cs[i], List.getElem?_eq_getElem hl, ?_⟩
  rw [gapsL_get l (List.getElem?_eq_getElem hl)] at hi
  injection hi with hi
  exact hi.symm
def gOf (cs : List Con) (l : List Bkg) (R : List (List Sp)) (src dst : Int) (s : Nat) (rd D pr : Int) (cu : Bool) : Gp :=
  { cs := cs, G := gapsL cs l, R := R, Ds := cs.map (fun c => durS c s), src := src, dst := dst, sz := (s : Int), rd := rd, D := D, pr := pr, cu := cu }
def RoomsOK (qs : List Int) (hs : List Hld) (sz : Int) (R : List (List Sp)) : Prop := R.length = qs.length ∧ (∀ l ∈ R, l.length ≤ 1100 ∧ ∀ x ∈ l, spOK x) ∧ (hs = [] → R = qs.map (fun q => roomS q sz))
theorem gOf_ok {qs : List Int} {cs : List Con} {l : List Bkg} {hs : List Hld} {R : List (List Sp)} {src dst rd D pr : Int} {s : Nat} (cu : Bool) (hp : PlanOK qs cs) (hb : BkOK cs l) (hr : ReqOK qs.length src dst (s : Int) rd D pr) (hR : RoomsOK qs hs (s : Int) R) : GOK (gOf cs l R src dst s rd D pr cu) := by
  obtain ⟨⟨p1, p2, p3⟩, p4, p5⟩ := hp
  obtain ⟨⟨r1, r2, r3, r4⟩, r5, ⟨r6, r7, r8, r9, r10⟩, r11, r12⟩ := hr
  refine ⟨p3, by show R.length ≤ 16; rw [hR.1]; exact p2, gapsL_len _ _, by show (cs.map _).length = _; simp [gOf], fun c hc => ?_, fun g hg => ?_, hR.2.1, fun d hd => ?_, ?_, ?_, ⟨r8, r9⟩, r10⟩
  · obtain ⟨i, hi⟩ := List.mem_iff_getElem?.1 hc
    have := p5 i c hi
    exact ⟨this.1, by show c.fr < (R.length : Int); rw [hR.1]; exact this.2.1, by show c.tt < (R.length : Int); rw [hR.1]; exact this.2.2.1⟩
  · obtain ⟨i, c, hc, rfl⟩ := gapsL_mem (show g ∈ gapsL cs l from hg)
    have h1 := gap_in ⟨⟨p1, p2, p3⟩, p4, p5⟩ hb hc
    have h2 := con_facts (p5 i c hc).1
    have h3 := h2.st0
    have h4 := h2.en1
    have h5 := h2.rg0
    refine ⟨?_, fun x hx => ?_⟩
    · have a1 := outs_len c.en (busyS l i) c.st
      have a2 := busyS_len l i
      have a3 := hb.1
      omega
    · have := h1 x hx
      unfold spOK
      omega
  · obtain ⟨c, hc, rfl⟩ := List.mem_map.1 (show d ∈ cs.map (fun c => durS c s) from hd)
    obtain ⟨i, hi⟩ := List.mem_iff_getElem?.1 hc
    exact durS_bnd (con_facts (p5 i c hi).1) (by omega) (by omega)
  · show 0 ≤ src ∧ src < (R.length : Int)
    rw [hR.1]; exact ⟨r1, r2⟩
  · show 0 ≤ dst ∧ dst < (R.length : Int)
    rw [hR.1]; exact ⟨r3, r4⟩
theorem gOf_sort {qs : List Int} {cs : List Con} {l : List Bkg} {R : List (List Sp)} {src dst rd D pr : Int} {s : Nat} (cu : Bool) (hp : PlanOK qs cs) (hb : BkOK cs l) : Gsort (gOf cs l R src dst s rd D pr cu) := by
  intro g hg
  obtain ⟨i, c, hc, rfl⟩ := gapsL_mem (show g ∈ gapsL cs l from hg)
  exact gap_sort hp hb hc
theorem gOf_wide {qs : List Int} {cs : List Con} {l : List Bkg} {src dst rd D pr sz : Int} {s : Nat} (cu : Bool) : Wide (gOf cs l (qs.map (fun q => roomS q sz)) src dst s rd D pr cu) := by
  intro n x hx
  have hx' : x ∈ (qs.map (fun q => roomS q sz)).getD n [] := hx
  rw [List.getD_eq_getElem?_getD, List.getElem?_map] at hx'
  cases e : qs[n]? with
  | none => rw [e] at hx'; cases hx'
  | some q =>
    rw [e] at hx'
    have hx2 : x ∈ roomS q sz := hx'
    unfold roomS at hx2
    split at hx2
    · cases hx2
    · exact List.mem_singleton.1 hx2
end Go.Proofs.YtkokiahmgmeokaaGreat
/- search.build: its rows. -/
set_option linter.unusedVariables false
set_option linter.unusedSimpArgs false
namespace Go.Proofs.YtkokiahmgmeokaaGreat
open Go Go.RowKit Iv
attribute [local go_sem] Oper.semAt_some
attribute [local go_sem] B_getElem B_size B_app B_extract B_get B_toList
theorem infoSps : (Tryz.prog.info? 45).map (fun i => (i.zero, i.size, i.bytes)) = some (some (.slice none 0 0), 1, 24) := by kernel_rfl
/-- a row of spans whose block is one of D -/
def RSpsD (D : Nat → Prop) (w : World) (v : Value) (l : List Sp) : Prop := ∃ (a : Option Addr) (c : Nat), v = .slice a l.length c ∧ l.length ≤ c ∧ c ≤ maxLen ∧ (a = none → c = 0) ∧
  (0 < l.length → ∃ b o, a = some ⟨b, o, none⟩ ∧ b < w.heap.size ∧ D b ∧ ∀ (j : Nat) (u : Value), (sps l)[j]? = some u → w.cell? ⟨b, o + j, none⟩ = some u)
theorem RSpsD.of {D : Nat → Prop} {w : World} {v : Value} {l : List Sp} {N : Nat} (h : RSps w w.heap.size v l) (hf : RFrom N v) (hD : ∀ b, N ≤ b → b < w.heap.size → D b) : RSpsD D w v l := by
  obtain ⟨a, c, rfl, h1, h2, h3, h4⟩ := h
  refine ⟨a, c, rfl, h1, h2, h3, fun hp => ?_⟩
  obtain ⟨b, o, rfl, hb, hc⟩ := h4 hp
  exact ⟨b, o, rfl, hb, hD b (hf ⟨b, o, none⟩ _ _ rfl) hb, hc⟩
theorem RSpsD.keep {D D' : Nat → Prop} {w w' : World} {v : Value} {l : List Sp} (h : RSpsD D w v l) (hs : w.heap.size ≤ w'.heap.size) (hk : ∀ b, b < w.heap.size → D b → w'.heap[b]? = w.heap[b]? ∧ D' b) : RSpsD D' w' v l := by
  obtain ⟨a, c, rfl, h1, h2, h3, h4⟩ := h
  refine ⟨a, c, rfl, h1, h2, h3, fun hp => ?_⟩
  obtain ⟨b, o, rfl, hb, hd, hc⟩ := h4 hp
  exact ⟨b, o, rfl, Nat.lt_of_lt_of_le hb hs, (hk b hb hd).2, fun j u hu => (World.cell?_of_block (a := ⟨b, o + j, none⟩) (hk b hb hd).1).trans (hc j u hu)⟩
theorem RSpsD.to {D : Nat → Prop} {w : World} {v : Value} {l : List Sp} (h : RSpsD D w v l) : RSps w w.heap.size v l := by
  obtain ⟨a, c, rfl, h1, h2, h3, h4⟩ := h
  refine ⟨a, c, rfl, h1, h2, h3, fun hp => ?_⟩
  obtain ⟨b, o, rfl, hb, _, hc⟩ := h4 hp
  exact ⟨b, o, rfl, hb, hc⟩
theorem own_row {w : World} {B n : Nat} {e : TypeId} {v : Value} {xs : List Value} (h : w.ownsRow B e 1 v n xs) : ∃ (a : Option Addr) (c : Nat), v = .slice a n c ∧ n ≤ c ∧ c ≤ maxLen ∧ (a = none → c = 0) ∧
    (0 < n → ∃ b, a = some ⟨b, 0, none⟩ ∧ b < w.heap.size ∧ ∀ (j : Nat) (u : Value), xs[j]? = some u → w.cell? ⟨b, j, none⟩ = some u) := by
  have hc := fun g (hg : v.ownBlock = some g) => h.cells (g := g) hg
  have hlt := h.lt
  rcases h.2 with ⟨rfl, rfl⟩ | ⟨g, cap, cur, rfl, hb, hg, hn, hm, hs, ht⟩
  · exact ⟨none, 0, rfl, Nat.le_refl _, Nat.zero_le _, fun _ => rfl, fun h => absurd h (Nat.lt_irrefl _)⟩
  · refine ⟨_, cap, rfl, hn, hm, (fun h => by cases h), fun _ => ⟨g, rfl, (hlt g rfl).2, fun j u hu => ?_⟩⟩
    have := hc g rfl j u hu
    rwa [addN, Nat.zero_add] at this
theorem rrow_ints {w : World} {B n : Nat} {e : TypeId} {v : Value} {l : List Int} (h : w.ownsRow B e 1 v n (l.map (Value.int .i64))) : RRow intC 1 w w.heap.size v l := by
  have hn : n = l.length := by have := h.1; simp at this; omega
  subst hn
  obtain ⟨a, c, rfl, h1, h2, h3, h4⟩ := own_row h
  refine ⟨a, c, rfl, h1, h2, h3, fun hp => ?_⟩
  obtain ⟨b, rfl, hb, hc⟩ := h4 hp
  refine ⟨b, 0, rfl, hb, fun i x hx j u hu => ?_⟩
  match j, hu with
  | 0, hu =>
    have e : u = .int .i64 x := by injection hu with hu; exact hu.symm
    have := hc i (.int .i64 x) (by rw [List.getElem?_map, hx]; rfl)
    rw [e, show 0 + i * 1 + 0 = i by omega]
    exact this
theorem rrows_of {D : Nat → Prop} {w : World} {B n : Nat} {e : TypeId} {v : Value} {vals : List Value} {L : List (List Sp)} (h : w.ownsRow B e 1 v n vals) (hl : L.length = n) (hr : ∀ (i : Nat) u l, vals[i]? = some u → L[i]? = some l → RSpsD D w u l) : RRows w w.heap.size v L := by
  subst hl
  have hv : vals.length = L.length := by have := h.1; omega
  obtain ⟨a, c, rfl, h1, h2, h3, h4⟩ := own_row h
  refine ⟨a, c, rfl, h1, h2, fun hp => ?_⟩
  obtain ⟨b, rfl, hb, hc⟩ := h4 hp
  refine ⟨b, 0, rfl, hb, fun i l hi => ?_⟩
  have hil : i < vals.length := by have := (List.getElem?_eq_some_iff.1 hi).1; omega
  exact ⟨vals[i], by rw [Nat.zero_add]; exact hc i _ (List.getElem?_eq_getElem hil), (hr i _ l (List.getElem?_eq_getElem hil) hi).to⟩
/-- two rows of one's own that grow -/
structure BS (w2 V : World) (B : Nat) (e1 e2 : TypeId) (u0 d0 u d : Value) (n m : Nat) (xs ys : List Value) : Prop where
  own1 : V.ownsRow B e1 1 u n xs
  own2 : V.ownsRow B e2 1 d m ys
  old : ∀ q, q < w2.heap.size → u0.ownBlock ≠ some q → d0.ownBlock ≠ some q → V.heap[q]? = w2.heap[q]?
  sz : w2.heap.size ≤ V.heap.size
  f1 : u.ownBlock = u0.ownBlock ∨ ∃ b, u.ownBlock = some b ∧ w2.heap.size ≤ b
  f2 : d.ownBlock = d0.ownBlock ∨ ∃ b, d.ownBlock = some b ∧ w2.heap.size ≤ b
section
variable {w2 V V' : World} {B n m : Nat} {e1 e2 : TypeId} {u0 d0 u d : Value} {xs ys : List Value}
theorem own_ne {w : World} {B n : Nat} {e e' : TypeId} {v : Value} {xs : List Value} {g : Nat} {c : Array Value} (h : w.ownsRow B e 1 v n xs) (hg : v.ownBlock = some g) (hn : w.heap[g]? = some (.cells c e' (0, 0))) (hne : e ≠ e') : False := by
  obtain ⟨c1, k1⟩ := own_at h hg
  rw [hn] at k1
  injection k1 with k1
  injection k1 with _ k1 _
  exact hne k1.symm
theorem BS.start (h1 : w2.ownsRow B e1 1 u n xs) (h2 : w2.ownsRow B e2 1 d m ys) : BS w2 w2 B e1 e2 u d u d n m xs ys := ⟨h1, h2, fun _ _ _ _ => rfl, Nat.le_refl _, .inl rfl, .inl rfl⟩
theorem BS.below (h : BS w2 V B e1 e2 u0 d0 u d n m xs ys) (k : Below V.heap.size V V') : BS w2 V' B e1 e2 u0 d0 u d n m xs ys :=
  ⟨own_kept1 h.own1 fun q hq => k.block q (h.own1.lt q hq).2, own_kept1 h.own2 fun q hq => k.block q (h.own2.lt q hq).2, fun q hq n1 n2 => (k.block q (by have := h.sz; omega)).trans (h.old q hq n1 n2), Nat.le_trans h.sz k.size, h.f1, h.f2⟩
theorem BS.app1 {u' : Value} {n' : Nat} {xs' : List Value} (h : BS w2 V B e1 e2 u0 d0 u d n m xs ys) (hne : e1 ≠ e2) (ho : V'.ownsRow B e1 1 u' n' xs') (hg : V.grownBy V' u.ownBlock) (hf : u'.ownBlock = u.ownBlock ∨ u'.ownBlock = some V.heap.size) : BS w2 V' B e1 e2 u0 d0 u' d n' m xs' ys := by
  refine ⟨ho, own_kept1 h.own2 fun q hq => grown_keep hg (h.own2.lt q hq).2 fun e => ?_, fun q hq n1 n2 => (grown_keep hg (by have := h.sz; omega) fun e => ?_).trans (h.old q hq n1 n2), Nat.le_trans h.sz hg.size, ?_, h.f2⟩
  · obtain ⟨c1, k1⟩ := own_at h.own1 e
    obtain ⟨c2, k2⟩ := own_at h.own2 hq
    rw [k1] at k2
    injection k2 with k2
    injection k2 with _ k2 _
    exact hne k2
  · rcases h.f1 with z | ⟨b, z, hb⟩
    · exact n1 (z ▸ e)
    · rw [z] at e; injection e with e; omega
  · rcases hf with z | z
    · rw [z]; exact h.f1
    · exact .inr ⟨_, z, h.sz⟩
theorem BS.swap (h : BS w2 V B e1 e2 u0 d0 u d n m xs ys) : BS w2 V B e2 e1 d0 u0 d u m n ys xs := ⟨h.own2, h.own1, fun q hq n1 n2 => h.old q hq n2 n1, h.sz, h.f2, h.f1⟩
theorem BS.app2 {d' : Value} {m' : Nat} {ys' : List Value} (h : BS w2 V B e1 e2 u0 d0 u d n m xs ys) (hne : e1 ≠ e2) (ho : V'.ownsRow B e2 1 d' m' ys') (hg : V.grownBy V' d.ownBlock) (hf : d'.ownBlock = d.ownBlock ∨ d'.ownBlock = some V.heap.size) : BS w2 V' B e1 e2 u0 d0 u d' n m' xs ys' :=
  (h.swap.app1 (Ne.symm hne) ho hg hf).swap
end
/-- where build's first loop stands -/
structure L1 (wZ : World) (C gB : Nat) (G : List (List Sp)) (Ds : List Int) (cells : Value → Value → Array Value) (ug ud : Value) (vals : List Value) (W : World) : Prop where
  gb : W.heap[gB]? = some (.cells (cells ug ud) 126 (0, 0))
  o1 : W.ownsRow (gB + 1) 45 1 ug G.length vals
  o2 : W.ownsRow (gB + 1) 3 1 ud Ds.length (Ds.map (Value.int .i64))
  rows : ∀ (i : Nat) v l, vals[i]? = some v → G[i]? = some l → RSpsD (fun b => gB + 1 ≤ b ∧ ug.ownBlock ≠ some b ∧ ud.ownBlock ≠ some b) W v l
  keep : ∀ q, q < gB → W.heap[q]? = wZ.heap[q]?
  bel : Below C wZ W
section
variable {wZ W W' V W9 : World} {C gB : Nat} {G : List (List Sp)} {Ds : List Int} {cells : Value → Value → Array Value} {ug ud ug' ud' : Value} {vals : List Value}
theorem L1.lt (h : L1 wZ C gB G Ds cells ug ud vals W) : gB < W.heap.size := (Array.getElem?_eq_some_iff.1 h.gb).1
theorem L1.below (h : L1 wZ C gB G Ds cells ug ud vals W) (k : Below W.heap.size W W') (hC : C ≤ gB) : L1 wZ C gB G Ds cells ug ud vals W' := by
  have hl := h.lt
  refine ⟨(k.block _ hl).trans h.gb, own_kept1 h.o1 fun q hq => k.block q (h.o1.lt q hq).2, own_kept1 h.o2 fun q hq => k.block q (h.o2.lt q hq).2, fun i v l hv hl' => (h.rows i v l hv hl').keep k.size fun b hb hd => ⟨k.block b hb, hd⟩, fun q hq => (k.block q (by omega)).trans (h.keep q hq), h.bel.trans (k.mono (by omega))⟩
/-- one contact more -/
theorem L1.step {v : Value} {l : List Sp} {x : Int} (h : L1 wZ C gB G Ds cells ug ud vals W) (hC : C ≤ gB) (hv : RSps W W.heap.size v l) {N : Nat} (hf : RFrom N v) (hN : gB + 1 ≤ N) (hu : ∀ b, ug.ownBlock = some b → b < N) (hd : ∀ b, ud.ownBlock = some b → b < N)
    (hb : BS W V (gB + 1) 45 3 ug ud ug' ud' (G.length + 1) (Ds.length + 1) (vals ++ [v]) (Ds.map (Value.int .i64) ++ [.int .i64 x]))
    (h9 : ∀ q, q ≠ gB → W9.heap[q]? = V.heap[q]?) (hs9 : W9.heap.size = V.heap.size) (hg9 : W9.heap[gB]? = some (.cells (cells ug' ud') 126 (0, 0))) (hb9 : Below C wZ W9) : L1 wZ C gB (G ++ [l]) (Ds ++ [x]) cells ug' ud' (vals ++ [v]) W9 := by
  have hl := h.lt
  have hvl : vals.length = G.length := by have := h.o1.1; omega
  have hn1 : ug.ownBlock ≠ some gB := fun e => by have := (h.o1.lt _ e).1; omega
  have hn2 : ud.ownBlock ≠ some gB := fun e => by have := (h.o2.lt _ e).1; omega
  have hk : ∀ b, b < W.heap.size → gB + 1 ≤ b → ug.ownBlock ≠ some b → ud.ownBlock ≠ some b → W9.heap[b]? = W.heap[b]? ∧ (gB + 1 ≤ b ∧ ug'.ownBlock ≠ some b ∧ ud'.ownBlock ≠ some b) := fun b hb1 hb2 n1 n2 => by
    refine ⟨(h9 b (by omega)).trans (hb.old b hb1 n1 n2), hb2, fun e => ?_, fun e => ?_⟩
    · rcases hb.f1 with z | ⟨b', z, hb'⟩
      · exact n1 (z ▸ e)
      · rw [z] at e; injection e with e; omega
    · rcases hb.f2 with z | ⟨b', z, hb'⟩
      · exact n2 (z ▸ e)
      · rw [z] at e; injection e with e; omega
  refine ⟨hg9, ?_, ?_, fun i v' l' hv' hl' => ?_, fun q hq => ?_, hb9⟩
  · rw [List.length_append]
    exact own_kept1 hb.own1 fun q hq => h9 q (by have := (hb.own1.lt q hq).1; omega)
  · rw [List.length_append, List.map_append]
    exact own_kept1 hb.own2 fun q hq => h9 q (by have := (hb.own2.lt q hq).1; omega)
  · rcases Nat.lt_or_ge i vals.length with z | z
    · rw [List.getElem?_append_left z] at hv'
      rw [List.getElem?_append_left (by omega)] at hl'
      exact (h.rows i v' l' hv' hl').keep (by rw [hs9]; exact hb.sz) fun b hb1 hd => hk b hb1 hd.1 hd.2.1 hd.2.2
    · rw [List.getElem?_append_right z] at hv'
      rw [List.getElem?_append_right (by omega)] at hl'
      have hi : i - vals.length = 0 := by
        rcases Nat.eq_zero_or_pos (i - vals.length) with z | z
        · exact z
        · rw [List.getElem?_eq_none (by simp; omega)] at hv'; cases hv'
      have hi2 : i - G.length = 0 := by omega
      rw [hi] at hv'
      rw [hi2] at hl'
      simp at hv' hl'
      subst hv' hl'
      refine (RSpsD.of (D := fun b => gB + 1 ≤ b ∧ ug.ownBlock ≠ some b ∧ ud.ownBlock ≠ some b) hv hf fun b h1 h2 => ⟨by omega, fun e => by have := hu b e; omega, fun e => by have := hd b e; omega⟩).keep (by rw [hs9]; exact hb.sz) fun b hb1 hd => hk b hb1 hd.1 hd.2.1 hd.2.2
  · exact (h9 q (by omega)).trans ((hb.old q (by omega) (fun e => by have := (h.o1.lt q e).1; omega) (fun e => by have := (h.o2.lt q e).1; omega)).trans (h.keep q hq))
end
/-- where build's second loop stands -/
structure L2 (wY : World) (C gB : Nat) (R : List (List Sp)) (cells : Value → Array Value) (ur : Value) (vals : List Value) (W : World) : Prop where
  gb : W.heap[gB]? = some (.cells (cells ur) 126 (0, 0))
  o1 : W.ownsRow wY.heap.size 45 1 ur R.length vals
  rows : ∀ (i : Nat) v l, vals[i]? = some v → R[i]? = some l → RSpsD (fun b => wY.heap.size ≤ b ∧ ur.ownBlock ≠ some b) W v l
  keep : ∀ q, q < wY.heap.size → q ≠ gB → W.heap[q]? = wY.heap[q]?
  sz : wY.heap.size ≤ W.heap.size
  bel : Below C wY W
section
variable {wY W W' V W9 : World} {C gB : Nat} {R : List (List Sp)} {cells : Value → Array Value} {ur ur' : Value} {vals : List Value}
theorem L2.lt (h : L2 wY C gB R cells ur vals W) : gB < W.heap.size := (Array.getElem?_eq_some_iff.1 h.gb).1
theorem L2.below (h : L2 wY C gB R cells ur vals W) (k : Below W.heap.size W W') (hC : C ≤ gB) : L2 wY C gB R cells ur vals W' := by
  have hl := h.lt
  have hs := h.sz
  exact ⟨(k.block _ hl).trans h.gb, own_kept1 h.o1 fun q hq => k.block q (h.o1.lt q hq).2, fun i v l hv hl' => (h.rows i v l hv hl').keep k.size fun b hb hd => ⟨k.block b hb, hd⟩, fun q hq hne => (k.block q (by omega)).trans (h.keep q hq hne), Nat.le_trans hs k.size, h.bel.trans (k.mono (by omega))⟩
theorem L2.step {v : Value} {l : List Sp} (h : L2 wY C gB R cells ur vals W) (hgB : gB < wY.heap.size) (hv : RSps W W.heap.size v l) {N : Nat} (hf : RFrom N v) (hN : wY.heap.size ≤ N) (hu : ∀ b, ur.ownBlock = some b → b < N)
    {e2 : TypeId} (hb : BS W V wY.heap.size 45 e2 ur (.slice none 0 0) ur' (.slice none 0 0) (R.length + 1) 0 (vals ++ [v]) [])
    (h9 : ∀ q, q ≠ gB → W9.heap[q]? = V.heap[q]?) (hs9 : W9.heap.size = V.heap.size) (hg9 : W9.heap[gB]? = some (.cells (cells ur') 126 (0, 0))) (hb9 : Below C wY W9) : L2 wY C gB (R ++ [l]) cells ur' (vals ++ [v]) W9 := by
  have hl := h.lt
  have hvl : vals.length = R.length := by have := h.o1.1; omega
  have hn1 : ur.ownBlock ≠ some gB := fun e => by have := (h.o1.lt _ e).1; omega
  have hk : ∀ b, b < W.heap.size → wY.heap.size ≤ b → ur.ownBlock ≠ some b → W9.heap[b]? = W.heap[b]? ∧ (wY.heap.size ≤ b ∧ ur'.ownBlock ≠ some b) := fun b hb1 hb2 n1 => by
    refine ⟨(h9 b (by omega)).trans (hb.old b hb1 n1 (fun e => by cases e)), hb2, fun e => ?_⟩
    rcases hb.f1 with z | ⟨b', z, hb'⟩
    · exact n1 (z ▸ e)
    · rw [z] at e; injection e with e; omega
  refine ⟨hg9, ?_, fun i v' l' hv' hl' => ?_, fun q hq hne => ?_, by rw [hs9]; exact Nat.le_trans h.sz hb.sz, hb9⟩
  · rw [List.length_append]
    exact own_kept1 hb.own1 fun q hq => h9 q (by have := (hb.own1.lt q hq).1; omega)
  · rcases Nat.lt_or_ge i vals.length with z | z
    · rw [List.getElem?_append_left z] at hv'
      rw [List.getElem?_append_left (by omega)] at hl'
      exact (h.rows i v' l' hv' hl').keep (by rw [hs9]; exact hb.sz) fun b hb1 hd => hk b hb1 hd.1 hd.2
    · rw [List.getElem?_append_right z] at hv'
      rw [List.getElem?_append_right (by omega)] at hl'
      have hi : i - vals.length = 0 := by
        rcases Nat.eq_zero_or_pos (i - vals.length) with z | z
        · exact z
        · rw [List.getElem?_eq_none (by simp; omega)] at hv'; cases hv'
      have hi2 : i - R.length = 0 := by omega
      rw [hi] at hv'
      rw [hi2] at hl'
      simp at hv' hl'
      subst hv' hl'
      refine (RSpsD.of (D := fun b => wY.heap.size ≤ b ∧ ur.ownBlock ≠ some b) hv hf fun b h1 h2 => ⟨by omega, fun e => by have := hu b e; omega⟩).keep (by rw [hs9]; exact hb.sz) fun b hb1 hd => hk b hb1 hd.1 hd.2
  · have hs := h.sz
    exact (h9 q hne).trans ((hb.old q (by omega) (fun e => by have := (h.o1.lt q e).1; omega) (fun e => by cases e)).trans (h.keep q hq hne))
theorem L2.gr {wZ : World} {C2 : Nat} {G : List (List Sp)} {Ds : List Int} {c3 : Value → Value → Array Value} {ug ud : Value} {vg : List Value} (h : L2 wY C gB R cells ur vals W) (hL : L1 wZ C2 gB G Ds c3 ug ud vg wY) :
    RRows W W.heap.size ug G ∧ RRows W W.heap.size ur R ∧ RRow intC 1 W W.heap.size ud Ds := by
  have hs := h.sz
  have hk : ∀ q, q < wY.heap.size → gB + 1 ≤ q → W.heap[q]? = wY.heap[q]? := fun q h1 h2 => h.keep q h1 (by omega)
  refine ⟨rrows_of (own_kept1 hL.o1 fun q hq => hk q (hL.o1.lt q hq).2 (hL.o1.lt q hq).1) rfl fun i v l hv hl => (hL.rows i v l hv hl).keep (D' := fun _ => True) hs fun b hb hd => ⟨hk b hb hd.1, trivial⟩, rrows_of h.o1 rfl h.rows, rrow_ints (own_kept1 hL.o2 fun q hq => hk q (hL.o2.lt q hq).2 (hL.o2.lt q hq).1)⟩
end
end Go.Proofs.YtkokiahmgmeokaaGreat
