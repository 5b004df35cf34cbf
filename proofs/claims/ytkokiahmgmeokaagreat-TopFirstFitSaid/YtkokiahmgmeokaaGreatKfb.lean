/- The graph of a search: rooms, leave, hop. -/
import Derived.BigQuiet
import Derived.BigRegion
import Derived.Deep.DeepCutAuto
import Derived.Deep.CutBlock
import Derived.Lib.MinMax
import Derived.Laws.EntriesVeiled
import Derived.Test.YtkokiahmgmeokaaGreatNz
import Derived.Test.YtkokiahmgmeokaaGreatJkz
import Derived.Test.YtkokiahmgmeokaaGreatYdz
set_option linter.unusedVariables false
set_option linter.unusedSimpArgs false
namespace Go.Proofs.YtkokiahmgmeokaaGreat
open Go Go.RowKit Iv
attribute [local go_sem] Oper.semAt_some
attribute [local go_sem] B_getElem B_size B_app B_extract B_get B_toList
theorem plan_skipK {P : Program} {Q : Exit → Act → World → Prop} {S : World → Prop} {kd : List Nat} {l rl : List Oper} {i : Nat} {r : List Nat} {o : Oper} {a : Act} {w : World} (hd : l.drop i = o :: rl) (hk : kd.getD i 2 = 2) (hw : Region.wanted o (yielded l.toArray a.tmps) = false)
    (hS : S w) (h : wpPlan P l.toArray Q S kd r (a.put o.dst undef) w) : wpPlan P l.toArray Q S kd (i :: r) a w := by
  have ho := drop_get hd
  unfold wpPlan
  rw [ho]
  simp only
  rw [if_neg (by omega), if_pos hk]
  unfold wpOp
  simp only [ho, hw]
  exact ⟨hS, h⟩
theorem plan_skipL {P : Program} {Q : Exit → Act → World → Prop} {S : World → Prop} {kd : List Nat} {l rl : List Oper} {i : Nat} {r : List Nat} {o : Oper} {a : Act} {w : World} (hd : l.drop i = o :: rl) (hk : kd.getD i 2 = 3) (hw : Region.wanted o (yielded l.toArray a.tmps) = false)
    (h : wpPlan P l.toArray Q S kd r (a.put o.dst undef) w) : wpPlan P l.toArray Q S kd (i :: r) a w := by
  have ho := drop_get hd
  unfold wpPlan
  rw [ho]
  simp only
  rw [if_neg (by omega), if_neg (by omega)]
  unfold wpOp
  simp only [ho, hw]
  exact h
/-- what a graph is: contacts, the free intervals of the contacts, of the nodes, the durations -/
structure Gp where
  cs : List Con
  G : List (List Sp)
  R : List (List Sp)
  Ds : List Int
  src : Int
  dst : Int
  sz : Int
  rd : Int
  D : Int
  pr : Int
  cu : Bool
def spOK (x : Sp) : Prop := 0 ≤ x.1 ∧ x.1 < x.2 ∧ x.2 ≤ 1099511627776
structure GOK (g : Gp) : Prop where
  c64 : g.cs.length ≤ 64
  r16 : g.R.length ≤ 16
  gl : g.G.length = g.cs.length
  dl : g.Ds.length = g.cs.length
  con : ∀ c ∈ g.cs, chkCon c = 0 ∧ c.fr < g.R.length ∧ c.tt < g.R.length
  gs : ∀ l ∈ g.G, l.length ≤ 1000 ∧ ∀ x ∈ l, spOK x
  rs : ∀ l ∈ g.R, l.length ≤ 1100 ∧ ∀ x ∈ l, spOK x
  ds : ∀ d ∈ g.Ds, 1 ≤ d ∧ d ≤ 50000000
  s0 : 0 ≤ g.src ∧ g.src < g.R.length
  t0 : 0 ≤ g.dst ∧ g.dst < g.R.length
  r0 : 0 ≤ g.rd ∧ g.rd ≤ g.D
  d1 : g.D ≤ 1099511627776
def roomsP (g : Gp) (n : Nat) : List Sp := if (n : Int) = g.dst then [(0, 1099511627776)] else g.R.getD n []
def hopG : List Sp → Int → Int → Option Int
  | [], _, _ => none
  | x :: l, d, f => if max x.1 f + d ≤ x.2 then some (max x.1 f) else hopG l d f
theorem hopG_some {l : List Sp} {d f b : Int} (h : hopG l d f = some b) : ∃ x ∈ l, b = max x.1 f ∧ b + d ≤ x.2 := by
  induction l with
  | nil => cases h
  | cons y l ih =>
    unfold hopG at h
    split at h
    · rename_i z
      injection h with h
      exact ⟨y, by simp, h.symm, by omega⟩
    · obtain ⟨x, hx, e1, e2⟩ := ih h
      exact ⟨x, by simp [hx], e1, e2⟩
def leaveS (cu : Bool) (e rg : Int) : Int := if cu then e + 2 * rg else e
/-- the cells of a world are kept -/
def CK (w w' : World) : Prop := w.heap.size ≤ w'.heap.size ∧ ∀ (q : Nat) (cs : Array Value) (e : TypeId) (f : Nat × Nat), w.heap[q]? = some (Obj.cells cs e f) → w'.heap[q]? = some (Obj.cells cs e f)
theorem CK.refl (w : World) : CK w w := ⟨Nat.le_refl _, fun _ _ _ _ h => h⟩
theorem CK.trans {a b c : World} (h : CK a b) (k : CK b c) : CK a c := ⟨Nat.le_trans h.1 k.1, fun q cs e f hq => k.2 q cs e f (h.2 q cs e f hq)⟩
theorem CK.of {w w' : World} (h : Below w.heap.size w w') : CK w w' := ⟨h.size, fun q cs e f hq => (h.block q (Array.getElem?_eq_some_iff.1 hq).1).trans hq⟩
theorem CK.cell {w w' : World} (h : CK w w') {b o : Nat} {u : Value} (hu : w.cell? ⟨b, o, none⟩ = some u) : w'.cell? ⟨b, o, none⟩ = some u := by
  unfold World.cell? at hu ⊢
  split at hu
  · rename_i c e f hc
    rw [h.2 _ _ _ _ hc]
    exact hu
  · cases hu
theorem RRow.ck {α : Type} {enc : α → List Value} {s : Nat} {w w' : World} {v : Value} {l : List α} (h : RRow enc s w w.heap.size v l) (k : CK w w') : RRow enc s w' w'.heap.size v l := by
  obtain ⟨a, c, rfl, h1, h2, h3, h4⟩ := h
  refine ⟨a, c, rfl, h1, h2, h3, fun hp => ?_⟩
  obtain ⟨b, o, rfl, hb, hc⟩ := h4 hp
  exact ⟨b, o, rfl, Nat.lt_of_lt_of_le hb k.1, fun i x hx j u hu => k.cell (hc i x hx j u hu)⟩
theorem RSps.ck {w w' : World} {v : Value} {l : List Sp} (h : RSps w w.heap.size v l) (k : CK w w') : RSps w' w'.heap.size v l := by
  obtain ⟨a, c, rfl, h1, h2, h3, h4⟩ := h
  refine ⟨a, c, rfl, h1, h2, h3, fun hp => ?_⟩
  obtain ⟨b, o, rfl, hb, hc⟩ := h4 hp
  exact ⟨b, o, rfl, Nat.lt_of_lt_of_le hb k.1, fun j u hu => k.cell (hc j u hu)⟩
/-- a row of rows of spans -/
def RRows (w : World) (N : Nat) (v : Value) (L : List (List Sp)) : Prop := ∃ (a : Option Addr) (c : Nat), v = .slice a L.length c ∧ L.length ≤ c ∧ c ≤ maxLen ∧
  (0 < L.length → ∃ b o, a = some ⟨b, o, none⟩ ∧ b < N ∧ ∀ (i : Nat) (l : List Sp), L[i]? = some l → ∃ u, w.cell? ⟨b, o + i, none⟩ = some u ∧ RSps w N u l)
theorem RRows.below' {w w' : World} {v : Value} {L : List (List Sp)} (h : RRows w w.heap.size v L) (k : Below w.heap.size w w') : RRows w' w'.heap.size v L := by
  obtain ⟨a, c, rfl, h1, h2, h3⟩ := h
  refine ⟨a, c, rfl, h1, h2, fun hp => ?_⟩
  obtain ⟨b, o, rfl, hb, hc⟩ := h3 hp
  refine ⟨b, o, rfl, Nat.lt_of_lt_of_le hb k.size, fun i l hi => ?_⟩
  obtain ⟨u, hu, hr⟩ := hc i l hi
  exact ⟨u, (k.cell (p := ⟨b, o + i, none⟩) hb).trans hu, hr.below' k⟩
theorem RRows.ck {w w' : World} {v : Value} {L : List (List Sp)} (h : RRows w w.heap.size v L) (k : CK w w') : RRows w' w'.heap.size v L := by
  obtain ⟨a, c, rfl, h1, h2, h3⟩ := h
  refine ⟨a, c, rfl, h1, h2, fun hp => ?_⟩
  obtain ⟨b, o, rfl, hb, hc⟩ := h3 hp
  refine ⟨b, o, rfl, Nat.lt_of_lt_of_le hb k.1, fun i l hi => ?_⟩
  obtain ⟨u, hu, hr⟩ := hc i l hi
  exact ⟨u, k.cell hu, hr.ck k⟩
structure Gr (w : World) (gB : Nat) (g : Gp) : Prop where
  box : ∃ uq uc ub uh ug ur ud : Value, w.heap[gB]? = some (.cells #[uq, uc, ub, uh, .int .i64 g.src, .int .i64 g.dst, .int .i64 g.sz, .int .i64 g.rd, .int .i64 g.D, .int .i64 g.pr, .bool g.cu, ug, ur, ud] 126 (0, 0)) ∧ RRow conC 7 w w.heap.size uc g.cs ∧ RRows w w.heap.size ug g.G ∧ RRows w w.heap.size ur g.R ∧ RRow intC 1 w w.heap.size ud g.Ds
theorem Gr.lt {w : World} {gB : Nat} {g : Gp} (h : Gr w gB g) : gB < w.heap.size := by
  obtain ⟨uq, uc, ub, uh, ug, ur, ud, h1, _⟩ := h.box
  exact (Array.getElem?_eq_some_iff.1 h1).1
theorem Gr.below {w w' : World} {gB : Nat} {g : Gp} (h : Gr w gB g) (k : Below w.heap.size w w') : Gr w' gB g := by
  obtain ⟨uq, uc, ub, uh, ug, ur, ud, h1, h2, h3, h4, h5⟩ := h.box
  exact ⟨uq, uc, ub, uh, ug, ur, ud, (k.block _ h.lt).trans h1, h2.below' k, h3.below' k, h4.below' k, h5.below' k⟩
theorem Gr.ck {w w' : World} {gB : Nat} {g : Gp} (h : Gr w gB g) (k : CK w w') : Gr w' gB g := by
  obtain ⟨uq, uc, ub, uh, ug, ur, ud, h1, h2, h3, h4, h5⟩ := h.box
  exact ⟨uq, uc, ub, uh, ug, ur, ud, k.2 _ _ _ _ h1, h2.ck k, h3.ck k, h4.ck k, h5.ck k⟩
set_option maxRecDepth 100000 in
set_option maxHeartbeats 4000000 in
theorem rooms_any (g : Gp) (hg : GOK g) (gB n : Nat) (w0 w : World) (h : Gr w0 gB g) (hk : CK w0 w) (hn : n < g.R.length) : Calls Tryz.prog 101 #[.pointer (some ⟨gB, 0, none⟩), .int .i64 (n : Int)] w fun e w' => ∃ u, e = .returned u ∧ RSps w' w'.heap.size u (roomsP g n) ∧ Below w.heap.size w w' ∧ ∀ V, CK w0 V → (∀ (q : Nat) (cs : Array Value) (f : Nat × Nat), w'.heap[q]? = some (Obj.cells cs 50 f) → V.heap[q]? = some (Obj.cells cs 50 f)) → RSps V V.heap.size u (roomsP g n) := by
  obtain ⟨uq, uc, ub, uh, ug, ur, ud, h1, h2, h3, h4, h5⟩ := h.box
  obtain ⟨a, c, rfl, e1, e2, e3⟩ := h4
  obtain ⟨b, o, rfl, hb, hc⟩ := e3 (by omega)
  obtain ⟨l, hl⟩ : ∃ l, g.R[n]? = some l := ⟨_, List.getElem?_eq_getElem hn⟩
  obtain ⟨u, hu, hru⟩ := hc n l hl
  have HRU := Lib.hid hru
  have HK := Lib.hid hk
  have cg := fun q => cellB (hk.2 _ _ _ _ h1) q
  have pu := hk.cell hu
  have hgl : gB < w.heap.size := Nat.lt_of_lt_of_le h.lt hk.1
  have hbl : b < w.heap.size := Nat.lt_of_lt_of_le hb hk.1
  have n0 : (0 : Int) ≤ (n : Int) := by omega
  have n1 : (n : Int) < (g.R.length : Int) := by omega
  have HL := Lib.hid hl
  unfold maxLen at e2
  clear h2 h3 h5 hc hl hru e3 h1 h hk hu
  by_cases z : (n : Int) = g.dst
  · have d1 : ((n : Int) == g.dst) = true := by simpa using z
    have HP : Hid (roomsP g n = [(0, 1099511627776)]) := Lib.hid (if_pos z)
    clear z
    go_enter Tryz.func101, Tryz.ntmps101
    go_wp2
    go_ret
    refine ⟨_, rfl, by rw [HP.out]; exact RSps.one heap_new rfl, belowA, fun V _ hV => ?_⟩
    rw [HP.out]
    exact RSps.one (hV _ _ _ heap_new) rfl
  · have d1 : ((n : Int) == g.dst) = false := by simpa using z
    have HP : Hid (roomsP g n = l) := Lib.hid (by unfold roomsP; rw [if_neg z, List.getD_eq_getElem?_getD, HL.out]; rfl)
    clear z
    go_enter Tryz.func101, Tryz.ntmps101
    go_wp2
    go_ret
    exact ⟨_, rfl, by rw [HP.out]; exact HRU.out.ck HK.out, Below.refl _ _, fun V hV _ => by rw [HP.out]; exact HRU.out.ck hV⟩
set_option maxRecDepth 100000 in
set_option maxHeartbeats 4000000 in
theorem leave_any (g : Gp) (hg : GOK g) (gB i : Nat) (c : Con) (b e a : Int) (w : World) (h : Gr w gB g) (hc : g.cs[i]? = some c) (h0 : 0 ≤ e) (h1 : e ≤ 2000000000000) : Calls Tryz.prog 103 #[.pointer (some ⟨gB, 0, none⟩), .agg #[.int .i64 (i : Int), .int .i64 b, .int .i64 e, .int .i64 a]] w fun r w' => r = .returned (.int .i64 (leaveS g.cu e c.rg)) ∧ Below w.heap.size w w' := by
  obtain ⟨uq, uc, ub, uh, ug, ur, ud, g1, g2, g3, g4, g5⟩ := h.box
  obtain ⟨ca, cc, rfl, e1, e2, e3, e4⟩ := g2
  have hil := (List.getElem?_eq_some_iff.1 hc).1
  obtain ⟨bb, o, rfl, hbb, hcell⟩ := e4 (by omega)
  have hcf := con_facts (hg.con c (List.mem_of_getElem? hc)).1
  have r0 := hcf.rg0
  have r1 := hcf.rg1
  have p5 : w.cell? ⟨bb, o + i * 7 + 5, none⟩ = some (.int .i64 c.rg) := hcell i c hc 5 _ rfl
  have cg := fun q => cellB g1 q
  have hgl := h.lt
  have i0 : (0 : Int) ≤ (i : Int) := by omega
  have i1 : (i : Int) < (g.cs.length : Int) := by omega
  obtain ⟨rg, hrg⟩ : ∃ q, c.rg = q := ⟨_, rfl⟩
  rw [hrg] at r0 r1 p5 ⊢
  have w1_ : IntKind.i64.wrap (2 * rg) = 2 * rg := by rw [IntKind.wrap_i64]; omega
  have w2_ : IntKind.i64.wrap (e + 2 * rg) = e + 2 * rg := by rw [IntKind.wrap_i64]; omega
  obtain ⟨cu, hcu⟩ : ∃ q, g.cu = q := ⟨_, rfl⟩
  rw [hcu] at cg ⊢
  unfold maxLen at e2
  clear g3 g4 g5 hcell hcf g1 e3 e4 h hc hrg hcu hg
  cases cu with
  | true =>
    go_enter Tryz.func103, Tryz.ntmps103
    go_upto_region 2 with fail
    obtain ⟨W, hW⟩ : ∃ q, w.alloc (.cells #[.int .i64 (i : Int), .int .i64 b, .int .i64 e, .int .i64 a] 42) = q := ⟨_, rfl⟩
    rw [hW]
    have B1 : Below w.heap.size w W := by rw [← hW]; exact balloc0 (Below.refl _ _)
    have cx := fun q => cellB (w := W) (g := w.heap.size) (by rw [← hW]; exact heap_new) q
    have cg' := fun q => (B1.cell (p := ⟨gB, q, none⟩) hgl).trans (cg q)
    have p5' := (B1.cell (p := ⟨bb, o + i * 7 + 5, none⟩) hbb).trans p5
    clear hW cg p5
    go_quiet (fail)
    go_wp2
    go_ret
    exact ⟨rfl, bdrewN B1 _⟩
  | false =>
    go_enter Tryz.func103, Tryz.ntmps103
    go_wp2
    go_ret
    exact ⟨rfl, belowA⟩
set_option maxRecDepth 100000 in
set_option maxHeartbeats 16000000 in
theorem ghop_any (g : Gp) (hg : GOK g) (gB i : Nat) (c : Con) (d f : Int) (l : List Sp) (w : World) (h : Gr w gB g) (hc : g.cs[i]? = some c) (hd : g.Ds[i]? = some d) (hl : g.G[i]? = some l) (h0 : 0 ≤ f) (h1 : f ≤ 1099511627776) :
    Calls Tryz.prog 102 #[.pointer (some ⟨gB, 0, none⟩), .int .i64 (i : Int), .int .i64 f] w fun r w' => Below w.heap.size w w' ∧ ((∃ b, hopG l d f = some b ∧ r = .returned (.tuple #[.agg #[.int .i64 (i : Int), .int .i64 b, .int .i64 (b + d), .int .i64 (b + d + c.rg)], .bool true])) ∨ (hopG l d f = none ∧ r = .returned (.tuple #[.agg #[.int .i64 0, .int .i64 0, .int .i64 0, .int .i64 0], .bool false]))) := by
  obtain ⟨uq, uc, ub, uh, ug, ur, ud, g1, g2, g3, g4, g5⟩ := h.box
  obtain ⟨ca, cc, rfl, e1, e2, e3, e4⟩ := g2
  have hil := (List.getElem?_eq_some_iff.1 hc).1
  obtain ⟨bb, o, rfl, hbb, hcell⟩ := e4 (by omega)
  have p5 : w.cell? ⟨bb, o + i * 7 + 5, none⟩ = some (.int .i64 c.rg) := hcell i c hc 5 _ rfl
  obtain ⟨da, dc, rfl, d1, d2, d3, d4⟩ := g5
  have hid_ := (List.getElem?_eq_some_iff.1 hd).1
  obtain ⟨db, od, rfl, hdb, hdcell⟩ := d4 (by omega)
  have pd : w.cell? ⟨db, od + i, none⟩ = some (.int .i64 d) := by have := hdcell i d hd 0 _ rfl; simpa using this
  obtain ⟨ga, gc, rfl, f1, f2, f3⟩ := g3
  have hig := (List.getElem?_eq_some_iff.1 hl).1
  obtain ⟨gb, og, rfl, hgb, hgcell⟩ := f3 (by omega)
  obtain ⟨u, pu, hru⟩ := hgcell i l hl
  obtain ⟨la, lc, rfl, l1, l2, l3, l4⟩ := hru
  have hcf := con_facts (hg.con c (List.mem_of_getElem? hc)).1
  have r0 := hcf.rg0
  have r1 := hcf.rg1
  have hds := hg.ds d (List.mem_of_getElem? hd)
  have hgs := hg.gs l (List.mem_of_getElem? hl)
  have cg := fun q => cellB g1 q
  have hgl := h.lt
  have i0 : (0 : Int) ≤ (i : Int) := by omega
  have i1 : (i : Int) < (g.cs.length : Int) := by omega
  have i2 : (i : Int) < (g.Ds.length : Int) := by omega
  have i3 : (i : Int) < (g.G.length : Int) := by omega
  obtain ⟨rg, hrg⟩ : ∃ q, c.rg = q := ⟨_, rfl⟩
  rw [hrg] at r0 r1 p5 ⊢
  have HL4 := Lib.hid l4
  have HGS := Lib.hid hgs.2
  have hlen := hgs.1
  unfold maxLen at e2 d2 f2 l2
  clear g4 hcell hcf g1 e3 e4 h hc hd hl hrg hg d3 d4 hdcell hgcell f3 l3 l4 hgs
  go_enter Tryz.func102, Tryz.ntmps102
  go_wp2_with fail
  obtain ⟨W, hW⟩ : ∃ q, w.alloc (.cells #[.int .i64 0, .int .i64 0, .int .i64 0, .int .i64 0] 42) = q := ⟨_, rfl⟩
  rw [hW]
  have B1 : Below w.heap.size w W := by rw [← hW]; exact balloc0 (Below.refl _ _)
  have HX : Hid (W.heap[w.heap.size]? = some (.cells #[.int .i64 0, .int .i64 0, .int .i64 0, .int .i64 0] 42 (0, 0))) := Lib.hid (by rw [← hW]; exact heap_new)
  have z1 : w.heap.size < W.heap.size := by rw [← hW]; simp
  have HB1 := Lib.hid B1
  clear hW B1
  go_loopw [28] (fun kv wr => ∃ k : Nat, k ≤ l.length ∧ kv = .int .i64 (k : Int) ∧ Hid (hopG l d f = hopG (l.drop k) d f) ∧ Hid (Below W.heap.size W wr)) (fun kv _ => l.length - (intOf kv).toNat)
  case atStart => exact ⟨0, Nat.zero_le _, rfl, Lib.hid rfl, Lib.hid (Below.refl _ _)⟩
  case round =>
    obtain ⟨k, hk, rfl, HE, HB⟩ := hrel
    have zr : W.heap.size ≤ wr.heap.size := HB.out.size
    have HBw : Hid (Below w.heap.size w wr) := Lib.hid (HB1.out.trans (HB.out.mono (by omega)))
    have HXr : Hid (wr.heap[w.heap.size]? = some (.cells #[.int .i64 0, .int .i64 0, .int .i64 0, .int .i64 0] 42 (0, 0))) := Lib.hid ((HB.out.block _ z1).trans HX.out)
    by_cases hlt : k < l.length
    · obtain ⟨x, hx⟩ : ∃ x, l[k]? = some x := ⟨_, List.getElem?_eq_getElem hlt⟩
      obtain ⟨lb, ol, rfl, hlb, hlc⟩ := HL4.out (by omega)
      have q0 : wr.cell? ⟨lb, ol + k * 2, none⟩ = some (.int .i64 x.1) := (HBw.out.cell (p := ⟨lb, ol + k * 2, none⟩) hlb).trans (sp0 hlc hx)
      have q1 : wr.cell? ⟨lb, ol + k * 2 + 1, none⟩ = some (.int .i64 x.2) := (HBw.out.cell (p := ⟨lb, ol + k * 2 + 1, none⟩) hlb).trans (sp1 hlc hx)
      have hxo := HGS.out x (List.mem_of_getElem? hx)
      unfold spOK at hxo
      have HDR : Hid (hopG (l.drop k) d f = if max x.1 f + d ≤ x.2 then some (max x.1 f) else hopG (l.drop (k + 1)) d f) := Lib.hid (by
        rw [List.drop_eq_getElem_cons hlt]
        have : l[k] = x := (List.getElem?_eq_some_iff.1 hx).2
        rw [this]; rfl)
      obtain ⟨M, hM⟩ : ∃ q, max x.1 f = q := ⟨_, rfl⟩
      have hM0 : 0 ≤ M ∧ M ≤ 1099511627776 := by omega
      rw [hM] at HDR
      have HM := Lib.hid hM
      have k0 : (0 : Int) ≤ (k : Int) := by omega
      have k1 : (k : Int) < (l.length : Int) := by omega
      have w1_ : IntKind.i64.wrap (M + d) = M + d := by rw [IntKind.wrap_i64]; omega
      have w2_ : IntKind.i64.wrap (M + d + rg) = M + d + rg := by rw [IntKind.wrap_i64]; omega
      have cgr := fun q => (HBw.out.cell (p := ⟨gB, q, none⟩) hgl).trans (cg q)
      have p5r := (HBw.out.cell (p := ⟨bb, o + i * 7 + 5, none⟩) hbb).trans p5
      have zg : gB < wr.heap.size := by omega
      have zb : bb < wr.heap.size := by omega
      have hmx : max x.1 f = M := HM.out
      clear hx hM hlc hxo hM0
      by_cases zz : M + d ≤ x.2
      · have dz : decide (M + d ≤ x.2) = true := decide_eq_true zz
        have HR : Hid (hopG l d f = some M) := Lib.hid (by rw [HE.out, HDR.out, if_pos zz])
        have HMX := Lib.hid hmx
        have hmx' : (if f ≤ x.1 then x.1 else f) = M := by rw [← HM.out]; omega
        go_wp2_with (refine wpList_store_block rfl 42 _ _ rfl w.heap.size #[.int .i64 (i : Int), .int .i64 M, .int .i64 (M + d), .int .i64 (M + d + rg)] _ 42 rfl rfl ((Below.heap_alloc _ _ _ (by omega)).trans HXr.out) rfl (by kernel_rfl) (by simp [Value.oneCell']) ?_; intro wF hW hbW hsW hoW; have bF : Below w.heap.size w wF := (HBw.out.trans ((balloc0 (Below.refl _ _)).mono (by omega))).trans (hbW _ (Nat.le_refl _)); have zF : w.heap.size < wF.heap.size := (Array.getElem?_eq_some_iff.1 hW).1; have cF := fun o => cellB hW o; clear hW hbW hsW hoW)
        refine bodyPost_ret (v := .tuple #[.agg #[.int .i64 (i : Int), .int .i64 M, .int .i64 (M + d), .int .i64 (M + d + rg)], .bool true]) (by simp [results, Tryz.results102, go_sem, World.cell?_setCell_same', cF, zF]) rfl ?_
        exact ⟨bF, .inl ⟨M, HR.out, rfl⟩⟩
      · have dz : decide (M + d ≤ x.2) = false := decide_eq_false zz
        have HR : Hid (hopG l d f = hopG (l.drop (k + 1)) d f) := Lib.hid (by rw [HE.out, HDR.out, if_neg zz])
        have hmx' : (if f ≤ x.1 then x.1 else f) = M := by rw [← HM.out]; omega
        clear zz
        go_wp2
        go_roundw
        case rel => exact ⟨k + 1, by omega, by go_num, HR, Lib.hid (HB.out.alloc zr _)⟩
        case measure => simp [intOf]; omega
    · obtain rfl : k = l.length := by omega
      have HR : Hid (hopG l d f = none) := Lib.hid (by rw [HE.out, List.drop_length]; rfl)
      go_wp2_with (refine wpList_store_block rfl 42 _ _ rfl w.heap.size #[.int .i64 0, .int .i64 0, .int .i64 0, .int .i64 0] _ 42 rfl rfl HXr.out rfl (by kernel_rfl) (by simp [Value.oneCell']) ?_; intro wF hW hbW hsW hoW; have bF : Below w.heap.size w wF := HBw.out.trans (hbW _ (Nat.le_refl _)); have zF : w.heap.size < wF.heap.size := (Array.getElem?_eq_some_iff.1 hW).1; have cF := fun o => cellB hW o; clear hW hbW hsW hoW)
      refine bodyPost_ret (v := .tuple #[.agg #[.int .i64 0, .int .i64 0, .int .i64 0, .int .i64 0], .bool false]) (by simp [results, Tryz.results102, go_sem, World.cell?_setCell_same', cF, zF]) rfl ?_
      exact ⟨bF, .inr ⟨HR.out, rfl⟩⟩
end Go.Proofs.YtkokiahmgmeokaaGreat
