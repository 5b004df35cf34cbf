/- Chapter 19: Groups: its meaning in plain Lean, and what its loop keeps. -/
import Derived.Test.YtpkklmkeflddkaaGreatRb
set_option linter.unusedVariables false
set_option linter.unusedSimpArgs false
namespace Go.Proofs.YtpkklmkeflddkaaGreat
open Go Go.RowKit
abbrev GSt := List (List Int) × List (List Bun)
def grK (most : Int) (b : Bun) (gb : List (List Bun)) : Nat := gb.findIdx (fitB most b)
def grGrow (k : Nat) (st : GSt) : GSt := if k < st.2.length then st else (st.1 ++ [[]], st.2 ++ [[]])
def grPut (k : Nat) (i : Int) (b : Bun) (st : GSt) : GSt := (st.1.set k (st.1.getD k [] ++ [i]), st.2.set k (st.2.getD k [] ++ [b]))
def grStep (most i : Int) (b : Bun) (st : GSt) : GSt := grPut (grK most b st.2) i b (grGrow (grK most b st.2) st)
def groupL (most : Int) : List Bun → Nat → GSt → GSt
  | [], _, st => st
  | b :: r, i, st => groupL most r (i + 1) (grStep most i b st)
/-- what Groups answers -/
def grS (l : List Bun) (most : Int) : List (List Int) × Int :=
  if 64 < l.length then ([], 4) else if l.any (fun x => chkE x != 0) = true then ([], 1) else if l.any joinedB = true then ([], 8)
  else if most < 1 ∨ 4096 < most then ([], 2) else ((groupL most l 0 ([], [])).1, 0)
theorem groupL_at {most : Int} {l : List Bun} {k : Nat} {b : Bun} (hk : l[k]? = some b) (i : Nat) (st : GSt) : groupL most (l.drop k) i st = groupL most (l.drop (k + 1)) (i + 1) (grStep most i b st) := by
  have h1 : k < l.length := by
    rcases Nat.lt_or_ge k l.length with z | z
    · exact z
    · rw [List.getElem?_eq_none z] at hk; cases hk
  rw [List.drop_eq_getElem_cons h1]
  rw [List.getElem?_eq_getElem h1] at hk
  rw [Option.some.inj hk]
  rfl
theorem grK_none {most : Int} {b : Bun} {gb : List (List Bun)} (h : ∀ x ∈ gb, fitB most b x = false) : grK most b gb = gb.length := List.findIdx_eq_length.2 h
theorem grK_some {most : Int} {b : Bun} {gb : List (List Bun)} {k : Nat} (hk : k < gb.length) (h : ∀ x ∈ gb.take k, fitB most b x = false) (h2 : ∀ x, gb[k]? = some x → fitB most b x = true) : grK most b gb = k := by
  refine (List.findIdx_eq hk).2 ⟨h2 _ (List.getElem?_eq_getElem hk), fun j hj => ?_⟩
  exact h _ (by rw [List.mem_take_iff_getElem]; exact ⟨j, by omega, rfl⟩)
theorem own_typ {W : World} {v1 v2 : Value} {n1 n2 s1 s2 b1 b2 q : Nat} {e1 e2 : TypeId} {xs1 xs2 : List Value} (h1 : W.ownsRow b1 e1 s1 v1 n1 xs1) (h2 : W.ownsRow b2 e2 s2 v2 n2 xs2) (he : e1 ≠ e2) (hq : v1.ownBlock = some q) : v2.ownBlock ≠ some q := fun h => by
  obtain ⟨c1, f1⟩ := own_at h1 hq
  obtain ⟨c2, f2⟩ := own_at h2 h
  rw [f1] at f2; injection f2 with f2; injection f2 with _ f2 _; exact he f2
section
variable {α : Type} {e f : TypeId} {size : Nat} {enc : List α → List Value} {w w' : World} {B : Nat} {gs : List (List α)} {vals : List Value}
theorem OwnV.put2 {x x' : Value} {g : List α} {y : α} {k go cap : Nat} (h : OwnV e f size enc w B (.slice (some ⟨go, 0, none⟩) gs.length cap) gs vals) (hef : e ≠ f) (hx : vals[k]? = some x) (hgk : gs[k]? = some g)
    (ho : w'.ownsRow B e size x' (g.length + 1) (enc (g ++ [y]))) (hgo' : w'.heap[go]? = w.heap[go]?) (hkp : ∀ (j : Nat) u z, vals[j]? = some u → u.ownBlock = some z → x.ownBlock ≠ some z → w'.heap[z]? = w.heap[z]?)
    (hfr : ∀ z, x'.ownBlock = some z → x.ownBlock = some z ∨ w.heap.size ≤ z) :
    OwnV e f size enc (w'.setCell ⟨go, k, none⟩ x') B (.slice (some ⟨go, 0, none⟩) gs.length cap) (gs.set k (g ++ [y])) (vals.set k x') := by
  have hl := h.len
  have hkv : k < vals.length := by
    rcases Nat.lt_or_ge k vals.length with z | z
    · exact z
    · rw [List.getElem?_eq_none z] at hx; cases hx
  have hgo : ∀ (j : Nat) y q, vals[j]? = some y → y.ownBlock = some q → go ≠ q := fun j y q hy hq e => h.other hef hy hq (by rw [← e]; rfl)
  have h1 : w'.ownsRow B f 1 (.slice (some ⟨go, 0, none⟩) gs.length cap) gs.length vals := own_kept1 h.1 fun q hq => by cases hq; exact hgo'
  have hox : ∀ q, x'.ownBlock = some q → go ≠ q := fun q hq e => by
    rcases hfr q hq with z | z
    · exact hgo k x q hx z e
    · have := (h.1.lt go rfl).2
      omega
  have hset : ∀ q, go ≠ q → (w'.setCell ⟨go, k, none⟩ x').heap[q]? = w'.heap[q]? := fun q hq => heap_setCell_other w' ⟨go, k, none⟩ q x' (fun e => hq e.symm)
  refine ⟨by simpa using (h1.stored k x').1, fun j z gz hz hgz => ?_, fun i j z u q hz hu hqz hqu => ?_⟩
  · by_cases hj : k = j
    · subst hj
      rw [List.getElem?_set_self hkv] at hz
      rw [List.getElem?_set_self (by omega)] at hgz
      cases hz; cases hgz
      refine own_kept1 (by simpa using ho) fun q hq => hset q (hox q hq)
    · rw [List.getElem?_set_ne hj] at hz hgz
      refine own_kept1 (h.2.1 j z gz hz hgz) fun q hq => ?_
      rw [hset q (hgo j z q hz hq)]
      exact hkp j z q hz hq fun e => hj (h.2.2 k j x z q hx hz e hq)
  · have hb : ∀ (j : Nat) u, k ≠ j → vals[j]? = some u → u.ownBlock = some q → x'.ownBlock = some q → False := fun j u hj hu hqu hqx => by
      rcases hfr q hqx with z | z
      · exact hj (h.2.2 k j x u q hx hu z hqu)
      · have := (h.lt hu hqu).2
        omega
    by_cases hi : k = i
    · by_cases hj : k = j
      · omega
      · subst hi
        rw [List.getElem?_set_self hkv] at hz
        cases hz
        rw [List.getElem?_set_ne hj] at hu
        exact (hb j u hj hu hqu hqz).elim
    · rw [List.getElem?_set_ne hi] at hz
      by_cases hj : k = j
      · subst hj
        rw [List.getElem?_set_self hkv] at hu
        cases hu
        exact (hb i z hi hz hqz hqu).elim
      · rw [List.getElem?_set_ne hj] at hu
        exact h.2.2 i j z u q hz hu hqz hqu
end
structure GBase (most : Int) (w : World) (gs : List (List Int)) (gv : List (List BV)) (vals vals2 : List Value) (s6 s7 : Value) (wr : World) : Prop where
  len : gs.length = gv.length
  out : OwnVI wr (w.heap.size + 1) s6 gs vals
  grp : OwnVB wr (w.heap.size + 1) s7 gv vals2
  okk : ∀ g ∈ gv, ∀ r ∈ g, RBlks w w.heap.size r.2 r.1.blocks ∧ Fits r.1
  box : wr.heap[w.heap.size]? = some (.cells #[.int .i64 most] 3 (0, 0))
  below : Below w.heap.size w wr
def GLoop (l : List Bun) (most : Int) (w : World) (R : GSt) (s6 s7 s26 : Value) (wr : World) : Prop := ∃ (k : Nat) (gs : List (List Int)) (gv : List (List BV)) (vals vals2 : List Value), k ≤ l.length ∧ s26 = .int .i64 k ∧ groupL most (l.drop k) k (gs, gv.map buns) = R ∧ gv.length ≤ k ∧ (∀ g ∈ gs, g.length ≤ k) ∧ (∀ g ∈ gv, g.length ≤ k) ∧ GBase most w gs gv vals vals2 s6 s7 wr
structure GBox (b : Bun) (ub : Value) (p : Nat) (vals2 : List Value) (wx : World) : Prop where
  nob : ∀ (i : Nat) x, vals2[i]? = some x → x.ownBlock ≠ some p
  box : wx.heap[p]? = some (.cells (bunC b ub).toArray 31 (0, 0))
def GMid (l : List Bun) (most : Int) (w : World) (R : GSt) (k : Nat) (b : Bun) (ub : Value) (p : Nat) (s6 s7 s10 : Value) (wx : World) : Prop := ∃ (q : Nat) (gs : List (List Int)) (gv : List (List BV)) (vals vals2 : List Value), s10 = .int .i64 q ∧ q < gv.length ∧ groupL most (l.drop (k + 1)) (k + 1) (grPut q k b (gs, gv.map buns)) = R ∧ gv.length ≤ k + 1 ∧ (∀ g ∈ gs, g.length ≤ k) ∧ (∀ g ∈ gv, g.length ≤ k) ∧ GBase most w gs gv vals vals2 s6 s7 wx ∧ GBox b ub p vals2 wx
section
variable {most : Int} {w : World} {gs : List (List Int)} {gv : List (List BV)} {vals vals2 : List Value} {s6 s7 : Value} {wr : World} {b : Bun} {ub : Value} {p : Nat}
theorem heap_lt {W : World} {q : Nat} {o : Obj} (h : W.heap[q]? = some o) : q < W.heap.size := by
  rcases Nat.lt_or_ge q W.heap.size with z | z
  · exact z
  · rw [Array.getElem?_eq_none z] at h; cases h
theorem GBase.step {wx : World} (h : GBase most w gs gv vals vals2 s6 s7 wr) (k : Below wr.heap.size wr wx) : GBase most w gs gv vals vals2 s6 s7 wx :=
  ⟨h.len, h.out.below k, h.grp.below k, h.okk, (k.block _ (heap_lt h.box)).trans h.box, btrans0 h.below k⟩
theorem GBox.step {wx wy : World} (h : GBox b ub p vals2 wx) (k : Below wx.heap.size wx wy) : GBox b ub p vals2 wy := ⟨h.nob, (k.block _ (heap_lt h.box)).trans h.box⟩
theorem GBase.newbox (h : GBase most w gs gv vals vals2 s6 s7 wr) {wx : World} (hn : wx.heap[wr.heap.size]? = some (.cells (bunC b ub).toArray 31 (0, 0))) : GBox b ub wr.heap.size vals2 wx :=
  ⟨fun i x hx e => by have := (h.grp.lt hx e).2; omega, hn⟩
theorem gmid_old {l : List Bun} {R : GSt} {k q : Nat} (hx : l[k]? = some b) (hpk : groupL most (l.drop k) k (gs, gv.map buns) = R) (hgk : gv.length ≤ k) (hg1 : ∀ g ∈ gs, g.length ≤ k) (hg2 : ∀ g ∈ gv, g.length ≤ k) (hq : q < gv.length) (h1 : ∀ x ∈ gv.take q, fitB most b (buns x) = false) (h2 : ∀ x, gv[q]? = some x → fitB most b (buns x) = true)
    (hb : GBase most w gs gv vals vals2 s6 s7 wr) (hn : GBox b ub p vals2 wr) : GMid l most w R k b ub p s6 s7 (.int .i64 q) wr := by
  have hK : grK most b (gv.map buns) = q := grK_some (by simpa using hq) (fun x hx => by
    rw [← List.map_take] at hx
    obtain ⟨y, hy, rfl⟩ := List.mem_map.1 hx
    exact h1 y hy) (fun x hx => by
    rw [List.getElem?_map] at hx
    obtain ⟨y, hy, rfl⟩ := Option.map_eq_some_iff.1 hx
    exact h2 y hy)
  refine ⟨q, gs, gv, vals, vals2, rfl, hq, ?_, by omega, hg1, hg2, hb, hn⟩
  rw [groupL_at hx, show grStep most k b (gs, gv.map buns) = grPut q k b (gs, gv.map buns) by unfold grStep grGrow; simp only [hK]; rw [if_pos (by simpa using hq)]] at hpk
  exact hpk
theorem gmid_new {l : List Bun} {R : GSt} {k : Nat} {v5 v8 : Value} {w5 w6 : World} {o1 o2 : Obj} (hx : l[k]? = some b) (hpk : groupL most (l.drop k) k (gs, gv.map buns) = R) (hgk : gv.length ≤ k) (hg1 : ∀ g ∈ gs, g.length ≤ k) (hg2 : ∀ g ∈ gv, g.length ≤ k) (h1 : ∀ x ∈ gv, fitB most b (buns x) = false)
    (hb : GBase most w gs gv vals vals2 s6 s7 wr) (hn : GBox b ub p vals2 wr) (hpw : w.heap.size < p)
    (ho5 : w5.ownsRow (w.heap.size + 1) 43 1 v5 (gs.length + 1) (vals ++ [.slice none 0 0])) (hg5 : (wr.alloc o1).grownBy w5 s6.ownBlock)
    (ho6 : w6.ownsRow (w.heap.size + 1) 22 1 v8 (gv.length + 1) (vals2 ++ [.slice none 0 0])) (hg6 : (w5.alloc o2).grownBy w6 s7.ownBlock) :
    GMid l most w R k b ub p v5 v8 (.int .i64 (gv.length : Nat)) w6 := by
  have hK : grK most b (gv.map buns) = gv.length := by
    rw [grK_none (fun x hx => by obtain ⟨y, hy, rfl⟩ := List.mem_map.1 hx; exact h1 y hy)]
    simp
  have ha1 : Below wr.heap.size wr (wr.alloc o1) := balloc0 (Below.refl _ _)
  have hb1 := hb.step ha1
  have hn1 := hn.step ha1
  have hO5 : OwnVI w5 (w.heap.size + 1) v5 (gs ++ [[]]) (vals ++ [.slice none 0 0]) := hb1.out.push (by decide) ho5 hg5 rfl
  have hG5 : OwnVB w5 (w.heap.size + 1) s7 gv vals2 := hb1.grp.keep (fun q hq => grown_keep hg5 (hb1.grp.1.lt q hq).2 (own_typ hb1.grp.1 hb1.out.1 (by decide) hq)) (fun j x q hx hq => by
    obtain ⟨g, _, hi⟩ := hb1.grp.inner hx
    exact grown_keep hg5 (hi.lt q hq).2 (own_typ hi hb1.out.1 (by decide) hq))
  have hp6 : s6.ownBlock ≠ some p := fun e => by
    obtain ⟨c1, e1⟩ := own_at hb1.out.1 e
    rw [hn1.box] at e1; injection e1 with e1; injection e1 with _ e1 _; revert e1; decide
  have hP5 : w5.heap[p]? = some (.cells (bunC b ub).toArray 31 (0, 0)) := (grown_keep hg5 (heap_lt hn1.box) hp6).trans hn1.box
  have hA5 : w5.heap[w.heap.size]? = some (.cells #[.int .i64 most] 3 (0, 0)) := (grown_keep hg5 (heap_lt hb1.box) (fun e => by have := (hb1.out.1.lt _ e).1; omega)).trans hb1.box
  have hB5 : Below w.heap.size w w5 := hb1.below.grown hg5 hb1.below.size fun q hq => by have := (hb1.out.1.lt q hq).1; omega
  have ha2 : Below w5.heap.size w5 (w5.alloc o2) := balloc0 (Below.refl _ _)
  have hO7 := hO5.below ha2
  have hG7 := hG5.below ha2
  have hG6 : OwnVB w6 (w.heap.size + 1) v8 (gv ++ [[]]) (vals2 ++ [.slice none 0 0]) := hG7.push (by decide) ho6 hg6 rfl
  have hO6 : OwnVI w6 (w.heap.size + 1) v5 (gs ++ [[]]) (vals ++ [.slice none 0 0]) := hO7.keep (fun q hq => grown_keep hg6 (hO7.1.lt q hq).2 (own_typ hO7.1 hG7.1 (by decide) hq)) (fun j x q hx hq => by
    obtain ⟨g, _, hi⟩ := hO7.inner hx
    exact grown_keep hg6 (hi.lt q hq).2 (own_typ hi hG7.1 (by decide) hq))
  have hA6 : w6.heap[w.heap.size]? = some (.cells #[.int .i64 most] 3 (0, 0)) := (grown_keep hg6 (by have := heap_lt hA5; simp; omega) (fun e => by have := (hG7.1.lt _ e).1; omega)).trans ((ha2.block _ (heap_lt hA5)).trans hA5)
  have hp7 : s7.ownBlock ≠ some p := fun e => by
    obtain ⟨c1, e1⟩ := own_at hG5.1 e
    rw [hP5] at e1; injection e1 with e1; injection e1 with _ e1 _; revert e1; decide
  have hP6 : w6.heap[p]? = some (.cells (bunC b ub).toArray 31 (0, 0)) := (grown_keep hg6 (by have := heap_lt hP5; simp; omega) hp7).trans ((ha2.block _ (heap_lt hP5)).trans hP5)
  have hB6 : Below w.heap.size w w6 := (btrans0 hB5 ha2).grown hg6 (btrans0 hB5 ha2).size fun q hq => by have := (hG7.1.lt q hq).1; omega
  refine ⟨gv.length, gs ++ [[]], gv ++ [[]], vals ++ [.slice none 0 0], vals2 ++ [.slice none 0 0], rfl, by simp, ?_, by simp; omega, fun g hg => ?_, fun g hg => ?_, ⟨by simp [hb.len], hO6, hG6, fun g hg r hr => ?_, hA6, hB6⟩, ⟨fun i x hx e => ?_, hP6⟩⟩
  · rw [groupL_at hx, show grStep most k b (gs, gv.map buns) = grPut gv.length k b (gs ++ [[]], gv.map buns ++ [[]]) by unfold grStep grGrow; simp only [hK]; rw [if_neg (by simp)]] at hpk
    simpa [buns] using hpk
  · rcases List.mem_append.1 hg with hg | hg
    · exact hg1 g hg
    · simp at hg; subst hg; simp
  · rcases List.mem_append.1 hg with hg | hg
    · exact hg2 g hg
    · simp at hg; subst hg; simp
  · rcases List.mem_append.1 hg with hg | hg
    · exact hb.okk g hg r hr
    · simp at hg; subst hg; simp at hr
  · rcases Nat.lt_or_ge i vals2.length with z | z
    · rw [List.getElem?_append_left z] at hx; exact hn.nob i x hx e
    · rw [List.getElem?_append_right z] at hx
      rcases Nat.eq_zero_or_pos (i - vals2.length) with z3 | z3
      · rw [z3] at hx; simp at hx; subst hx; cases e
      · rw [List.getElem?_eq_none (by simp; omega)] at hx; cases hx
/-- the end of a round, whatever the order of the two appends -/
theorem gmid_end {l : List Bun} {R : GSt} {k q go gq c6 c7 : Nat} {g : List Int} {h : List BV} {x x' y y' : Value} {w8 : World} (hk : k < l.length) (hpk : groupL most (l.drop (k + 1)) (k + 1) (grPut q k b (gs, gv.map buns)) = R) (hgk : gv.length ≤ k + 1) (hg1 : ∀ g ∈ gs, g.length ≤ k) (hg2 : ∀ g ∈ gv, g.length ≤ k) (hq : q < gv.length)
    (hb : GBase most w gs gv vals vals2 (.slice (some ⟨go, 0, none⟩) gs.length c6) (.slice (some ⟨gq, 0, none⟩) gv.length c7) wr) (hx : vals[q]? = some x) (hy : vals2[q]? = some y) (hg : gs[q]? = some g) (hh : gv[q]? = some h) (hub : RBlks w w.heap.size ub b.blocks) (hf : Fits b)
    (ho : w8.ownsRow (w.heap.size + 1) 3 1 x' (g.length + 1) (ints g ++ [.int .i64 k])) (hp : w8.ownsRow (w.heap.size + 1) 31 12 y' (h.length + 1) (flatU h ++ bunC b ub))
    (hkp : ∀ z, z < wr.heap.size → x.ownBlock ≠ some z → y.ownBlock ≠ some z → w8.heap[z]? = wr.heap[z]?) (hfx : ∀ z, x'.ownBlock = some z → x.ownBlock = some z ∨ wr.heap.size ≤ z) (hfy : ∀ z, y'.ownBlock = some z → y.ownBlock = some z ∨ wr.heap.size ≤ z) (hB8 : Below w.heap.size w w8) :
    GLoop l most w R (.slice (some ⟨go, 0, none⟩) gs.length c6) (.slice (some ⟨gq, 0, none⟩) gv.length c7) (.int .i64 ((k : Int) + 1)) ((w8.setCell ⟨go, q, none⟩ x').setCell ⟨gq, q, none⟩ y') := by
  obtain ⟨g', hg', hxo⟩ := hb.out.inner hx
  rw [hg] at hg'; cases hg'
  obtain ⟨h', hh', hyo⟩ := hb.grp.inner hy
  rw [hh] at hh'; cases hh'
  have hgo : w.heap.size + 1 ≤ go ∧ go < wr.heap.size := hb.out.1.lt go rfl
  have hgq : w.heap.size + 1 ≤ gq ∧ gq < wr.heap.size := hb.grp.1.lt gq rfl
  have hgg : gq ≠ go := fun e => own_typ hb.out.1 hb.grp.1 (by decide) (q := go) rfl (by rw [e]; rfl)
  have kgo : w8.heap[go]? = wr.heap[go]? := hkp go hgo.2 (fun e => own_typ hxo hb.out.1 (by decide) e rfl) (fun e => own_typ hyo hb.out.1 (by decide) e rfl)
  have kgq : w8.heap[gq]? = wr.heap[gq]? := hkp gq hgq.2 (fun e => own_typ hxo hb.grp.1 (by decide) e rfl) (fun e => own_typ hyo hb.grp.1 (by decide) e rfl)
  have hO := hb.out.put2 (by decide) hx hg (y := (k : Int)) (by simpa [ints] using ho) kgo (fun j u z hu hz hne => by
    obtain ⟨gu, _, hu'⟩ := hb.out.inner hu
    exact hkp z (hu'.lt z hz).2 hne (fun e => own_typ hyo hu' (by decide) e hz)) hfx
  have hset6 : ∀ (q' : Nat), go ≠ q' → (w8.setCell ⟨go, q, none⟩ x').heap[q']? = w8.heap[q']? := fun q' h => heap_setCell_other w8 ⟨go, q, none⟩ q' x' (fun e => h e.symm)
  have hset7 : ∀ (W : World) (q' : Nat), gq ≠ q' → (W.setCell ⟨gq, q, none⟩ y').heap[q']? = W.heap[q']? := fun W q' h => heap_setCell_other W ⟨gq, q, none⟩ q' y' (fun e => h e.symm)
  have hgo8 : ∃ c, w8.heap[go]? = some (.cells c 43 (0, 0)) := by rw [kgo]; exact own_at hb.out.1 rfl
  have hp' : (w8.setCell ⟨go, q, none⟩ x').ownsRow (w.heap.size + 1) 31 12 y' (h.length + 1) (flatU (h ++ [(b, ub)])) := by
    refine own_kept1 (by simpa [flatU] using hp) (fun z hz => hset6 z (fun e => ?_))
    subst e
    obtain ⟨c1, e1⟩ := own_at hp hz
    obtain ⟨c2, e2⟩ := hgo8
    rw [e1] at e2; injection e2 with e2; injection e2 with _ e2 _; revert e2; decide
  have hG := hb.grp.put2 (w' := w8.setCell ⟨go, q, none⟩ x') (by decide) hy hh (y := (b, ub)) hp' ((hset6 gq (fun e => hgg e.symm)).trans kgq) (fun j u z hu hz hne => by
    obtain ⟨gu, _, hu'⟩ := hb.grp.inner hu
    rw [hset6 z (fun e => by subst e; exact own_typ hu' hb.out.1 (by decide) hz rfl)]
    exact hkp z (hu'.lt z hz).2 (fun e => own_typ hxo hu' (by decide) e hz) hne) hfy
  have hl := hb.out.len
  refine ⟨k + 1, gs.set q (g ++ [(k : Int)]), gv.set q (h ++ [(b, ub)]), vals.set q x', vals2.set q y', hk, (by simp), ?_, by simp; exact hgk, fun y hy => ?_, fun y hy => ?_, ⟨by simp [hb.len], ?_, by simpa using hG, fun y hy r hr => ?_, ?_, ?_⟩⟩
  · have e1 : gs.getD q [] = g := by rw [List.getD_eq_getElem?_getD, hg]; rfl
    have e2 : (gv.map buns).getD q [] = buns h := by rw [List.getD_eq_getElem?_getD, List.getElem?_map, hh]; rfl
    unfold grPut at hpk
    simp only [e1, e2] at hpk
    rw [List.map_set, show buns (h ++ [(b, ub)]) = buns h ++ [b] from by simp [buns]]
    exact hpk
  · rcases List.mem_or_eq_of_mem_set hy with hy | rfl
    · have := hg1 y hy; omega
    · have := hg1 g (List.mem_of_getElem? hg); simp; omega
  · rcases List.mem_or_eq_of_mem_set hy with hy | rfl
    · have := hg2 y hy; omega
    · have := hg2 h (List.mem_of_getElem? hh); simp; omega
  · have hty : ∀ (z : Nat) (e : TypeId) (c : Array Value), (w8.setCell ⟨go, q, none⟩ x').heap[z]? = some (.cells c e (0, 0)) → e ≠ 22 → gq ≠ z := fun z e c hz he hgz => by
      subst hgz
      rw [hset6 gq (fun e => hgg e.symm), kgq] at hz
      obtain ⟨c2, e2⟩ := own_at hb.grp.1 (g := gq) rfl
      rw [hz] at e2; injection e2 with e2; injection e2 with _ e2 _; exact he e2
    have := hO.keep (w' := (w8.setCell ⟨go, q, none⟩ x').setCell ⟨gq, q, none⟩ y') (fun z hz => by
      obtain ⟨c, hc⟩ := own_at hO.1 hz
      exact hset7 _ _ (hty z _ c hc (by decide))) (fun j u z hu hz => by
      obtain ⟨gu, _, hu'⟩ := hO.inner hu
      obtain ⟨c, hc⟩ := own_at hu' hz
      exact hset7 _ _ (hty z _ c hc (by decide)))
    simpa using this
  · rcases List.mem_or_eq_of_mem_set hy with hy | rfl
    · exact hb.okk y hy r hr
    · rcases List.mem_append.1 hr with hr | hr
      · exact hb.okk h (List.mem_of_getElem? hh) r hr
      · simp at hr; subst hr; exact ⟨hub, hf⟩
  · rw [hset7 _ _ (by omega), hset6 _ (by omega), hkp _ (heap_lt hb.box) (fun e => by have := (hxo.lt _ e).1; omega) (fun e => by have := (hyo.lt _ e).1; omega)]
    exact hb.box
  · exact (hB8.setCell (p := ⟨go, q, none⟩) (show w.heap.size ≤ go by omega) _).setCell (p := ⟨gq, q, none⟩) (show w.heap.size ≤ gq by omega) _
end
end Go.Proofs.YtpkklmkeflddkaaGreat
