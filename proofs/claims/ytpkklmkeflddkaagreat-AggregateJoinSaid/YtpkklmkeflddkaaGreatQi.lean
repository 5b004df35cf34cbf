/- Chapter 19: Pack's relations and how its two ways keep them. -/
import Derived.Test.YtpkklmkeflddkaaGreatQh
set_option linter.unusedVariables false
set_option linter.unusedSimpArgs false
namespace Go.Proofs.YtpkklmkeflddkaaGreat
open Go Go.RowKit
abbrev OwnVI (w : World) (B : Nat) (vo : Value) (gs : List (List Int)) (vals : List Value) : Prop := OwnV 3 43 1 ints w B vo gs vals
def OwnG (w : World) (B : Nat) (v : Value) (gs : List (List Int)) : Prop := ∃ vals, OwnVI w B v gs vals
def PackPost (l : List Int) (most : Int) (w : World) (e : Ending) (w' : World) : Prop := ∃ r, e = .returned (.tuple #[r, .int .i64 (packS l most).2]) ∧ Below w.heap.size w w' ∧ OwnG w' w.heap.size r (packS l most).1
theorem own_le {w : World} {base base' n size : Nat} {e : TypeId} {v : Value} {xs : List Value} (h : w.ownsRow base e size v n xs) (hb : base' ≤ base) : w.ownsRow base' e size v n xs := by
  refine ⟨h.1, ?_⟩
  rcases h.2 with h0 | ⟨g, cap, cur, hv, hg, r⟩
  · exact .inl h0
  · exact .inr ⟨g, cap, cur, hv, by omega, r⟩
theorem OwnV.le {α : Type} {e f : TypeId} {size : Nat} {enc : List α → List Value} {w : World} {B B' : Nat} {vo : Value} {gs : List (List α)} {vals : List Value} (h : OwnV e f size enc w B vo gs vals) (hb : B' ≤ B) : OwnV e f size enc w B' vo gs vals :=
  ⟨own_le h.1 hb, fun k x g h1 h2 => own_le (h.2.1 k x g h1 h2) hb, h.2.2⟩
structure PBase (most : Int) (w : World) (gs : List (List Int)) (ss : List Int) (vals : List Value) (s6 s7 : Value) (wr : World) : Prop where
  len : gs.length = ss.length
  sums : ∀ s ∈ ss, 0 ≤ s ∧ s ≤ most
  out : OwnVI wr (w.heap.size + 1) s6 gs vals
  row : wr.ownsRow (w.heap.size + 1) 3 1 s7 ss.length (ints ss)
  apart : Sps vals s7
  box : wr.heap[w.heap.size]? = some (.cells #[.int .i64 most] 3 (0, 0))
  below : Below w.heap.size w wr
def PLoop (l : List Int) (most : Int) (w : World) (R : PSt) (s6 s7 s29 : Value) (wr : World) : Prop := ∃ (k : Nat) (gs : List (List Int)) (ss : List Int) (vals : List Value), k ≤ l.length ∧ s29 = .int .i64 k ∧ packL most (l.drop k) k (gs, ss) = R ∧ ss.length ≤ k ∧ (∀ g ∈ gs, g.length ≤ k) ∧ PBase most w gs ss vals s6 s7 wr
structure PNum (n : Int) (p : Nat) (vals : List Value) (s7 : Value) (wx : World) : Prop where
  nob : NoB vals p
  row : s7.ownBlock ≠ some p
  num : wx.heap[p]? = some (.cells #[.int .i64 n] 3 (0, 0))
def PMid (l : List Int) (most : Int) (w : World) (R : PSt) (k : Nat) (n : Int) (p : Nat) (s6 s7 s10 : Value) (wx : World) : Prop := ∃ (q : Nat) (gs : List (List Int)) (ss : List Int) (vals : List Value), s10 = .int .i64 q ∧ q < ss.length ∧ packL most (l.drop (k + 1)) (k + 1) (pkPut q k n (gs, ss)) = R ∧ ss.length ≤ k + 1 ∧ (∀ g ∈ gs, g.length ≤ k) ∧
  (∀ s, ss[q]? = some s → s + n ≤ most) ∧ PBase most w gs ss vals s6 s7 wx ∧ PNum n p vals s7 wx
section
variable {most : Int} {w : World} {gs : List (List Int)} {ss : List Int} {vals : List Value} {s6 s7 : Value} {wr : World}
theorem PBase.step {wx : World} (h : PBase most w gs ss vals s6 s7 wr) (k : Below wr.heap.size wr wx) : PBase most w gs ss vals s6 s7 wx := by
  have zA : w.heap.size < wr.heap.size := by
    rcases Nat.lt_or_ge w.heap.size wr.heap.size with z | z
    · exact z
    · have := h.box; rw [Array.getElem?_eq_none z] at this; cases this
  exact ⟨h.len, h.sums, h.out.below k, own_kept1 h.row (fun q hq => k.block q (h.row.lt q hq).2), h.apart, (k.block _ zA).trans h.box, btrans0 h.below k⟩
theorem PBase.num {n : Int} (h : PBase most w gs ss vals s6 s7 wr) {wx : World} (hn : wx.heap[wr.heap.size]? = some (.cells #[.int .i64 n] 3 (0, 0))) : PNum n wr.heap.size vals s7 wx :=
  ⟨fun i x hx e => by have := (h.out.lt hx e).2; omega, fun e => by have := (h.row.lt _ e).2; omega, hn⟩
theorem PNum.step {n : Int} {p : Nat} {wx wy : World} (h : PNum n p vals s7 wx) (k : Below wx.heap.size wx wy) : PNum n p vals s7 wy := by
  have z : p < wx.heap.size := by
    rcases Nat.lt_or_ge p wx.heap.size with z | z
    · exact z
    · have := h.num; rw [Array.getElem?_eq_none z] at this; cases this
  exact ⟨h.nob, h.row, (k.block _ z).trans h.num⟩
theorem mid_old {l : List Int} {R : PSt} {k q p : Nat} {n : Int} (hx : l[k]? = some n) (hpk : packL most (l.drop k) k (gs, ss) = R) (hgk : ss.length ≤ k) (hgl : ∀ g ∈ gs, g.length ≤ k) (hq : q < ss.length) (h1 : ∀ x ∈ ss.take q, decide (x ≤ most - n) = false) (h2 : ∀ x, ss[q]? = some x → decide (x ≤ most - n) = true)
    (hb : PBase most w gs ss vals s6 s7 wr) (hn : PNum n p vals s7 wr) : PMid l most w R k n p s6 s7 (.int .i64 q) wr := by
  have hK := pkK_some hq h1 h2
  refine ⟨q, gs, ss, vals, rfl, hq, ?_, by omega, hgl, fun s hs => ?_, hb, hn⟩
  · rw [packL_at hx, show pkStep most k n (gs, ss) = pkPut q k n (gs, ss) by unfold pkStep pkGrow; simp only [hK]; rw [if_pos hq]] at hpk
    exact hpk
  · have := h2 s hs; simp at this; omega
theorem mid_new {l : List Int} {R : PSt} {k p : Nat} {n : Int} {v5 v8 : Value} {w5 w6 : World} {o1 o2 : Obj} (hx : l[k]? = some n) (hpk : packL most (l.drop k) k (gs, ss) = R) (hgk : ss.length ≤ k) (hgl : ∀ g ∈ gs, g.length ≤ k) (hnm : 1 ≤ n ∧ n ≤ most) (h1 : ∀ x ∈ ss, decide (x ≤ most - n) = false)
    (hb : PBase most w gs ss vals s6 s7 wr) (hn : PNum n p vals s7 wr)
    (ho5 : w5.ownsRow (w.heap.size + 1) 43 1 v5 (gs.length + 1) (vals ++ [.slice none 0 0])) (hg5 : (wr.alloc o1).grownBy w5 s6.ownBlock) (hf5 : v5.ownBlock = s6.ownBlock ∨ v5.ownBlock = some (wr.alloc o1).heap.size)
    (ho6 : w6.ownsRow (w.heap.size + 1) 3 1 v8 (ss.length + 1) (ints ss ++ [.int .i64 0])) (hg6 : (w5.alloc o2).grownBy w6 s7.ownBlock) (hf6 : v8.ownBlock = s7.ownBlock ∨ v8.ownBlock = some (w5.alloc o2).heap.size) :
    PMid l most w R k n p v5 v8 (.int .i64 (ss.length : Nat)) w6 := by
  have hK := pkK_none h1
  have hef : (3 : TypeId) ≠ 43 := by decide
  have ha1 : Below wr.heap.size wr (wr.alloc o1) := balloc0 (Below.refl _ _)
  have hb1 := hb.step ha1
  have hn1 := hn.step ha1
  have zA : w.heap.size < wr.heap.size := by
    rcases Nat.lt_or_ge w.heap.size wr.heap.size with z | z
    · exact z
    · have := hb.box; rw [Array.getElem?_eq_none z] at this; cases this
  have zP : p < wr.heap.size := by
    rcases Nat.lt_or_ge p wr.heap.size with z | z
    · exact z
    · have := hn.num; rw [Array.getElem?_eq_none z] at this; cases this
  have z1 : (wr.alloc o1).heap.size = wr.heap.size + 1 := by simp
  have z2 : (w5.alloc o2).heap.size = w5.heap.size + 1 := by simp
  have z5 := hg5.size
  have z6 := hg6.size
  -- w5
  have hO5 : OwnVI w5 (w.heap.size + 1) v5 (gs ++ [[]]) (vals ++ [.slice none 0 0]) := hb1.out.push hef ho5 hg5 rfl
  have hty : ∀ {W : World} {va vb : Value} {na nb : Nat} {xa xb : List Value} {q : Nat}, W.ownsRow (w.heap.size + 1) 3 1 va na xa → W.ownsRow (w.heap.size + 1) 43 1 vb nb xb → va.ownBlock = some q → vb.ownBlock ≠ some q := fun ha hb' h1 h2 => by
    obtain ⟨c1, e1⟩ := own_at ha h1
    obtain ⟨c2, e2⟩ := own_at hb' h2
    rw [e1] at e2; injection e2 with e2; injection e2 with _ e2 _; exact hef e2
  have hS5 : w5.ownsRow (w.heap.size + 1) 3 1 s7 ss.length (ints ss) := own_kept1 hb1.row fun q hq => grown_keep hg5 (hb1.row.lt q hq).2 (hty hb1.row hb1.out.1 hq)
  have hp6 : s6.ownBlock ≠ some p := fun e => by
    obtain ⟨c1, e1⟩ := own_at hb1.out.1 e
    rw [hn1.num] at e1; injection e1 with e1; injection e1 with _ e1 _; exact hef e1
  have hP5 : w5.heap[p]? = some (.cells #[.int .i64 n] 3 (0, 0)) := (grown_keep hg5 (by omega) hp6).trans hn1.num
  have hA5 : w5.heap[w.heap.size]? = some (.cells #[.int .i64 most] 3 (0, 0)) := (grown_keep hg5 (by omega) (fun e => by have := (hb1.out.1.lt _ e).1; omega)).trans hb1.box
  have hB5 : Below w.heap.size w w5 := hb1.below.grown hg5 (by omega) fun q hq => by have := (hb1.out.1.lt q hq).1; omega
  -- w5.alloc o2
  have ha2 : Below w5.heap.size w5 (w5.alloc o2) := balloc0 (Below.refl _ _)
  have hO7 := hO5.below ha2
  have hS7 : (w5.alloc o2).ownsRow (w.heap.size + 1) 3 1 s7 ss.length (ints ss) := own_kept1 hS5 fun q hq => ha2.block q (hS5.lt q hq).2
  have happ : Sps (vals ++ [.slice none 0 0]) s7 := fun i x q hx hq => by
    rcases Nat.lt_or_ge i vals.length with z | z
    · rw [List.getElem?_append_left z] at hx; exact hb.apart i x q hx hq
    · rw [List.getElem?_append_right z] at hx
      rcases Nat.eq_zero_or_pos (i - vals.length) with z3 | z3
      · rw [z3] at hx; simp at hx; subst hx; cases hq
      · rw [List.getElem?_eq_none (by simp; omega)] at hx; cases hx
  have hO6 : OwnVI w6 (w.heap.size + 1) v5 (gs ++ [[]]) (vals ++ [.slice none 0 0]) := hO7.keep (fun q hq => grown_keep hg6 (hO7.1.lt q hq).2 (fun e => hty hS7 hO7.1 e hq)) (fun k x q hx hq => grown_keep hg6 (hO7.lt hx hq).2 (happ k x q hx hq))
  have hA6 : w6.heap[w.heap.size]? = some (.cells #[.int .i64 most] 3 (0, 0)) := (grown_keep hg6 (by omega) (fun e => by have := (hS7.lt _ e).1; omega)).trans ((ha2.block _ (by omega)).trans hA5)
  have hP6 : w6.heap[p]? = some (.cells #[.int .i64 n] 3 (0, 0)) := (grown_keep hg6 (by omega) hn.row).trans ((ha2.block _ (by omega)).trans hP5)
  have hB6 : Below w.heap.size w w6 := (btrans0 hB5 ha2).grown hg6 (by omega) fun q hq => by have := (hS7.lt q hq).1; omega
  refine ⟨ss.length, gs ++ [[]], ss ++ [0], vals ++ [.slice none 0 0], rfl, by simp, ?_, by simp; omega, fun g hg => ?_, fun s hs => ?_, ⟨by simp [hb.len], fun s hs => ?_, hO6, by simpa [ints] using ho6, fun i x q hx hq e => ?_, hA6, hB6⟩, ⟨fun i x hx e => ?_, fun e => ?_, hP6⟩⟩
  · rw [packL_at hx, show pkStep most k n (gs, ss) = pkPut ss.length k n (gs ++ [[]], ss ++ [0]) by unfold pkStep pkGrow; simp only [hK]; rw [if_neg (by omega)]] at hpk
    exact hpk
  · rcases List.mem_append.1 hg with hg | hg
    · exact hgl g hg
    · simp at hg; subst hg; simp
  · simp at hs; omega
  · rcases List.mem_append.1 hs with hs | hs
    · exact hb.sums s hs
    · simp at hs; omega
  · rcases hf6 with z | z
    · exact happ i x q hx hq (by rw [← z]; exact e)
    · rw [z] at e; cases e
      have := (hO7.lt hx hq).2
      omega
  · rcases Nat.lt_or_ge i vals.length with z | z
    · rw [List.getElem?_append_left z] at hx; exact hn.nob i x hx e
    · rw [List.getElem?_append_right z] at hx
      rcases Nat.eq_zero_or_pos (i - vals.length) with z3 | z3
      · rw [z3] at hx; simp at hx; subst hx; cases e
      · rw [List.getElem?_eq_none (by simp; omega)] at hx; cases hx
  · rcases hf6 with z | z
    · exact hn.row (by rw [← z]; exact e)
    · rw [z] at e; cases e; omega
theorem mid_row {w5 : World} {o1 o2 : Obj} (hb : PBase most w gs ss vals s6 s7 wr) (hg5 : (wr.alloc o1).grownBy w5 s6.ownBlock) : (w5.alloc o2).ownsRow (w.heap.size + 1) 3 1 s7 ss.length (ints ss) := by
  have hef : (3 : TypeId) ≠ 43 := by decide
  have ha1 : Below wr.heap.size wr (wr.alloc o1) := balloc0 (Below.refl _ _)
  have hb1 := hb.step ha1
  have hS5 : w5.ownsRow (w.heap.size + 1) 3 1 s7 ss.length (ints ss) := own_kept1 hb1.row fun q hq => grown_keep hg5 (hb1.row.lt q hq).2 (fun e => by
    obtain ⟨c1, e1⟩ := own_at hb1.row hq
    obtain ⟨c2, e2⟩ := own_at hb1.out.1 e
    rw [e1] at e2; injection e2 with e2; injection e2 with _ e2 _; exact hef e2)
  exact own_kept1 hS5 fun q hq => (balloc0 (Below.refl _ _) : Below w5.heap.size w5 (w5.alloc o2)).block q (hS5.lt q hq).2
theorem mid_facts {q go g7 c6 c7 p : Nat} {n s : Int} {x : Value} {w8 : World} {o1 : Obj} (hb : PBase most w gs ss vals (.slice (some ⟨go, 0, none⟩) gs.length c6) (.slice (some ⟨g7, 0, none⟩) ss.length c7) wr) (hn : PNum n p vals (.slice (some ⟨g7, 0, none⟩) ss.length c7) wr)
    (hs : ss[q]? = some s) (hx : vals[q]? = some x) (hg8 : (wr.alloc o1).grownBy w8 x.ownBlock) :
    (∀ V : World, V = wr ∨ V = wr.alloc o1 ∨ V = w8 → V.cell? ⟨go, q, none⟩ = some x ∧ V.frozen? ⟨go, q, none⟩ = false ∧ V.cell? ⟨g7, q, none⟩ = some (.int .i64 s) ∧ V.frozen? ⟨g7, q, none⟩ = false ∧ V.cell? ⟨p, 0, none⟩ = some (.int .i64 n)) ∧ go ≠ g7 ∧ go ≠ p := by
  have hef : (3 : TypeId) ≠ 43 := by decide
  have ha1 : Below wr.heap.size wr (wr.alloc o1) := balloc0 (Below.refl _ _)
  have hb1 := hb.step ha1
  have hn1 := hn.step ha1
  have h67 : go ≠ g7 := fun e => by
    obtain ⟨c1, e1⟩ := own_at hb1.out.1 (g := go) rfl
    obtain ⟨c2, e2⟩ := own_at hb1.row (g := g7) rfl
    rw [e, e2] at e1; injection e1 with e1; injection e1 with _ e1 _; exact hef e1
  have h6p : go ≠ p := fun e => by
    obtain ⟨c1, e1⟩ := own_at hb1.out.1 (g := go) rfl
    rw [e, hn1.num] at e1; injection e1 with e1; injection e1 with _ e1 _; exact hef e1
  have gen : ∀ V : World, V.ownsRow (w.heap.size + 1) 43 1 (.slice (some ⟨go, 0, none⟩) gs.length c6) gs.length vals → V.ownsRow (w.heap.size + 1) 3 1 (.slice (some ⟨g7, 0, none⟩) ss.length c7) ss.length (ints ss) → V.heap[p]? = some (.cells #[.int .i64 n] 3 (0, 0)) →
      V.cell? ⟨go, q, none⟩ = some x ∧ V.frozen? ⟨go, q, none⟩ = false ∧ V.cell? ⟨g7, q, none⟩ = some (.int .i64 s) ∧ V.frozen? ⟨g7, q, none⟩ = false ∧ V.cell? ⟨p, 0, none⟩ = some (.int .i64 n) := fun V h1 h2 h3 => by
    have a1 := h1.cells (g := go) rfl q _ hx
    have a2 := h2.cells (g := g7) rfl q (.int .i64 s) (by simp [ints, hs])
    rw [addN, Nat.zero_add] at a1 a2
    exact ⟨a1, h1.frozenAt q, a2, h2.frozenAt q, cellB h3 0⟩
  refine ⟨fun V hV => ?_, h67, h6p⟩
  rcases hV with rfl | rfl | rfl
  · exact gen _ hb.out.1 hb.row hn.num
  · exact gen _ hb1.out.1 hb1.row hn1.num
  · have zP : p < (wr.alloc o1).heap.size := by
      rcases Nat.lt_or_ge p (wr.alloc o1).heap.size with z | z
      · exact z
      · have := hn1.num; rw [Array.getElem?_eq_none z] at this; cases this
    refine gen _ (own_kept1 hb1.out.1 fun q' hq' => ?_) (own_kept1 hb1.row fun q' hq' => ?_) ((grown_keep hg8 zP (hn.nob q x hx)).trans hn1.num)
    · exact grown_keep hg8 (hb1.out.1.lt q' hq').2 fun e => hb1.out.other hef hx e hq'
    · exact grown_keep hg8 (hb1.row.lt q' hq').2 fun e => hb.apart q x q' hx e hq'
theorem mid_end {l : List Int} {R : PSt} {k q go g7 c6 c7 : Nat} {n s : Int} {g : List Int} {x x' : Value} {w8 : World} {o1 : Obj} (hk : k < l.length) (hpk : packL most (l.drop (k + 1)) (k + 1) (pkPut q k n (gs, ss)) = R) (hgk : ss.length ≤ k + 1) (hgl : ∀ g ∈ gs, g.length ≤ k) (hq : q < ss.length) (hn1 : 1 ≤ n)
    (hb : PBase most w gs ss vals (.slice (some ⟨go, 0, none⟩) gs.length c6) (.slice (some ⟨g7, 0, none⟩) ss.length c7) wr) (hs : ss[q]? = some s) (hsn : s + n ≤ most) (hx : vals[q]? = some x) (hg : gs[q]? = some g)
    (ho : w8.ownsRow (w.heap.size + 1) 3 1 x' (g.length + 1) (ints g ++ [.int .i64 k])) (hg8 : (wr.alloc o1).grownBy w8 x.ownBlock) (hf : x'.ownBlock = x.ownBlock ∨ x'.ownBlock = some (wr.alloc o1).heap.size) :
    PLoop l most w R (.slice (some ⟨go, 0, none⟩) gs.length c6) (.slice (some ⟨g7, 0, none⟩) ss.length c7) (.int .i64 ((k : Int) + 1)) ((w8.setCell ⟨go, q, none⟩ x').setCell ⟨g7, q, none⟩ (.int .i64 (s + n))) := by
  have hef : (3 : TypeId) ≠ 43 := by decide
  have ha1 : Below wr.heap.size wr (wr.alloc o1) := balloc0 (Below.refl _ _)
  have hb1 := hb.step ha1
  have zA : w.heap.size < wr.heap.size := by
    rcases Nat.lt_or_ge w.heap.size wr.heap.size with z | z
    · exact z
    · have := hb.box; rw [Array.getElem?_eq_none z] at this; cases this
  have z1 : (wr.alloc o1).heap.size = wr.heap.size + 1 := by simp
  have z8 := hg8.size
  have hO := hb1.out.put hef hx hg (y := (k : Int)) (by simpa [ints] using ho) hg8 hf (Nat.le_refl _)
  have hgo : w.heap.size + 1 ≤ go ∧ go < (wr.alloc o1).heap.size := hb1.out.1.lt go rfl
  have hg7 : w.heap.size + 1 ≤ g7 ∧ g7 < (wr.alloc o1).heap.size := hb1.row.lt g7 rfl
  have h67 : go ≠ g7 := fun e => by
    obtain ⟨c1, e1⟩ := own_at hb1.out.1 (g := go) rfl
    obtain ⟨c2, e2⟩ := own_at hb1.row (g := g7) rfl
    rw [e, e2] at e1; injection e1 with e1; injection e1 with _ e1 _; exact hef e1
  have hx7 : x.ownBlock ≠ some g7 := fun e => hb.apart q x g7 hx e rfl
  have hx7' : x'.ownBlock ≠ some g7 := fun e => by
    rcases hf with z | z
    · exact hx7 (by rw [← z]; exact e)
    · rw [z] at e; cases e; omega
  have hS8 : w8.ownsRow (w.heap.size + 1) 3 1 (.slice (some ⟨g7, 0, none⟩) ss.length c7) ss.length (ints ss) := own_kept1 hb1.row fun q' hq' => by cases hq'; exact grown_keep hg8 hg7.2 hx7
  have hS9 : (w8.setCell ⟨go, q, none⟩ x').ownsRow (w.heap.size + 1) 3 1 (.slice (some ⟨g7, 0, none⟩) ss.length c7) ss.length (ints ss) := own_kept1 hS8 fun q' hq' => by cases hq'; exact heap_setCell_other w8 ⟨go, q, none⟩ g7 x' (fun e => h67 e.symm)
  have hl := hb.out.len
  have hxo : ∀ q', x.ownBlock = some q' → w.heap.size + 1 ≤ q' := fun q' e => (hb.out.lt hx e).1
  have hset7 : ∀ (W : World) (q' : Nat) (u : Value), g7 ≠ q' → (W.setCell ⟨g7, q, none⟩ u).heap[q']? = W.heap[q']? := fun W q' u h => heap_setCell_other W ⟨g7, q, none⟩ q' u (fun e => h e.symm)
  have hset6 : ∀ (W : World) (q' : Nat) (u : Value), go ≠ q' → (W.setCell ⟨go, q, none⟩ u).heap[q']? = W.heap[q']? := fun W q' u h => heap_setCell_other W ⟨go, q, none⟩ q' u (fun e => h e.symm)
  have hB8 : Below w.heap.size w w8 := hb1.below.grown hg8 (by omega) fun q' hq' => by have := hxo q' hq'; omega
  refine ⟨k + 1, gs.set q (g ++ [(k : Int)]), ss.set q (s + n), vals.set q x', hk, (by simp), ?_, by simp; exact hgk, fun y hy => ?_, ⟨by simp [hb.len], fun t ht => ?_, ?_, ?_, fun i y q' hy hq' e => ?_, ?_, ?_⟩⟩
  · have e1 : gs.getD q [] = g := by rw [List.getD_eq_getElem?_getD, hg]; rfl
    have e2 : ss.getD q 0 = s := by rw [List.getD_eq_getElem?_getD, hs]; rfl
    unfold pkPut at hpk
    simp only [e1, e2] at hpk
    exact hpk
  · rcases List.mem_or_eq_of_mem_set hy with hy | rfl
    · have := hgl y hy; omega
    · have := hgl g (List.mem_of_getElem? hg); simp; omega
  · rcases List.mem_or_eq_of_mem_set ht with ht | rfl
    · exact hb.sums t ht
    · have := (hb.sums s (List.mem_of_getElem? hs)).1
      omega
  · have := hO.keep (w' := (w8.setCell ⟨go, q, none⟩ x').setCell ⟨g7, q, none⟩ (.int .i64 (s + n))) (fun q' hq' => by cases hq'; exact hset7 _ _ _ (fun e => h67 e.symm)) (fun j y q' hy hq' => hset7 _ _ _ (fun e => by
      subst e
      by_cases hj : q = j
      · subst hj
        rw [List.getElem?_set_self (by rw [hl, hb.len]; exact hq)] at hy
        cases hy; exact hx7' hq'
      · rw [List.getElem?_set_ne hj] at hy
        exact hb.apart j y g7 hy hq' rfl))
    simpa using this
  · have := (hS9.stored q (.int .i64 (s + n))).1
    simpa [ints, List.map_set] using this
  · cases e
    by_cases hj : q = i
    · subst hj
      rw [List.getElem?_set_self (by rw [hl, hb.len]; exact hq)] at hy
      cases hy; exact hx7' hq'
    · rw [List.getElem?_set_ne hj] at hy
      exact hb.apart i y g7 hy hq' rfl
  · rw [hset7 _ _ _ (by omega), hset6 _ _ _ (by omega), grown_keep hg8 (by omega) (fun e => by have := hxo _ e; omega)]
    exact hb1.box
  · exact (hB8.setCell (p := ⟨go, q, none⟩) (show w.heap.size ≤ go by omega) _).setCell (p := ⟨g7, q, none⟩) (show w.heap.size ≤ g7 by omega) _
end
end Go.Proofs.YtpkklmkeflddkaaGreat
