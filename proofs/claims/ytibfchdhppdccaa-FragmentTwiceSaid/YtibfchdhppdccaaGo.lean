/- A bundle argument, opened. -/
import Derived.Test.YtibfchdhppdccaaGb
import Derived.WideShapes
import Derived.ChangeSame
import Derived.Deep.Slices
import Derived.Deep.Fields
import Derived.Lib.SmallJoins
import Derived.ChangeMaps5
set_option linter.unusedVariables false
set_option linter.unusedSimpArgs false
namespace Go.Proofs.Ytibfchdhppdccaa
open Go Go.RowKit Go.ChangeShapes Go.WideShapes Go.Deep Go.Joins

theorem list3 {α : Type} {xs : List α} (h : xs.length = 3) : ∃ x0 x1 x2, xs = [x0, x1, x2] := by
  match xs, h with
  | [x0, x1, x2], _ => exact ⟨x0, x1, x2, rfl⟩
theorem list5 {α : Type} {xs : List α} (h : xs.length = 5) : ∃ x0 x1 x2 x3 x4, xs = [x0, x1, x2, x3, x4] := by
  match xs, h with
  | [x0, x1, x2, x3, x4], _ => exact ⟨x0, x1, x2, x3, x4, rfl⟩
theorem list2 {α : Type} {xs : List α} (h : xs.length = 2) : ∃ x0 x1, xs = [x0, x1] := by
  match xs, h with
  | [x0, x1], _ => exact ⟨x0, x1, rfl⟩
theorem list7 {α : Type} {xs : List α} (h : xs.length = 7) : ∃ x0 x1 x2 x3 x4 x5 x6, xs = [x0, x1, x2, x3, x4, x5, x6] := by
  match xs, h with
  | [x0, x1, x2, x3, x4, x5, x6], _ => exact ⟨x0, x1, x2, x3, x4, x5, x6, rfl⟩
theorem list12 {α : Type} {xs : List α} (h : xs.length = 12) : ∃ x0 x1 x2 x3 x4 x5 x6 x7 x8 x9 xa xb, xs = [x0, x1, x2, x3, x4, x5, x6, x7, x8, x9, xa, xb] := by
  match xs, h with
  | [x0, x1, x2, x3, x4, x5, x6, x7, x8, x9, xa, xb], _ => exact ⟨x0, x1, x2, x3, x4, x5, x6, x7, x8, x9, xa, xb, rfl⟩

section
variable {H : Type} {enc : TypeId × Value → H} {w : World} {base : Nat} {spare : Nat → Bool} {held : Bool}

theorem fld {fs : Array Field} {n i T o k : Nat} {cs : List Value} {xs : List (DataW H × List MemPlace)} (hf : ∀ (i : Nat) (f : Field), fs[i]? = some f → DataW.trod enc Try.prog w base spare held n f.type ((cs.drop f.offset).take (Try.prog.cellsOf f.type)) = xs[i]?)
    (hj : (fs[i]?.map fun f => (f.type, f.offset)) = some (T, o)) (hk : Try.prog.cellsOf T = k) : DataW.trod enc Try.prog w base spare held n T ((cs.drop o).take k) = xs[i]? := by
  obtain ⟨f, h1, h2⟩ := Option.map_eq_some_iff.1 hj
  simp only [Prod.mk.injEq] at h2
  obtain ⟨rfl, rfl⟩ := h2
  rw [← hk]
  exact hf i f h1

theorem open_id {n : Nat} {cs : List Value} {x : DataW H × List MemPlace} (h : DataW.trod enc Try.prog w base spare held n 23 cs = some x) : ∃ a b c d e : Int, cs = [.int .i64 a, .int .i64 b, .int .i64 c, .int .i64 d, .int .i64 e] := by
  obtain ⟨xs, m, rfl, _, hl, hxl, hf⟩ := DataW.trod_struct Try.underlying23 h
  obtain ⟨c0, c1, c2, c3, c4, rfl⟩ := list5 (hl.trans (by kernel_rfl))
  obtain ⟨x0, x1, x2, x3, x4, rfl⟩ := list5 hxl
  have k : Try.prog.cellsOf 3 = 1 := by kernel_rfl
  obtain ⟨a0, e0, _⟩ := DataW.trod_int Try.underlying3 (fld (i := 0) hf rfl k)
  obtain ⟨a1, e1, _⟩ := DataW.trod_int Try.underlying3 (fld (i := 1) hf rfl k)
  obtain ⟨a2, e2, _⟩ := DataW.trod_int Try.underlying3 (fld (i := 2) hf rfl k)
  obtain ⟨a3, e3, _⟩ := DataW.trod_int Try.underlying3 (fld (i := 3) hf rfl k)
  obtain ⟨a4, e4, _⟩ := DataW.trod_int Try.underlying3 (fld (i := 4) hf rfl k)
  simp at e0 e1 e2 e3 e4
  subst e0 e1 e2 e3 e4
  exact ⟨_, _, _, _, _, rfl⟩
theorem open_end {n : Nat} {cs : List Value} {x : DataW H × List MemPlace} (h : DataW.trod enc Try.prog w base spare held n 25 cs = some x) : ∃ a b : Int, cs = [.int .i64 a, .int .i64 b] := by
  obtain ⟨xs, m, rfl, _, hl, hxl, hf⟩ := DataW.trod_struct Try.underlying25 h
  obtain ⟨c0, c1, rfl⟩ := list2 (hl.trans (by kernel_rfl))
  obtain ⟨x0, x1, rfl⟩ := list2 hxl
  have k : Try.prog.cellsOf 3 = 1 := by kernel_rfl
  obtain ⟨a0, e0, _⟩ := DataW.trod_int (k := .i64) (by kernel_rfl) (fld (k := 1) (i := 0) hf rfl (by kernel_rfl))
  obtain ⟨a1, e1, _⟩ := DataW.trod_int Try.underlying3 (fld (i := 1) hf rfl k)
  simp at e0 e1
  subst e0 e1
  exact ⟨_, _, rfl⟩
theorem open_blk {n : Nat} {cs : List Value} {x : DataW H × List MemPlace} (h : DataW.trod enc Try.prog w base spare held n 40 cs = some x) : ∃ b : Blk, cs = blkC b ∧ b.data.length ≤ maxLen := by
  obtain ⟨xs, m, rfl, _, hl, hxl, hf⟩ := DataW.trod_struct Try.underlying40 h
  obtain ⟨c0, c1, c2, rfl⟩ := list3 (hl.trans (by kernel_rfl))
  obtain ⟨x0, x1, x2, rfl⟩ := list3 hxl
  obtain ⟨a0, e0, _⟩ := DataW.trod_int (k := .i64) (by kernel_rfl) (fld (k := 1) (i := 0) hf rfl (by kernel_rfl))
  obtain ⟨a1, e1, _⟩ := DataW.trod_int (k := .i64) (by kernel_rfl) (fld (k := 1) (i := 1) hf rfl (by kernel_rfl))
  obtain ⟨s, e2, _, hs⟩ := DataW.trod_string (by kernel_rfl) (fld (k := 1) (i := 2) hf rfl (by kernel_rfl))
  simp at e0 e1 e2
  subst e0 e1 e2
  refine ⟨⟨a0, a1, s.data.toList⟩, rfl, ?_⟩
  simpa using hs

theorem choose_lt' {α : Type} {p : Nat → α → Prop} : ∀ {n : Nat}, (∀ i, i < n → ∃ v, p i v) → ∃ l : List α, l.length = n ∧ ∀ i x, l[i]? = some x → p i x
  | 0, _ => ⟨[], rfl, fun i x h => by simp at h⟩
  | n + 1, h => by
    obtain ⟨l, hl, hp⟩ := choose_lt' (n := n) fun i hi => h i (by omega)
    obtain ⟨v, hv⟩ := h n (by omega)
    refine ⟨l ++ [v], by simp [hl], fun i x hx => ?_⟩
    by_cases hi : i < n
    · rw [List.getElem?_append_left (by omega)] at hx; exact hp i x hx
    · rw [List.getElem?_append_right (by omega)] at hx
      have : i - l.length = 0 := by
        have := (List.getElem?_eq_some_iff.1 hx).1
        simp at this; omega
      rw [this] at hx
      simp at hx
      subst hx
      have : i = n := by omega
      rw [this]; exact hv

theorem open_blks {n : Nat} {cs : List Value} {x : DataW H × List MemPlace} (h : DataW.trod enc Try.prog w base spare held n 26 cs = some x) : ∃ (u : Value) (l : List Blk), cs = [u] ∧ RBlks w w.heap.size u l ∧ ∀ b ∈ l, b.data.length ≤ maxLen := by
  rcases open_slice Try.underlying26 h with ⟨rfl, _⟩ | ⟨a, len, cap, m, n', D, Pl, rfl, hb, hl, hm, hmm, _, hi⟩
  · exact ⟨_, [], rfl, RBlks.nil _ _, fun b hb => by simp at hb⟩
  · have hc : Try.prog.cellsOf 40 = 3 := by kernel_rfl
    rw [hc] at hi
    obtain ⟨l, hll, hlp⟩ := choose_lt' (α := Blk) (n := len) (p := fun i b => (∀ k u, (blkC b)[k]? = some u → w.cell? (a.add (i * 3 + k)) = some u) ∧ b.data.length ≤ maxLen) fun i hil => by
      obtain ⟨cs', h1, h2⟩ := hi i (by rw [hmm]; split <;> omega)
      obtain ⟨b, rfl, hd⟩ := open_blk h2
      obtain ⟨_, _, h3⟩ := World.cells?_some h1
      refine ⟨b, fun k u hk => ?_, hd⟩
      rw [← Go.Deep.add_add, h3 k (by have := (List.getElem?_eq_some_iff.1 hk).1; rw [blkC_len] at this; exact this), hk]
    refine ⟨_, l, rfl, ⟨some a, cap, by rw [hll], by omega, hm, (fun h => by cases h), fun hp => ?_⟩, fun b hb => ?_⟩
    · obtain ⟨x, hx⟩ : ∃ x, l[0]? = some x := ⟨_, List.getElem?_eq_getElem hp⟩
      have h0 := (hlp 0 x hx).1 0 _ rfl
      obtain ⟨ab, ao, asp⟩ := a
      have hs : asp = none ∧ ab < w.heap.size := by
        unfold World.cell? at h0
        simp only [Nat.zero_mul, Addr.add, Nat.add_zero] at h0
        have hz : ab < w.heap.size := by
          apply Classical.byContradiction
          intro hn
          have : w.heap[ab]? = none := by simp; omega
          simp [this] at h0
        refine ⟨?_, hz⟩
        cases asp with
        | none => rfl
        | some s =>
          exfalso
          revert h0
          simp
          split <;> simp
      obtain ⟨rfl, hz⟩ := hs
      refine ⟨ab, ao, rfl, hz, fun i x hx => CBlk_iff.2 fun k u hk => ?_⟩
      have := (hlp i x hx).1 k u hk
      rw [addN] at this
      rw [Nat.add_assoc]
      exact this
    · obtain ⟨i, hi'⟩ := List.getElem?_of_mem hb
      exact (hlp i b hi').2

theorem open_bun {r : Reach} {b0 : Nat} {v : Value} {d : DataW H} {p : List MemPlace} (hv : Value.okWide Try.prog w r b0 28 v) (h : DataW.Trod enc Try.prog w base spare held 28 v d p) :
    ∃ (b : Bun) (u : Value), v = .agg (bunC b u).toArray ∧ RBlks w w.heap.size u b.blocks ∧ Fits b := by
  obtain ⟨cs, rfl, hsz⟩ := okWide_struct Try.underlying28 hv
  obtain ⟨fuel, hf⟩ := h
  obtain ⟨xs, m, rfl, _, hl, hxl, hf⟩ := DataW.trod_struct Try.underlying28 hf
  obtain ⟨cl⟩ := cs
  simp only [Value.cells] at hf hl
  obtain ⟨c0, c1, c2, c3, c4, c5, c6, c7, c8, c9, ca, cb, rfl⟩ := list12 (hl.trans (by kernel_rfl))
  obtain ⟨x0, x1, x2, x3, x4, x5, x6, rfl⟩ := list7 hxl
  have k : Try.prog.cellsOf 3 = 1 := by kernel_rfl
  obtain ⟨a0, a1, a2, a3, a4, e0⟩ := open_id (fld (k := 5) (i := 0) hf rfl (by kernel_rfl))
  obtain ⟨a5, a6, e1⟩ := open_end (fld (k := 2) (i := 1) hf rfl (by kernel_rfl))
  obtain ⟨a7, e2, _⟩ := DataW.trod_int (k := .i64) (by kernel_rfl) (fld (k := 1) (i := 2) hf rfl (by kernel_rfl))
  obtain ⟨a8, e3, _⟩ := DataW.trod_int (k := .i64) (by kernel_rfl) (fld (k := 1) (i := 3) hf rfl (by kernel_rfl))
  obtain ⟨a9, e4, _⟩ := DataW.trod_int (k := .i64) (by kernel_rfl) (fld (k := 1) (i := 4) hf rfl (by kernel_rfl))
  obtain ⟨u, l, e5, hr, hd⟩ := open_blks (fld (k := 1) (i := 5) hf rfl (by kernel_rfl))
  obtain ⟨s, e6, _, hs⟩ := DataW.trod_string (by kernel_rfl) (fld (k := 1) (i := 6) hf rfl (by kernel_rfl))
  simp at e0 e1 e2 e3 e4 e5 e6
  obtain ⟨rfl, rfl, rfl, rfl, rfl⟩ := e0
  obtain ⟨rfl, rfl⟩ := e1
  subst e2 e3 e4 e5 e6
  exact ⟨⟨a0, a1, a2, a3, a4, a5, a6, a7, a8, a9, l, s.data.toList⟩, _, rfl, hr, by simpa using hs, hd⟩
end
end Go.Proofs.Ytibfchdhppdccaa
