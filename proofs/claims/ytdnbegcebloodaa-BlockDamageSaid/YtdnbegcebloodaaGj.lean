/- Arguments of chapter 12, opened: a block, blocks, integers. -/
import Derived.Test.YtdnbegcebloodaaEd
import Derived.WideShapes
import Derived.ChangeSame
import Derived.Deep.Slices
import Derived.Deep.Fields
import Derived.Lib.SmallJoins
import Derived.ChangeMaps5
set_option linter.unusedVariables false
set_option linter.unusedSimpArgs false
namespace Go.Proofs.Ytdnbegcebloodaa
open Go Go.RowKit Go.ChangeShapes Go.WideShapes Go.Deep Go.Joins

theorem list3 {α : Type} {xs : List α} (h : xs.length = 3) : ∃ x0 x1 x2, xs = [x0, x1, x2] := by
  match xs, h with
  | [x0, x1, x2], _ => exact ⟨x0, x1, x2, rfl⟩
section
variable {H : Type} {enc : TypeId × Value → H} {w : World} {base : Nat} {spare : Nat → Bool} {held : Bool}

theorem fld {fs : Array Field} {n i T o k : Nat} {cs : List Value} {xs : List (DataW H × List MemPlace)} (hf : ∀ (i : Nat) (f : Field), fs[i]? = some f → DataW.trod enc Try.prog w base spare held n f.type ((cs.drop f.offset).take (Try.prog.cellsOf f.type)) = xs[i]?)
    (hj : (fs[i]?.map fun f => (f.type, f.offset)) = some (T, o)) (hk : Try.prog.cellsOf T = k) : DataW.trod enc Try.prog w base spare held n T ((cs.drop o).take k) = xs[i]? := by
  obtain ⟨f, h1, h2⟩ := Option.map_eq_some_iff.1 hj
  simp only [Prod.mk.injEq] at h2
  obtain ⟨rfl, rfl⟩ := h2
  rw [← hk]
  exact hf i f h1

theorem open_blk {n : Nat} {cs : List Value} {x : DataW H × List MemPlace} (h : DataW.trod enc Try.prog w base spare held n 29 cs = some x) : ∃ b : Blk, cs = blkC b ∧ b.data.length ≤ maxLen := by
  obtain ⟨xs, m, rfl, _, hl, hxl, hf⟩ := DataW.trod_struct Try.underlying29 h
  obtain ⟨c0, c1, c2, rfl⟩ := list3 (hl.trans (by kernel_rfl))
  obtain ⟨x0, x1, x2, rfl⟩ := list3 hxl
  obtain ⟨a0, e0, _⟩ := DataW.trod_int (k := .i64) (by kernel_rfl) (fld (k := 1) (i := 0) hf rfl (by kernel_rfl))
  obtain ⟨a1, e1, _⟩ := DataW.trod_int (k := .i64) (by kernel_rfl) (fld (k := 1) (i := 1) hf rfl (by kernel_rfl))
  obtain ⟨s, e2, _, hs⟩ := DataW.trod_string (by kernel_rfl) (fld (k := 1) (i := 2) hf rfl (by kernel_rfl))
  simp at e0 e1 e2
  subst e0 e1 e2
  refine ⟨⟨a0, a1, s.data.toList⟩, rfl, ?_⟩
  simpa using hs

theorem choose_lt' {α : Type} {p : Nat → α → Prop} : ∀ {n : Nat}, (∀ i, i < n → ∃ v, p i v) → ∃ l : List α, l.length = n ∧ ∀ i x, l[i]? = some x → p i x
  | 0, _ => ⟨[], rfl, fun i x h => by simp at h⟩
  | n + 1, h => by
    obtain ⟨l, hl, hp⟩ := choose_lt' (n := n) fun i hi => h i (by omega)
    obtain ⟨v, hv⟩ := h n (by omega)
    refine ⟨l ++ [v], by simp [hl], fun i x hx => ?_⟩
    by_cases hi : i < n
    · rw [List.getElem?_append_left (by omega)] at hx; exact hp i x hx
    · rw [List.getElem?_append_right (by omega)] at hx
      have : i - l.length = 0 := by
        have := (List.getElem?_eq_some_iff.1 hx).1
        simp at this; omega
      rw [this] at hx
      simp at hx
      subst hx
      have : i = n := by omega
      rw [this]; exact hv

theorem open_blks {n : Nat} {cs : List Value} {x : DataW H × List MemPlace} (h : DataW.trod enc Try.prog w base spare held n 22 cs = some x) : ∃ (u : Value) (l : List Blk), cs = [u] ∧ RBlks w w.heap.size u l ∧ ∀ b ∈ l, b.data.length ≤ maxLen := by
  rcases open_slice Try.underlying22 h with ⟨rfl, _⟩ | ⟨a, len, cap, m, n', D, Pl, rfl, hb, hl, hm, hmm, _, hi⟩
  · exact ⟨_, [], rfl, RBlks.nil _ _, fun b hb => by simp at hb⟩
  · have hc : Try.prog.cellsOf 29 = 3 := by kernel_rfl
    rw [hc] at hi
    obtain ⟨l, hll, hlp⟩ := choose_lt' (α := Blk) (n := len) (p := fun i b => (∀ k u, (blkC b)[k]? = some u → w.cell? (a.add (i * 3 + k)) = some u) ∧ b.data.length ≤ maxLen) fun i hil => by
      obtain ⟨cs', h1, h2⟩ := hi i (by rw [hmm]; split <;> omega)
      obtain ⟨b, rfl, hd⟩ := open_blk h2
      obtain ⟨_, _, h3⟩ := World.cells?_some h1
      refine ⟨b, fun k u hk => ?_, hd⟩
      rw [← Go.Deep.add_add, h3 k (by have := (List.getElem?_eq_some_iff.1 hk).1; rw [blkC_len] at this; exact this), hk]
    refine ⟨_, l, rfl, ⟨some a, cap, by rw [hll], by omega, hm, (fun h => by cases h), fun hp => ?_⟩, fun b hb => ?_⟩
    · obtain ⟨x, hx⟩ : ∃ x, l[0]? = some x := ⟨_, List.getElem?_eq_getElem hp⟩
      have h0 := (hlp 0 x hx).1 0 _ rfl
      obtain ⟨ab, ao, asp⟩ := a
      have hs : asp = none ∧ ab < w.heap.size := by
        unfold World.cell? at h0
        simp only [Nat.zero_mul, Addr.add, Nat.add_zero] at h0
        have hz : ab < w.heap.size := by
          apply Classical.byContradiction
          intro hn
          have : w.heap[ab]? = none := by simp; omega
          simp [this] at h0
        refine ⟨?_, hz⟩
        cases asp with
        | none => rfl
        | some s =>
          exfalso
          revert h0
          simp
          split <;> simp
      obtain ⟨rfl, hz⟩ := hs
      refine ⟨ab, ao, rfl, hz, fun i x hx => CBlk_iff.2 fun k u hk => ?_⟩
      have := (hlp i x hx).1 k u hk
      rw [addN] at this
      rw [Nat.add_assoc]
      exact this
    · obtain ⟨i, hi'⟩ := List.getElem?_of_mem hb
      exact (hlp i b hi').2

theorem open_blk_arg {r : Reach} {b0 : Nat} {v : Value} {d : DataW H} {p : List MemPlace} (hv : Value.okWide Try.prog w r b0 29 v) (h : DataW.Trod enc Try.prog w base spare held 29 v d p) :
    ∃ b : Blk, v = .agg #[.int .i64 b.kind, .int .i64 b.flags, .string (B b.data)] ∧ b.data.length ≤ maxLen := by
  obtain ⟨cs, rfl, _⟩ := okWide_struct Try.underlying29 hv
  obtain ⟨fuel, hf⟩ := h
  obtain ⟨b, e, hb⟩ := open_blk hf
  obtain ⟨cl⟩ := cs
  simp only [Value.cells] at e
  subst e
  exact ⟨b, rfl, hb⟩
theorem open_blks_arg {r : Reach} {b0 : Nat} {v : Value} {d : DataW H} {p : List MemPlace} (hv : Value.okWide Try.prog w r b0 22 v) (h : DataW.Trod enc Try.prog w base spare held 22 v d p) :
    ∃ l : List Blk, RBlks w w.heap.size v l ∧ ∀ b ∈ l, b.data.length ≤ maxLen := by
  obtain ⟨a, n, c, rfl⟩ := okWide_slice Try.underlying22 hv
  obtain ⟨fuel, hf⟩ := h
  obtain ⟨u, l, e, hr, hd⟩ := open_blks hf
  simp [Value.cells] at e
  subst e
  exact ⟨l, hr, hd⟩
theorem open_ints_arg {r : Reach} {b0 : Nat} {v : Value} {d : DataW H} {p : List MemPlace} (hv : Value.okWide Try.prog w r b0 23 v) (h : DataW.Trod enc Try.prog w base spare held 23 v d p) :
    ∃ l : List Int, RInts w w.heap.size v l := by
  obtain ⟨a', n', c', rfl⟩ := okWide_slice Try.underlying23 hv
  obtain ⟨fuel, hf⟩ := h
  rcases Go.Deep.open_slice Try.underlying23 hf with ⟨e, _⟩ | ⟨a, len, cap, m, n, D, Pl, e, hb, hl, hm, hmm, _, hi⟩
  · simp [Value.cells] at e
    obtain ⟨rfl, rfl, rfl⟩ := e
    exact ⟨[], none, 0, rfl, Nat.le_refl _, by simp, fun _ => rfl, fun h => by simp at h⟩
  · simp [Value.cells] at e
    obtain ⟨rfl, rfl, rfl⟩ := e
    have hc : Try.prog.cellsOf 3 = 1 := by kernel_rfl
    rw [hc] at hi
    obtain ⟨l, hll, hlp⟩ := choose_lt' (α := Int) (n := n') (p := fun i x => w.cell? (a.add i) = some (.int .i64 x)) fun i hil => by
      obtain ⟨cs', h1, h2⟩ := hi i (by rw [hmm]; split <;> omega)
      obtain ⟨x, rfl, _⟩ := DataW.trod_int Try.underlying3 h2
      obtain ⟨_, _, h3⟩ := World.cells?_some h1
      refine ⟨x, ?_⟩
      have := h3 0 (by omega)
      rw [Go.Deep.add_add, Nat.mul_one, Nat.add_zero] at this
      simpa using this
    refine ⟨l, some a, c', by rw [hll], by omega, hm, (fun h => by cases h), fun hp => ?_⟩
    obtain ⟨x, hx⟩ : ∃ x, l[0]? = some x := ⟨_, List.getElem?_eq_getElem hp⟩
    have h0 := hlp 0 x hx
    obtain ⟨ab, ao, asp⟩ := a
    have hs : asp = none ∧ ab < w.heap.size := by
      unfold World.cell? at h0
      simp only [Addr.add, Nat.add_zero] at h0
      have hz : ab < w.heap.size := by
        apply Classical.byContradiction
        intro hn
        have : w.heap[ab]? = none := by simp; omega
        simp [this] at h0
      refine ⟨?_, hz⟩
      cases asp with
      | none => rfl
      | some s =>
        exfalso
        revert h0
        simp
        split <;> simp
    obtain ⟨rfl, hz⟩ := hs
    refine ⟨ab, ao, rfl, hz, fun i x hx => ?_⟩
    have := hlp i x hx
    rwa [addN] at this
end
end Go.Proofs.Ytdnbegcebloodaa
