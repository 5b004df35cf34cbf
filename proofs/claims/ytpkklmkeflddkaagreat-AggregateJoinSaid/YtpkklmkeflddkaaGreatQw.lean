/- Arguments of chapter 19, opened: integers, bundles. -/
import Derived.Test.YtpkklmkeflddkaaGreatQp
import Derived.Test.YtpkklmkeflddkaaGreatJn
import Derived.WideShapes
import Derived.ChangeSame
import Derived.Deep.Slices
import Derived.Deep.Fields
import Derived.Lib.SmallJoins
import Derived.ChangeMaps5
set_option linter.unusedVariables false
set_option linter.unusedSimpArgs false
namespace Go.Proofs.YtpkklmkeflddkaaGreat
open Go Go.RowKit Go.ChangeShapes Go.WideShapes Go.Deep Go.Joins
section
variable {H : Type} {enc : TypeId × Value → H} {w : World} {base : Nat} {spare : Nat → Bool} {held : Bool}
set_option maxRecDepth 100000 in
theorem open_ints_arg {r : Reach} {b0 : Nat} {v : Value} {d : DataW H} {p : List MemPlace} (hv : Value.okWide Tryz.prog w r b0 43 v) (h : DataW.Trod enc Tryz.prog w base spare held 43 v d p) :
    ∃ l : List Int, RInts w w.heap.size v l := by
  obtain ⟨a', n', c', rfl⟩ := okWide_slice Tryz.underlying43 hv
  obtain ⟨fuel, hf⟩ := h
  rcases Go.Deep.open_slice Tryz.underlying43 hf with ⟨e, _⟩ | ⟨a, len, cap, m, n, D, Pl, e, hb, hl, hm, hmm, _, hi⟩
  · simp [Value.cells] at e
    obtain ⟨rfl, rfl, rfl⟩ := e
    exact ⟨[], none, 0, rfl, Nat.le_refl _, by simp, fun _ => rfl, fun h => by simp at h⟩
  · simp [Value.cells] at e
    obtain ⟨rfl, rfl, rfl⟩ := e
    have hc : Tryz.prog.cellsOf 3 = 1 := by kernel_rfl
    rw [hc] at hi
    obtain ⟨l, hll, hlp⟩ := choose_lt' (α := Int) (n := n') (p := fun i x => w.cell? (a.add i) = some (.int .i64 x)) fun i hil => by
      obtain ⟨cs', h1, h2⟩ := hi i (by rw [hmm]; split <;> omega)
      obtain ⟨x, rfl, _⟩ := DataW.trod_int Tryz.underlying3 h2
      obtain ⟨_, _, h3⟩ := World.cells?_some h1
      refine ⟨x, ?_⟩
      have := h3 0 (by omega)
      rw [Go.Deep.add_add, Nat.mul_one, Nat.add_zero] at this
      simpa using this
    refine ⟨l, some a, c', by rw [hll], by omega, hm, (fun h => by cases h), fun hp => ?_⟩
    obtain ⟨x, hx⟩ : ∃ x, l[0]? = some x := ⟨_, List.getElem?_eq_getElem hp⟩
    have h0 := hlp 0 x hx
    obtain ⟨ab, ao, asp⟩ := a
    have hs : asp = none ∧ ab < w.heap.size := by
      unfold World.cell? at h0
      simp only [Addr.add, Nat.add_zero] at h0
      have hz : ab < w.heap.size := by
        apply Classical.byContradiction
        intro hn
        have : w.heap[ab]? = none := by simp; omega
        simp [this] at h0
      refine ⟨?_, hz⟩
      cases asp with
      | none => rfl
      | some s =>
        exfalso
        revert h0
        simp
        split <;> simp
    obtain ⟨rfl, hz⟩ := hs
    refine ⟨ab, ao, rfl, hz, fun i x hx => ?_⟩
    have := hlp i x hx
    rwa [addN] at this
set_option maxRecDepth 100000 in
theorem open_bunC {n : Nat} {cs : List Value} {x : DataW H × List MemPlace} (h : DataW.trod enc Tryz.prog w base spare held n 31 cs = some x) : ∃ (b : Bun) (u : Value), cs = bunC b u ∧ RBlks w w.heap.size u b.blocks ∧ Fits b := by
  obtain ⟨xs, m, rfl, _, hl, hxl, hf⟩ := DataW.trod_struct Tryz.underlying31 h
  obtain ⟨c0, c1, c2, c3, c4, c5, c6, c7, c8, c9, ca, cb, rfl⟩ := list12 (hl.trans (by kernel_rfl))
  obtain ⟨x0, x1, x2, x3, x4, x5, x6, rfl⟩ := list7 hxl
  have k : Tryz.prog.cellsOf 3 = 1 := by kernel_rfl
  obtain ⟨a0, a1, a2, a3, a4, e0⟩ := open_id (fld (k := 5) (i := 0) hf rfl (by kernel_rfl))
  obtain ⟨a5, a6, e1⟩ := open_end (fld (k := 2) (i := 1) hf rfl (by kernel_rfl))
  obtain ⟨a7, e2, _⟩ := DataW.trod_int (k := .i64) (by kernel_rfl) (fld (k := 1) (i := 2) hf rfl (by kernel_rfl))
  obtain ⟨a8, e3, _⟩ := DataW.trod_int (k := .i64) (by kernel_rfl) (fld (k := 1) (i := 3) hf rfl (by kernel_rfl))
  obtain ⟨a9, e4, _⟩ := DataW.trod_int (k := .i64) (by kernel_rfl) (fld (k := 1) (i := 4) hf rfl (by kernel_rfl))
  obtain ⟨u, l, e5, hr, hd⟩ := open_blks (fld (k := 1) (i := 5) hf rfl (by kernel_rfl))
  obtain ⟨s, e6, _, hs⟩ := DataW.trod_string (by kernel_rfl) (fld (k := 1) (i := 6) hf rfl (by kernel_rfl))
  simp at e0 e1 e2 e3 e4 e5 e6
  obtain ⟨rfl, rfl, rfl, rfl, rfl⟩ := e0
  obtain ⟨rfl, rfl⟩ := e1
  subst e2 e3 e4 e5 e6
  exact ⟨⟨a0, a1, a2, a3, a4, a5, a6, a7, a8, a9, l, s.data.toList⟩, _, rfl, hr, by simpa using hs, hd⟩
set_option maxRecDepth 100000 in
theorem open_buns {n : Nat} {cs : List Value} {x : DataW H × List MemPlace} (h : DataW.trod enc Tryz.prog w base spare held n 22 cs = some x) : ∃ (u : Value) (l : List Bun), cs = [u] ∧ RBuns w w.heap.size u l ∧ ∀ b ∈ l, Fits b := by
  rcases open_slice Tryz.underlying22 h with ⟨rfl, _⟩ | ⟨a, len, cap, m, n', D, Pl, rfl, hb, hl, hm, hmm, _, hi⟩
  · exact ⟨_, [], rfl, rbuns_nil _ _, fun b hb => by simp at hb⟩
  · have hc : Tryz.prog.cellsOf 31 = 12 := by kernel_rfl
    rw [hc] at hi
    obtain ⟨l, hll, hlp⟩ := choose_lt' (α := Bun) (n := len) (p := fun i b => ∃ v, (∀ k u, (bunC b v)[k]? = some u → w.cell? (a.add (i * 12 + k)) = some u) ∧ RBlks w w.heap.size v b.blocks ∧ Fits b) fun i hil => by
      obtain ⟨cs', h1, h2⟩ := hi i (by rw [hmm]; split <;> omega)
      obtain ⟨b, v, rfl, hr, hd⟩ := open_bunC h2
      obtain ⟨_, _, h3⟩ := World.cells?_some h1
      refine ⟨b, v, fun k u hk => ?_, hr, hd⟩
      rw [← Go.Deep.add_add, h3 k (by have := (List.getElem?_eq_some_iff.1 hk).1; simpa [bunC] using this), hk]
    refine ⟨_, l, rfl, ⟨some a, cap, by rw [hll], by omega, hm, (fun h => by cases h), fun hp => ?_⟩, fun b hb => ?_⟩
    · obtain ⟨x, hx⟩ : ∃ x, l[0]? = some x := ⟨_, List.getElem?_eq_getElem hp⟩
      obtain ⟨v, hv0, _⟩ := hlp 0 x hx
      have h0 := hv0 0 _ rfl
      obtain ⟨ab, ao, asp⟩ := a
      have hs : asp = none ∧ ab < w.heap.size := by
        unfold World.cell? at h0
        simp only [Nat.zero_mul, Addr.add, Nat.add_zero] at h0
        have hz : ab < w.heap.size := by
          apply Classical.byContradiction
          intro hn
          have : w.heap[ab]? = none := by simp; omega
          simp [this] at h0
        refine ⟨?_, hz⟩
        cases asp with
        | none => rfl
        | some s =>
          exfalso
          revert h0
          simp
          split <;> simp
      obtain ⟨rfl, hz⟩ := hs
      refine ⟨ab, ao, rfl, hz, fun i x hx => ?_⟩
      obtain ⟨v, hv, hr, _⟩ := hlp i x hx
      refine ⟨v, fun k u hk => ?_, hr⟩
      have := hv k u hk
      rw [addN] at this
      rw [Nat.add_assoc]
      exact this
    · obtain ⟨i, hi'⟩ := List.getElem?_of_mem hb
      obtain ⟨v, _, _, hd⟩ := hlp i b hi'
      exact hd

set_option maxRecDepth 100000 in
theorem open_buns_arg {r : Reach} {b0 : Nat} {v : Value} {d : DataW H} {p : List MemPlace} (hv : Value.okWide Tryz.prog w r b0 22 v) (h : DataW.Trod enc Tryz.prog w base spare held 22 v d p) :
    ∃ l : List Bun, RBuns w w.heap.size v l ∧ ∀ b ∈ l, Fits b := by
  obtain ⟨a, n, c, rfl⟩ := okWide_slice Tryz.underlying22 hv
  obtain ⟨fuel, hf⟩ := h
  obtain ⟨u, l, e, hr, hd⟩ := open_buns hf
  simp [Value.cells] at e
  subst e
  exact ⟨l, hr, hd⟩
end
end Go.Proofs.YtpkklmkeflddkaaGreat
