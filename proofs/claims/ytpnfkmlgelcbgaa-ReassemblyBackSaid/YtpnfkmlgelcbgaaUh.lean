/- Arguments of chapter 18, opened: bundles, intervals, partial bundles. -/
import Derived.Test.YtpnfkmlgelcbgaaSm
import Derived.Test.YtpnfkmlgelcbgaaJn
import Derived.WideShapes
import Derived.ChangeSame
import Derived.Deep.Slices
import Derived.Deep.Fields
import Derived.Lib.SmallJoins
import Derived.ChangeMaps5
set_option linter.unusedVariables false
set_option linter.unusedSimpArgs false
namespace Go.Proofs.Ytpnfkmlgelcbgaa
open Go Go.RowKit Go.ChangeShapes Go.WideShapes Go.Deep Go.Joins Iv
theorem rbuns_nil (w : World) (N : Nat) : RBuns w N (.slice none 0 0) [] := ⟨none, 0, rfl, Nat.le_refl _, by simp, fun _ => rfl, fun h => by simp at h⟩
theorem list14 {α : Type} {xs : List α} (h : xs.length = 14) : ∃ x0 x1 x2 x3 x4 x5 x6 x7 x8 x9 xa xb xc xd, xs = [x0, x1, x2, x3, x4, x5, x6, x7, x8, x9, xa, xb, xc, xd] := by
  match xs, h with
  | [x0, x1, x2, x3, x4, x5, x6, x7, x8, x9, xa, xb, xc, xd], _ => exact ⟨x0, x1, x2, x3, x4, x5, x6, x7, x8, x9, xa, xb, xc, xd, rfl⟩
section
variable {H : Type} {enc : TypeId × Value → H} {w : World} {base : Nat} {spare : Nat → Bool} {held : Bool}
set_option maxRecDepth 100000 in
theorem open_bunC {n : Nat} {cs : List Value} {x : DataW H × List MemPlace} (h : DataW.trod enc Try.prog w base spare held n 28 cs = some x) : ∃ (b : Bun) (u : Value), cs = bunC b u ∧ RBlks w w.heap.size u b.blocks ∧ Fits b := by
  obtain ⟨xs, m, rfl, _, hl, hxl, hf⟩ := DataW.trod_struct Try.underlying28 h
  obtain ⟨c0, c1, c2, c3, c4, c5, c6, c7, c8, c9, ca, cb, rfl⟩ := list12 (hl.trans (by kernel_rfl))
  obtain ⟨x0, x1, x2, x3, x4, x5, x6, rfl⟩ := list7 hxl
  have k : Try.prog.cellsOf 3 = 1 := by kernel_rfl
  obtain ⟨a0, a1, a2, a3, a4, e0⟩ := open_id (fld (k := 5) (i := 0) hf rfl (by kernel_rfl))
  obtain ⟨a5, a6, e1⟩ := open_end (fld (k := 2) (i := 1) hf rfl (by kernel_rfl))
  obtain ⟨a7, e2, _⟩ := DataW.trod_int (k := .i64) (by kernel_rfl) (fld (k := 1) (i := 2) hf rfl (by kernel_rfl))
  obtain ⟨a8, e3, _⟩ := DataW.trod_int (k := .i64) (by kernel_rfl) (fld (k := 1) (i := 3) hf rfl (by kernel_rfl))
  obtain ⟨a9, e4, _⟩ := DataW.trod_int (k := .i64) (by kernel_rfl) (fld (k := 1) (i := 4) hf rfl (by kernel_rfl))
  obtain ⟨u, l, e5, hr, hd⟩ := open_blks (fld (k := 1) (i := 5) hf rfl (by kernel_rfl))
  obtain ⟨s, e6, _, hs⟩ := DataW.trod_string (by kernel_rfl) (fld (k := 1) (i := 6) hf rfl (by kernel_rfl))
  simp at e0 e1 e2 e3 e4 e5 e6
  obtain ⟨rfl, rfl, rfl, rfl, rfl⟩ := e0
  obtain ⟨rfl, rfl⟩ := e1
  subst e2 e3 e4 e5 e6
  exact ⟨⟨a0, a1, a2, a3, a4, a5, a6, a7, a8, a9, l, s.data.toList⟩, _, rfl, hr, by simpa using hs, hd⟩
set_option maxRecDepth 100000 in
theorem open_buns {n : Nat} {cs : List Value} {x : DataW H × List MemPlace} (h : DataW.trod enc Try.prog w base spare held n 50 cs = some x) : ∃ (u : Value) (l : List Bun), cs = [u] ∧ RBuns w w.heap.size u l ∧ ∀ b ∈ l, Fits b := by
  rcases open_slice Try.underlying50 h with ⟨rfl, _⟩ | ⟨a, len, cap, m, n', D, Pl, rfl, hb, hl, hm, hmm, _, hi⟩
  · exact ⟨_, [], rfl, rbuns_nil _ _, fun b hb => by simp at hb⟩
  · have hc : Try.prog.cellsOf 28 = 12 := by kernel_rfl
    rw [hc] at hi
    obtain ⟨l, hll, hlp⟩ := choose_lt' (α := Bun) (n := len) (p := fun i b => ∃ v, (∀ k u, (bunC b v)[k]? = some u → w.cell? (a.add (i * 12 + k)) = some u) ∧ RBlks w w.heap.size v b.blocks ∧ Fits b) fun i hil => by
      obtain ⟨cs', h1, h2⟩ := hi i (by rw [hmm]; split <;> omega)
      obtain ⟨b, v, rfl, hr, hd⟩ := open_bunC h2
      obtain ⟨_, _, h3⟩ := World.cells?_some h1
      refine ⟨b, v, fun k u hk => ?_, hr, hd⟩
      rw [← Go.Deep.add_add, h3 k (by have := (List.getElem?_eq_some_iff.1 hk).1; simpa [bunC] using this), hk]
    refine ⟨_, l, rfl, ⟨some a, cap, by rw [hll], by omega, hm, (fun h => by cases h), fun hp => ?_⟩, fun b hb => ?_⟩
    · obtain ⟨x, hx⟩ : ∃ x, l[0]? = some x := ⟨_, List.getElem?_eq_getElem hp⟩
      obtain ⟨v, hv0, _⟩ := hlp 0 x hx
      have h0 := hv0 0 _ rfl
      obtain ⟨ab, ao, asp⟩ := a
      have hs : asp = none ∧ ab < w.heap.size := by
        unfold World.cell? at h0
        simp only [Nat.zero_mul, Addr.add, Nat.add_zero] at h0
        have hz : ab < w.heap.size := by
          apply Classical.byContradiction
          intro hn
          have : w.heap[ab]? = none := by simp; omega
          simp [this] at h0
        refine ⟨?_, hz⟩
        cases asp with
        | none => rfl
        | some s =>
          exfalso
          revert h0
          simp
          split <;> simp
      obtain ⟨rfl, hz⟩ := hs
      refine ⟨ab, ao, rfl, hz, fun i x hx => ?_⟩
      obtain ⟨v, hv, hr, _⟩ := hlp i x hx
      refine ⟨v, fun k u hk => ?_, hr⟩
      have := hv k u hk
      rw [addN] at this
      rw [Nat.add_assoc]
      exact this
    · obtain ⟨i, hi'⟩ := List.getElem?_of_mem hb
      obtain ⟨v, _, _, hd⟩ := hlp i b hi'
      exact hd

set_option maxRecDepth 100000 in
theorem open_buns_arg {r : Reach} {b0 : Nat} {v : Value} {d : DataW H} {p : List MemPlace} (hv : Value.okWide Try.prog w r b0 50 v) (h : DataW.Trod enc Try.prog w base spare held 50 v d p) :
    ∃ l : List Bun, RBuns w w.heap.size v l ∧ ∀ b ∈ l, Fits b := by
  obtain ⟨a, n, c, rfl⟩ := okWide_slice Try.underlying50 hv
  obtain ⟨fuel, hf⟩ := h
  obtain ⟨u, l, e, hr, hd⟩ := open_buns hf
  simp [Value.cells] at e
  subst e
  exact ⟨l, hr, hd⟩
set_option maxRecDepth 100000 in
theorem open_sp {n : Nat} {cs : List Value} {x : DataW H × List MemPlace} (h : DataW.trod enc Try.prog w base spare held n 47 cs = some x) : ∃ s : Sp, cs = spC s := by
  obtain ⟨xs, m, rfl, _, hl, hxl, hf⟩ := DataW.trod_struct Try.underlying47 h
  obtain ⟨c0, c1, rfl⟩ := list2 (hl.trans (by kernel_rfl))
  obtain ⟨x0, x1, rfl⟩ := list2 hxl
  obtain ⟨a0, e0, _⟩ := DataW.trod_int (k := .i64) (by kernel_rfl) (fld (k := 1) (i := 0) hf rfl (by kernel_rfl))
  obtain ⟨a1, e1, _⟩ := DataW.trod_int (k := .i64) (by kernel_rfl) (fld (k := 1) (i := 1) hf rfl (by kernel_rfl))
  simp at e0 e1
  subst e0 e1
  exact ⟨(a0, a1), rfl⟩
set_option maxRecDepth 100000 in
theorem open_sps {n : Nat} {cs : List Value} {x : DataW H × List MemPlace} (h : DataW.trod enc Try.prog w base spare held n 29 cs = some x) : ∃ (u : Value) (l : List Sp), cs = [u] ∧ RSps w w.heap.size u l := by
  rcases open_slice Try.underlying29 h with ⟨rfl, _⟩ | ⟨a, len, cap, m, n', D, Pl, rfl, hb, hl, hm, hmm, _, hi⟩
  · exact ⟨_, [], rfl, RSps.nil _ _⟩
  · have hc : Try.prog.cellsOf 47 = 2 := by kernel_rfl
    rw [hc] at hi
    obtain ⟨l, hll, hlp⟩ := choose_lt' (α := Sp) (n := len) (p := fun i b => ∀ k u, (spC b)[k]? = some u → w.cell? (a.add (i * 2 + k)) = some u) fun i hil => by
      obtain ⟨cs', h1, h2⟩ := hi i (by rw [hmm]; split <;> omega)
      obtain ⟨b, rfl⟩ := open_sp h2
      obtain ⟨_, _, h3⟩ := World.cells?_some h1
      refine ⟨b, fun k u hk => ?_⟩
      rw [← Go.Deep.add_add, h3 k (by have := (List.getElem?_eq_some_iff.1 hk).1; simpa [spC] using this), hk]
    refine ⟨_, l, rfl, some a, cap, by rw [hll], by omega, hm, (fun h => by cases h), fun hp => ?_⟩
    obtain ⟨x, hx⟩ : ∃ x, l[0]? = some x := ⟨_, List.getElem?_eq_getElem hp⟩
    have h0 := hlp 0 x hx 0 _ rfl
    obtain ⟨ab, ao, asp⟩ := a
    have hs : asp = none ∧ ab < w.heap.size := by
      unfold World.cell? at h0
      simp only [Nat.zero_mul, Addr.add, Nat.add_zero] at h0
      have hz : ab < w.heap.size := by
        apply Classical.byContradiction
        intro hn
        have : w.heap[ab]? = none := by simp; omega
        simp [this] at h0
      refine ⟨?_, hz⟩
      cases asp with
      | none => rfl
      | some s =>
        exfalso
        revert h0
        simp
        split <;> simp
    obtain ⟨rfl, hz⟩ := hs
    refine ⟨ab, ao, rfl, hz, fun j u hu => ?_⟩
    have hj : j < l.length * 2 := by
      have := (List.getElem?_eq_some_iff.1 hu).1
      rw [show (sps l).length = l.length * 2 from sps_len l] at this
      exact this
    obtain ⟨y, hy⟩ : ∃ y, l[j / 2]? = some y := ⟨_, List.getElem?_eq_getElem (by omega)⟩
    have hg := flat_get spC 2 spC_len l (j / 2) (j % 2) (by omega)
    rw [hy] at hg
    have e : j / 2 * 2 + j % 2 = j := by omega
    rw [e] at hg
    have h1 : (spC y)[j % 2]? = some u := hg.symm.trans hu
    have := hlp (j / 2) y hy (j % 2) u h1
    rw [addN, e] at this
    exact this
set_option maxRecDepth 100000 in
theorem open_parC {n : Nat} {cs : List Value} {x : DataW H × List MemPlace} (h : DataW.trod enc Try.prog w base spare held n 31 cs = some x) : ∃ (p : Par) (ub uk : Value), cs = parC p ub uk ∧ RBlks w w.heap.size ub p.head.blocks ∧ RSps w w.heap.size uk p.known ∧ Fits p.head ∧ p.data.length ≤ maxLen := by
  obtain ⟨xs, m, rfl, _, hl, hxl, hf⟩ := DataW.trod_struct Try.underlying31 h
  obtain ⟨c0, c1, c2, c3, c4, c5, c6, c7, c8, c9, ca, cb, cc, cd, rfl⟩ := list14 (hl.trans (by kernel_rfl))
  obtain ⟨x0, x1, x2, rfl⟩ := list3 hxl
  obtain ⟨b, u, e0, hr, hfb⟩ := open_bunC (fld (k := 12) (i := 0) hf rfl (by kernel_rfl))
  obtain ⟨v, l, e1, hk⟩ := open_sps (fld (k := 1) (i := 1) hf rfl (by kernel_rfl))
  obtain ⟨s, e2, _, hs⟩ := DataW.trod_string (by kernel_rfl) (fld (k := 1) (i := 2) hf rfl (by kernel_rfl))
  simp at e0 e1 e2
  subst e1 e2
  refine ⟨⟨b, l, s.data.toList⟩, u, _, ?_, hr, hk, hfb, by simpa using hs⟩
  unfold parC
  simp only
  rw [← e0]
  rfl
set_option maxRecDepth 100000 in
theorem open_par {r : Reach} {b0 : Nat} {v : Value} {d : DataW H} {p : List MemPlace} (hv : Value.okWide Try.prog w r b0 31 v) (h : DataW.Trod enc Try.prog w base spare held 31 v d p) :
    ∃ (q : Par) (ub uk : Value), v = .agg (parC q ub uk).toArray ∧ RBlks w w.heap.size ub q.head.blocks ∧ RSps w w.heap.size uk q.known ∧ Fits q.head ∧ q.data.length ≤ maxLen := by
  obtain ⟨cs, rfl, hsz⟩ := okWide_struct Try.underlying31 hv
  obtain ⟨fuel, hf⟩ := h
  obtain ⟨cl⟩ := cs
  simp only [Value.cells] at hf
  obtain ⟨q, ub, uk, e, h1⟩ := open_parC hf
  subst e
  exact ⟨q, ub, uk, rfl, h1⟩
end
end Go.Proofs.Ytpnfkmlgelcbgaa
