/- Tables: the argument, opened. -/
import Derived.WideShapes
import Derived.ChangeSame
import Derived.Deep.Slices
import Derived.Deep.Fields
import Derived.Lib.SmallJoins
import Derived.ChangeMaps5
import Derived.Test.YtkokiahmgmeokaaGreatYa
set_option linter.unusedVariables false
set_option linter.unusedSimpArgs false
namespace Go.Proofs.YtkokiahmgmeokaaGreat
open Go Go.RowKit Go.ChangeShapes Go.WideShapes Go.Deep Go.Joins Iv
attribute [local go_sem] Oper.semAt_some
attribute [local go_sem] B_getElem B_size B_app B_extract B_get B_toList

theorem list2 {α : Type} {xs : List α} (h : xs.length = 2) : ∃ x0 x1, xs = [x0, x1] := by
  match xs, h with
  | [x0, x1], _ => exact ⟨x0, x1, rfl⟩

theorem list3 {α : Type} {xs : List α} (h : xs.length = 3) : ∃ x0 x1 x2, xs = [x0, x1, x2] := by
  match xs, h with
  | [x0, x1, x2], _ => exact ⟨x0, x1, x2, rfl⟩

theorem list4 {α : Type} {xs : List α} (h : xs.length = 4) : ∃ x0 x1 x2 x3, xs = [x0, x1, x2, x3] := by
  match xs, h with
  | [x0, x1, x2, x3], _ => exact ⟨x0, x1, x2, x3, rfl⟩

theorem list5 {α : Type} {xs : List α} (h : xs.length = 5) : ∃ x0 x1 x2 x3 x4, xs = [x0, x1, x2, x3, x4] := by
  match xs, h with
  | [x0, x1, x2, x3, x4], _ => exact ⟨x0, x1, x2, x3, x4, rfl⟩

theorem list7 {α : Type} {xs : List α} (h : xs.length = 7) : ∃ x0 x1 x2 x3 x4 x5 x6, xs = [x0, x1, x2, x3, x4, x5, x6] := by
  match xs, h with
  | [x0, x1, x2, x3, x4, x5, x6], _ => exact ⟨x0, x1, x2, x3, x4, x5, x6, rfl⟩

theorem choose_lt' {α : Type} {p : Nat → α → Prop} : ∀ {n : Nat}, (∀ i, i < n → ∃ v, p i v) → ∃ l : List α, l.length = n ∧ ∀ i x, l[i]? = some x → p i x
  | 0, _ => ⟨[], rfl, fun i x h => by simp at h⟩
  | n + 1, h => by
    obtain ⟨l, hl, hp⟩ := choose_lt' (n := n) fun i hi => h i (by omega)
    obtain ⟨v, hv⟩ := h n (by omega)
    refine ⟨l ++ [v], by simp [hl], fun i x hx => ?_⟩
    by_cases hi : i < n
    · rw [List.getElem?_append_left (by omega)] at hx; exact hp i x hx
    · rw [List.getElem?_append_right (by omega)] at hx
      have : i - l.length = 0 := by
        have := (List.getElem?_eq_some_iff.1 hx).1
        simp at this; omega
      rw [this] at hx
      simp at hx
      subst hx
      have : i = n := by omega
      rw [this]; exact hv
section
variable {H : Type} {enc : TypeId × Value → H} {w : World} {base : Nat} {spare : Nat → Bool} {held : Bool}
theorem fld {fs : Array Field} {n i T o k : Nat} {cs : List Value} {xs : List (DataW H × List MemPlace)} (hf : ∀ (i : Nat) (f : Field), fs[i]? = some f → DataW.trod enc Tryz.prog w base spare held n f.type ((cs.drop f.offset).take (Tryz.prog.cellsOf f.type)) = xs[i]?)
    (hj : (fs[i]?.map fun f => (f.type, f.offset)) = some (T, o)) (hk : Tryz.prog.cellsOf T = k) : DataW.trod enc Tryz.prog w base spare held n T ((cs.drop o).take k) = xs[i]? := by
  obtain ⟨f, h1, h2⟩ := Option.map_eq_some_iff.1 hj
  simp only [Prod.mk.injEq] at h2
  obtain ⟨rfl, rfl⟩ := h2
  rw [← hk]
  exact hf i f h1
set_option maxRecDepth 100000 in
theorem open_rrow {α : Type} {en : α → List Value} {s : Nat} (hen : ∀ x, (en x).length = s) (hs : 0 < s) {TS T : TypeId} (hT : Tryz.prog.underlying TS = some (.slice T)) (hc : Tryz.prog.cellsOf T = s)
    (hel : ∀ {n : Nat} {cs : List Value} {x : DataW H × List MemPlace}, DataW.trod enc Tryz.prog w base spare held n T cs = some x → ∃ y, cs = en y)
    {n : Nat} {cs : List Value} {x : DataW H × List MemPlace} (h : DataW.trod enc Tryz.prog w base spare held n TS cs = some x) : ∃ (u : Value) (l : List α), cs = [u] ∧ RRow en s w w.heap.size u l := by
  rcases open_slice hT h with ⟨rfl, _⟩ | ⟨a, len, cap, m, n', D, Pl, rfl, hb, hl, hm, hmm, _, hi⟩
  · exact ⟨_, [], rfl, RRow.nil _ _ _ _⟩
  · rw [hc] at hi
    obtain ⟨l, hll, hlp⟩ := choose_lt' (α := α) (n := len) (p := fun i b => ∀ k u, (en b)[k]? = some u → w.cell? (a.add (i * s + k)) = some u) fun i hil => by
      obtain ⟨cs', h1, h2⟩ := hi i (by rw [hmm]; split <;> omega)
      obtain ⟨b, rfl⟩ := hel h2
      obtain ⟨_, _, h3⟩ := World.cells?_some h1
      refine ⟨b, fun k u hk => ?_⟩
      rw [← Go.Deep.add_add, h3 k (by have := (List.getElem?_eq_some_iff.1 hk).1; rw [hen] at this; exact this), hk]
    refine ⟨_, l, rfl, some a, cap, by rw [hll], by omega, hm, (fun h => by cases h), fun hp => ?_⟩
    obtain ⟨x, hx⟩ : ∃ x, l[0]? = some x := ⟨_, List.getElem?_eq_getElem hp⟩
    obtain ⟨y0, hy0⟩ : ∃ y, (en x)[0]? = some y := ⟨_, List.getElem?_eq_getElem (by rw [hen]; exact hs)⟩
    have h0 := hlp 0 x hx 0 y0 hy0
    obtain ⟨ab, ao, asp⟩ := a
    have hs : asp = none ∧ ab < w.heap.size := by
      unfold World.cell? at h0
      simp only [Nat.zero_mul, Addr.add, Nat.add_zero] at h0
      have hz : ab < w.heap.size := by
        apply Classical.byContradiction
        intro hn
        have : w.heap[ab]? = none := by simp; omega
        simp [this] at h0
      refine ⟨?_, hz⟩
      cases asp with
      | none => rfl
      | some s =>
        exfalso
        revert h0
        simp
        split <;> simp
    obtain ⟨rfl, hz⟩ := hs
    refine ⟨ab, ao, rfl, hz, fun i x hx k u hk => ?_⟩
    have := hlp i x hx k u hk
    rw [addN] at this
    rw [Nat.add_assoc]
    exact this
set_option maxRecDepth 100000 in
theorem open_int1 {n : Nat} {cs : List Value} {x : DataW H × List MemPlace} (h : DataW.trod enc Tryz.prog w base spare held n 3 cs = some x) : ∃ y : Int, cs = intC y := by
  obtain ⟨a0, e0, _⟩ := DataW.trod_int Tryz.underlying3 h
  exact ⟨a0, e0⟩
set_option maxRecDepth 100000 in
theorem open_con {n : Nat} {cs : List Value} {x : DataW H × List MemPlace} (h : DataW.trod enc Tryz.prog w base spare held n 38 cs = some x) : ∃ y : Con, cs = conC y := by
  obtain ⟨xs, m, rfl, _, hl, hxl, hf⟩ := DataW.trod_struct Tryz.underlying38 h
  obtain ⟨c0, c1, c2, c3, c4, c5, c6, rfl⟩ := list7 (hl.trans (by kernel_rfl))
  obtain ⟨x0, x1, x2, x3, x4, x5, x6, rfl⟩ := list7 hxl
  obtain ⟨a0, e0, _⟩ := DataW.trod_int (k := .i64) (by kernel_rfl) (fld (k := 1) (i := 0) hf rfl (by kernel_rfl))
  obtain ⟨a1, e1, _⟩ := DataW.trod_int (k := .i64) (by kernel_rfl) (fld (k := 1) (i := 1) hf rfl (by kernel_rfl))
  obtain ⟨a2, e2, _⟩ := DataW.trod_int (k := .i64) (by kernel_rfl) (fld (k := 1) (i := 2) hf rfl (by kernel_rfl))
  obtain ⟨a3, e3, _⟩ := DataW.trod_int (k := .i64) (by kernel_rfl) (fld (k := 1) (i := 3) hf rfl (by kernel_rfl))
  obtain ⟨a4, e4, _⟩ := DataW.trod_int (k := .i64) (by kernel_rfl) (fld (k := 1) (i := 4) hf rfl (by kernel_rfl))
  obtain ⟨a5, e5, _⟩ := DataW.trod_int (k := .i64) (by kernel_rfl) (fld (k := 1) (i := 5) hf rfl (by kernel_rfl))
  obtain ⟨a6, e6, _⟩ := DataW.trod_int (k := .i64) (by kernel_rfl) (fld (k := 1) (i := 6) hf rfl (by kernel_rfl))
  simp at e0 e1 e2 e3 e4 e5 e6
  subst e0 e1 e2 e3 e4 e5 e6
  exact ⟨⟨a0, a1, a2, a3, a4, a5, a6⟩, rfl⟩
set_option maxRecDepth 100000 in
theorem open_bkg {n : Nat} {cs : List Value} {x : DataW H × List MemPlace} (h : DataW.trod enc Tryz.prog w base spare held n 91 cs = some x) : ∃ y : Bkg, cs = bkgC y := by
  obtain ⟨xs, m, rfl, _, hl, hxl, hf⟩ := DataW.trod_struct Tryz.underlying91 h
  obtain ⟨c0, c1, c2, c3, rfl⟩ := list4 (hl.trans (by kernel_rfl))
  obtain ⟨x0, x1, x2, x3, rfl⟩ := list4 hxl
  obtain ⟨a0, e0, _⟩ := DataW.trod_int (k := .i64) (by kernel_rfl) (fld (k := 1) (i := 0) hf rfl (by kernel_rfl))
  obtain ⟨a1, e1, _⟩ := DataW.trod_int (k := .i64) (by kernel_rfl) (fld (k := 1) (i := 1) hf rfl (by kernel_rfl))
  obtain ⟨a2, e2, _⟩ := DataW.trod_int (k := .i64) (by kernel_rfl) (fld (k := 1) (i := 2) hf rfl (by kernel_rfl))
  obtain ⟨a3, e3, _⟩ := DataW.trod_int (k := .i64) (by kernel_rfl) (fld (k := 1) (i := 3) hf rfl (by kernel_rfl))
  simp at e0 e1 e2 e3
  subst e0 e1 e2 e3
  exact ⟨⟨a0, a1, a2, a3⟩, rfl⟩
set_option maxRecDepth 100000 in
theorem open_hld {n : Nat} {cs : List Value} {x : DataW H × List MemPlace} (h : DataW.trod enc Tryz.prog w base spare held n 95 cs = some x) : ∃ y : Hld, cs = hldC y := by
  obtain ⟨xs, m, rfl, _, hl, hxl, hf⟩ := DataW.trod_struct Tryz.underlying95 h
  obtain ⟨c0, c1, c2, c3, c4, rfl⟩ := list5 (hl.trans (by kernel_rfl))
  obtain ⟨x0, x1, x2, x3, x4, rfl⟩ := list5 hxl
  obtain ⟨a0, e0, _⟩ := DataW.trod_int (k := .i64) (by kernel_rfl) (fld (k := 1) (i := 0) hf rfl (by kernel_rfl))
  obtain ⟨a1, e1, _⟩ := DataW.trod_int (k := .i64) (by kernel_rfl) (fld (k := 1) (i := 1) hf rfl (by kernel_rfl))
  obtain ⟨a2, e2, _⟩ := DataW.trod_int (k := .i64) (by kernel_rfl) (fld (k := 1) (i := 2) hf rfl (by kernel_rfl))
  obtain ⟨a3, e3, _⟩ := DataW.trod_int (k := .i64) (by kernel_rfl) (fld (k := 1) (i := 3) hf rfl (by kernel_rfl))
  obtain ⟨a4, e4, _⟩ := DataW.trod_int (k := .i64) (by kernel_rfl) (fld (k := 1) (i := 4) hf rfl (by kernel_rfl))
  simp at e0 e1 e2 e3 e4
  subst e0 e1 e2 e3 e4
  exact ⟨⟨a0, a1, a2, a3, a4⟩, rfl⟩

set_option maxRecDepth 100000 in
theorem open_plan {n : Nat} {cs : List Value} {x : DataW H × List MemPlace} (h : DataW.trod enc Tryz.prog w base spare held n 25 cs = some x) :
    ∃ (uq uc : Value) (qs : List Int) (cl : List Con), cs = [uq, uc] ∧ RRow intC 1 w w.heap.size uq qs ∧ RRow conC 7 w w.heap.size uc cl := by
  obtain ⟨xs, m, rfl, _, hl, hxl, hf⟩ := DataW.trod_struct Tryz.underlying25 h
  obtain ⟨c0, c1, rfl⟩ := list2 (hl.trans (by kernel_rfl))
  obtain ⟨x0, x1, rfl⟩ := list2 hxl
  obtain ⟨uq, qs, e0, hq⟩ := open_rrow (en := intC) (s := 1) (fun _ => rfl) (by decide) Tryz.underlying22 (by kernel_rfl) open_int1 (fld (k := 1) (i := 0) hf rfl (by kernel_rfl))
  obtain ⟨uc, cl, e1, hc⟩ := open_rrow conC_len (by decide) Tryz.underlying23 (by kernel_rfl) open_con (fld (k := 1) (i := 1) hf rfl (by kernel_rfl))
  simp at e0 e1
  subst e0 e1
  exact ⟨_, _, qs, cl, rfl, hq, hc⟩
set_option maxRecDepth 100000 in
theorem open_tables {r : Reach} {b0 : Nat} {v : Value} {d : DataW H} {p : List MemPlace} (hv : Value.okWide Tryz.prog w r b0 29 v) (h : DataW.Trod enc Tryz.prog w base spare held 29 v d p) :
    ∃ (uq uc ub uh : Value) (qs : List Int) (cs : List Con) (l : List Bkg) (hs : List Hld), v = .agg #[uq, uc, ub, uh] ∧ RRow intC 1 w w.heap.size uq qs ∧ RRow conC 7 w w.heap.size uc cs ∧ RRow bkgC 4 w w.heap.size ub l ∧ RRow hldC 5 w w.heap.size uh hs := by
  obtain ⟨cs, rfl, hsz⟩ := okWide_struct Tryz.underlying29 hv
  obtain ⟨fuel, hf⟩ := h
  obtain ⟨xs, m, rfl, _, hl, hxl, hf⟩ := DataW.trod_struct Tryz.underlying29 hf
  obtain ⟨cl⟩ := cs
  simp only [Value.cells] at hf hl
  obtain ⟨c0, c1, c2, c3, rfl⟩ := list4 (hl.trans (by kernel_rfl))
  obtain ⟨x0, x1, x2, rfl⟩ := list3 hxl
  obtain ⟨uq, uc, qs, cs, e0, hq, hc⟩ := open_plan (fld (k := 2) (i := 0) hf rfl (by kernel_rfl))
  obtain ⟨ub, l, e1, hb⟩ := open_rrow bkgC_len (by decide) Tryz.underlying26 (by kernel_rfl) open_bkg (fld (k := 1) (i := 1) hf rfl (by kernel_rfl))
  obtain ⟨uh, hs, e2, hh⟩ := open_rrow hldC_len (by decide) Tryz.underlying27 (by kernel_rfl) open_hld (fld (k := 1) (i := 2) hf rfl (by kernel_rfl))
  simp at e0 e1 e2
  obtain ⟨rfl, rfl⟩ := e0
  subst e1 e2
  exact ⟨_, _, _, _, qs, cs, l, hs, rfl, hq, hc, hb, hh⟩
end
end Go.Proofs.YtkokiahmgmeokaaGreat
/- The arguments, opened. -/
set_option linter.unusedVariables false
set_option linter.unusedSimpArgs false
namespace Go.Proofs.YtkokiahmgmeokaaGreat
open Go Go.RowKit Iv
attribute [local go_sem] Oper.semAt_some
attribute [local go_sem] B_getElem B_size B_app B_extract B_get B_toList
open Go.ChangeShapes Go.WideShapes Go.Deep Go.Joins
section
variable {H : Type} {enc : TypeId × Value → H} {w : World} {base : Nat} {spare : Nat → Bool} {held : Bool}
set_option maxRecDepth 100000 in
theorem open_planv {r : Reach} {b0 : Nat} {v : Value} {d : DataW H} {p : List MemPlace} (hv : Value.okWide Tryz.prog w r b0 25 v) (h : DataW.Trod enc Tryz.prog w base spare held 25 v d p) :
    ∃ (uq uc : Value) (qs : List Int) (cs : List Con), v = .agg #[uq, uc] ∧ RRow intC 1 w w.heap.size uq qs ∧ RRow conC 7 w w.heap.size uc cs := by
  obtain ⟨cs, rfl, hsz⟩ := okWide_struct Tryz.underlying25 hv
  obtain ⟨fuel, hf⟩ := h
  obtain ⟨cl⟩ := cs
  obtain ⟨uq, uc, qs, cs, e, h1, h2⟩ := open_plan hf
  simp only [Value.cells] at e
  subst e
  exact ⟨uq, uc, qs, cs, rfl, h1, h2⟩
set_option maxRecDepth 100000 in
theorem open_reqv {r : Reach} {b0 : Nat} {v : Value} {d : DataW H} {p : List MemPlace} (hv : Value.okWide Tryz.prog w r b0 31 v) (h : DataW.Trod enc Tryz.prog w base spare held 31 v d p) :
    ∃ (src dst sz rd D pr : Int) (cu : Bool), v = .agg #[.int .i64 src, .int .i64 dst, .int .i64 sz, .int .i64 rd, .int .i64 D, .int .i64 pr, .bool cu] := by
  obtain ⟨cs, rfl, hsz⟩ := okWide_struct Tryz.underlying31 hv
  obtain ⟨fuel, hf⟩ := h
  obtain ⟨xs, m, rfl, _, hl, hxl, hf⟩ := DataW.trod_struct Tryz.underlying31 hf
  obtain ⟨cl⟩ := cs
  simp only [Value.cells] at hf hl
  obtain ⟨c0, c1, c2, c3, c4, c5, c6, rfl⟩ := list7 (hl.trans (by kernel_rfl))
  obtain ⟨x0, x1, x2, x3, x4, x5, x6, rfl⟩ := list7 hxl
  obtain ⟨a0, e0, _⟩ := DataW.trod_int (k := .i64) (by kernel_rfl) (fld (k := 1) (i := 0) hf rfl (by kernel_rfl))
  obtain ⟨a1, e1, _⟩ := DataW.trod_int (k := .i64) (by kernel_rfl) (fld (k := 1) (i := 1) hf rfl (by kernel_rfl))
  obtain ⟨a2, e2, _⟩ := DataW.trod_int (k := .i64) (by kernel_rfl) (fld (k := 1) (i := 2) hf rfl (by kernel_rfl))
  obtain ⟨a3, e3, _⟩ := DataW.trod_int (k := .i64) (by kernel_rfl) (fld (k := 1) (i := 3) hf rfl (by kernel_rfl))
  obtain ⟨a4, e4, _⟩ := DataW.trod_int (k := .i64) (by kernel_rfl) (fld (k := 1) (i := 4) hf rfl (by kernel_rfl))
  obtain ⟨a5, e5, _⟩ := DataW.trod_int (k := .i64) (by kernel_rfl) (fld (k := 1) (i := 5) hf rfl (by kernel_rfl))
  obtain ⟨a6, e6, _⟩ := DataW.trod_bool (by kernel_rfl) (fld (k := 1) (i := 6) hf rfl (by kernel_rfl))
  simp at e0 e1 e2 e3 e4 e5 e6
  subst e0 e1 e2 e3 e4 e5 e6
  exact ⟨a0, a1, a2, a3, a4, a5, a6, rfl⟩
end
end Go.Proofs.YtkokiahmgmeokaaGreat
