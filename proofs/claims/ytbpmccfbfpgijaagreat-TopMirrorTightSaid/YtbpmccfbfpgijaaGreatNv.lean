/- TopMirrorTight: the arguments, opened (printed by gen/g22.py) -/
import Derived.Lib.SmallJoins
import Derived.Test.YtbpmccfbfpgijaaGreatYu
set_option linter.unusedVariables false
set_option linter.unusedSimpArgs false
namespace Go.Proofs.YtbpmccfbfpgijaaGreat
open Go Go.RowKit Iv
attribute [local go_sem] Oper.semAt_some
attribute [local go_sem] B_getElem B_size B_app B_extract B_get B_toList
open Go.ChangeShapes Go.WideShapes Go.Deep Go.Joins
section
variable {H : Type} {enc : TypeId × Value → H} {w : World} {base : Nat} {spare : Nat → Bool} {held : Bool}
set_option maxRecDepth 100000 in
theorem open_planv {r : Reach} {b0 : Nat} {v : Value} {d : DataW H} {p : List MemPlace} (hv : Value.okWide Tryz.prog w r b0 25 v) (h : DataW.Trod enc Tryz.prog w base spare held 25 v d p) :
    ∃ (uq uc : Value) (qs : List Int) (cs : List Con), v = .agg #[uq, uc] ∧ RRow intC 1 w w.heap.size uq qs ∧ RRow conC 7 w w.heap.size uc cs := by
  obtain ⟨cs, rfl, hsz⟩ := okWide_struct Tryz.underlying25 hv
  obtain ⟨fuel, hf⟩ := h
  obtain ⟨cl⟩ := cs
  obtain ⟨uq, uc, qs, cs, e, h1, h2⟩ := open_plan hf
  simp only [Value.cells] at e
  subst e
  exact ⟨uq, uc, qs, cs, rfl, h1, h2⟩
set_option maxRecDepth 100000 in
theorem open_reqv {r : Reach} {b0 : Nat} {v : Value} {d : DataW H} {p : List MemPlace} (hv : Value.okWide Tryz.prog w r b0 27 v) (h : DataW.Trod enc Tryz.prog w base spare held 27 v d p) :
    ∃ (src dst sz rd D pr : Int) (cu : Bool), v = .agg #[.int .i64 src, .int .i64 dst, .int .i64 sz, .int .i64 rd, .int .i64 D, .int .i64 pr, .bool cu] := by
  obtain ⟨cs, rfl, hsz⟩ := okWide_struct Tryz.underlying27 hv
  obtain ⟨fuel, hf⟩ := h
  obtain ⟨xs, m, rfl, _, hl, hxl, hf⟩ := DataW.trod_struct Tryz.underlying27 hf
  obtain ⟨cl⟩ := cs
  simp only [Value.cells] at hf hl
  obtain ⟨c0, c1, c2, c3, c4, c5, c6, rfl⟩ := list7 (hl.trans (by kernel_rfl))
  obtain ⟨x0, x1, x2, x3, x4, x5, x6, rfl⟩ := list7 hxl
  obtain ⟨a0, e0, _⟩ := DataW.trod_int (k := .i64) (by kernel_rfl) (fld (k := 1) (i := 0) hf rfl (by kernel_rfl))
  obtain ⟨a1, e1, _⟩ := DataW.trod_int (k := .i64) (by kernel_rfl) (fld (k := 1) (i := 1) hf rfl (by kernel_rfl))
  obtain ⟨a2, e2, _⟩ := DataW.trod_int (k := .i64) (by kernel_rfl) (fld (k := 1) (i := 2) hf rfl (by kernel_rfl))
  obtain ⟨a3, e3, _⟩ := DataW.trod_int (k := .i64) (by kernel_rfl) (fld (k := 1) (i := 3) hf rfl (by kernel_rfl))
  obtain ⟨a4, e4, _⟩ := DataW.trod_int (k := .i64) (by kernel_rfl) (fld (k := 1) (i := 4) hf rfl (by kernel_rfl))
  obtain ⟨a5, e5, _⟩ := DataW.trod_int (k := .i64) (by kernel_rfl) (fld (k := 1) (i := 5) hf rfl (by kernel_rfl))
  obtain ⟨a6, e6, _⟩ := DataW.trod_bool (by kernel_rfl) (fld (k := 1) (i := 6) hf rfl (by kernel_rfl))
  simp at e0 e1 e2 e3 e4 e5 e6
  subst e0 e1 e2 e3 e4 e5 e6
  exact ⟨a0, a1, a2, a3, a4, a5, a6, rfl⟩
end
end Go.Proofs.YtbpmccfbfpgijaaGreat
