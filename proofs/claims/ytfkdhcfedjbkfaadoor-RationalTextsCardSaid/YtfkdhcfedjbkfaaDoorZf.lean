/- Layer 4 (rational), the texts' laws: what is laid; the arguments opened. -/
import Derived.Test.YtfkdhcfedjbkfaaDoorZe
import Derived.Lib.LaidTab
import Derived.LaidLaws
import Derived.LaidSub
set_option linter.unusedVariables false
set_option linter.unusedSimpArgs false
namespace Go.Proofs.YtfkdhcfedjbkfaaDoor
open Go Go.RowKit
attribute [local go_sem] B_getElem B_size B_app B_extract B_get B_toList

def Says (w : World) (e : Ending) (w' : World) : Prop := e = .returned (.bool true) ∧ Below w.heap.size w w'
theorem eqRat (an ad bn bd : Int) (w : World) : Sem.run Tryd.prog (Go.binOp .eql 23 (.agg #[.int .i64 an, .int .i64 ad]) (.agg #[.int .i64 bn, .int .i64 bd])) w = .ok (.bool (an == bn && ad == bd)) w := by
  go_simp
  by_cases h : an = bn <;> by_cases k : ad = bd <;> simp [h, k]
theorem neRat (an ad bn bd : Int) (w : World) : Sem.run Tryd.prog (Go.binOp .neq 23 (.agg #[.int .i64 an, .int .i64 ad]) (.agg #[.int .i64 bn, .int .i64 bd])) w = .ok (.bool (!(an == bn && ad == bd))) w := by
  go_simp
  by_cases h : an = bn <;> by_cases k : ad = bd <;> simp [h, k]
/-- what the two rows list -/
def laid5 : List (String × DataW Unit) := Rows.rationalTextsRow.laid
theorem laid5_pow : (laid5.filter fun x => x.2.handleName?.isNone).filter (fun x => x.1 == "internal/strconv.uint64pow10") = [("internal/strconv.uint64pow10", Lib.tabData .u64 Lib.pow10Tab)] := by kernel_rfl
theorem gP2 : Tryd.prog.globalNamed "internal/strconv.uint64pow10" = some 0 := by kernel_rfl
theorem tyP : (Tryd.prog.globals[0]?).map (·.type) = some 57 := by kernel_rfl
theorem tabs_of_laid {W : World} (h : laidMetH Tryd.prog laid5 W) : Tabs W := by
  have h1 := (laidMetH_iff.1 h).1
  have p1 := h1.filter (fun x => x.1 == "internal/strconv.uint64pow10")
  rw [laid5_pow] at p1
  exact Lib.tabIs_of_head gP2 tyP (by kernel_rfl : _ = some (TypeDesc.array 20 41)) (by kernel_rfl) (by kernel_rfl) (by kernel_rfl) p1
/-- A world that meets the condition: the settled one, the tables laid. -/
noncomputable def laidWorld (os : Os) : World :=
  let w0 := World.holding Tryd.prog os ⟨#[], #[], []⟩
  { w0 with heap := (((w0.heap.modify 0 fun
      | .cells _ t fr => .cells (Lib.pow10Tab.map fun z => Value.int .u64 z).toArray t fr
      | o => o).modify 1 fun
      | .cells _ t fr => .cells (([0, 1, 28, 2, 29, 14, 24, 3, 30, 22, 20, 15, 25, 17, 4, 8, 31, 27, 13, 23, 21, 19, 16, 7, 26, 12, 18, 6, 11, 5, 10, 9] : List Int).map fun z => Value.int .u8 z).toArray t fr
      | o => o).modify 2 fun
      | .cells _ t fr => .cells (([0, 1, 56, 2, 57, 49, 28, 3, 61, 58, 42, 50, 38, 29, 17, 4, 62, 47, 59, 36, 45, 43, 51, 22, 53, 39, 33, 30, 24, 18, 12, 5, 63, 55, 48, 27, 60, 41, 37, 16, 46, 35, 44, 21, 52, 32, 23, 11, 54, 26, 40, 15, 34, 20, 31, 10, 25, 14, 19, 9, 13, 8, 7, 6] : List Int).map fun z => Value.int .u8 z).toArray t fr
      | o => o) }
theorem laid_met (os : Os) (args : Array Value) : laidMetH Tryd.prog laid5 ((laidWorld os).forCall (fun _ _ => 0) ⟨#[], args, []⟩).memory :=
  laidMetH_iff.2 ⟨by
    have e : (laid5.filter fun x => x.2.handleName?.isNone) = laid5 := by kernel_rfl
    rw [e]
    exact laidMet_of_run' 8 (by kernel_rfl) (by kernel_rfl), fun x hx => by
    have e : (laid5.filter fun x => x.2.handleName?.isSome) = [] := by kernel_rfl
    rw [e] at hx; cases hx⟩
end Go.Proofs.YtfkdhcfedjbkfaaDoor
namespace Go.Proofs.YtfkdhcfedjbkfaaDoor
open Go Go.ChangeShapes Go.WideShapes Go.ChangeAt Go.RowKit Go.Joins
section
variable {H : Type} {enc : TypeId × Value → H} {w : World} {base : Nat} {spare : Nat → Bool} {held : Bool}
set_option maxRecDepth 100000 in
theorem open_str_arg {r : Reach} {b0 : Nat} {v : Value} {d : DataW H} {p : List MemPlace} (hv : Value.okWide Tryd.prog w r b0 9 v) (h : DataW.Trod enc Tryd.prog w base spare held 9 v d p) :
    ∃ l : List UInt8, v = .string (B l) ∧ l.length ≤ maxLen := by
  obtain ⟨s, rfl, _, _, hs⟩ := Go.ChangeMaps.open_string Tryd.underlying9 hv h
  exact ⟨s.data.toList, rfl, by simpa using hs⟩
theorem bd64 (n : Int) (h : (Lit.int .i64 n).wf = true) : -9223372036854775808 ≤ n ∧ n ≤ 9223372036854775807 := by
  simpa [Lit.wf, IntKind.min, IntKind.max, IntKind.signed, IntKind.bits] using h
set_option maxRecDepth 100000 in
theorem open_rat_arg {r : Reach} {b0 : Nat} {v : Value} {d : DataW H} {p : List MemPlace} (hv : Value.okWide Tryd.prog w r b0 23 v) (h : DataW.Trod enc Tryd.prog w base spare held 23 v d p) :
    ∃ n d : Int, v = .agg #[.int .i64 n, .int .i64 d] ∧ (-9223372036854775808 ≤ n ∧ n ≤ 9223372036854775807) ∧ (-9223372036854775808 ≤ d ∧ d ≤ 9223372036854775807) := by
  obtain ⟨c0, c1, y0, y1, m, rfl, _, _, hy0, hy1⟩ := open_agg2 Tryd.underlying23 (by kernel_rfl) (by kernel_rfl) hv h
  obtain ⟨a, e0, _, wa⟩ := DataW.trod_int Tryd.underlying3 hy0
  obtain ⟨b, e1, _, wb⟩ := DataW.trod_int Tryd.underlying3 hy1
  simp at e0 e1
  subst e0 e1
  exact ⟨a, b, rfl, bd64 a wa, bd64 b wb⟩
end
end Go.Proofs.YtfkdhcfedjbkfaaDoor
