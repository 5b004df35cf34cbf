/- TopMirrorTight: latest: set (printed by gen/g22.py) -/
import Derived.BigQuiet
import Derived.BigRegion
import Derived.Test.YtbpmccfbfpgijaaGreatJt
import Derived.Test.YtbpmccfbfpgijaaGreatNe
import Derived.Test.YtbpmccfbfpgijaaGreatMb
set_option linter.unusedVariables false
set_option linter.unusedSimpArgs false
namespace Go.Proofs.YtbpmccfbfpgijaaGreat
open Go Go.RowKit Iv
attribute [local go_sem] Oper.semAt_some
attribute [local go_sem] B_getElem B_size B_app B_extract B_get B_toList
/-- the row of the latest times: in the block gt, its slice in the box ob -/
def LB (w : World) (ob gt n nt : Nat) (L : List Int) : Prop :=
  w.heap[ob]? = some (.cells #[.slice (some ⟨gt, 0, none⟩) n nt] 22 (0, 0)) ∧ w.heap[gt]? = some (.cells (L.map (Value.int .i64)).toArray 3 (0, 0)) ∧ L.length = n
theorem set_any (ob gt n nt : Nat) (L : List Int) (v : Nat) (t : Int) (w : World) (h : LB w ob gt n nt L) (hv : v < n) (hne : ob ≠ gt) (hn : n ≤ 16) :
    Calls Tryz.prog 38 #[.int .i64 (v : Int), .int .i64 t, .pointer (some ⟨ob, 0, none⟩)] w fun e w' => (∃ r, e = .returned r) ∧ LB w' ob gt n nt (L.set v t) ∧ (∀ B, B ≤ gt → Below B w w') ∧ (∀ q, q ≠ gt → w'.heap[q]? = w.heap[q]?) ∧ w'.heap.size = w.heap.size := by
  obtain ⟨h1, h2, h3⟩ := h
  have c1 := fun o => cellB h1 o
  obtain ⟨x, hx⟩ : ∃ x, L[v]? = some x := ⟨_, List.getElem?_eq_getElem (by omega)⟩
  have c2 : w.cell? ⟨gt, v, none⟩ = some (.int .i64 x) := by rw [cellB h2]; simp [hx]
  have f2 := frozenB h2 v
  have v0 : (0 : Int) ≤ (v : Int) := by omega
  have v1 : (v : Int) < (n : Int) := by omega
  have H1 := Lib.hid h1
  have H2 := Lib.hid h2
  have H3 := Lib.hid h3
  clear hx h2 h3
  go_enter Tryz.func38, Tryz.ntmps38
  go_wp2
  go_end0
  refine ⟨⟨_, rfl⟩, ⟨(Below.heap_setCell _ _ _ _ hne).trans H1.out, ?_, by rw [List.length_set]; exact H3.out⟩, fun B hB => bset (Below.refl _ _) hB, fun q hq => Below.heap_setCell _ _ _ _ hq, by simp⟩
  rw [setB H2.out v (.int .i64 t)]
  simp
end Go.Proofs.YtbpmccfbfpgijaaGreat
