/- A whole struct stored into a block that is known whole, as one operation. -/
import Derived.Test.YthedoidpapodgaaSt
set_option linter.unusedVariables false
namespace Go.Proofs.Ythedoidpapodgaa
open Go Go.RowKit
theorem wp_store_block {P : Program} {op : Oper} {a : Act} {w : World} {K : Act → World → Prop} {Q : Exit → Act → World → Prop} (ty : TypeId) (x y : Operand) (ho : op.op = .store ty x y)
    (g : Nat) (cells cs : Array Value) (t : TypeId) (hx : a.eval x = .pointer (some ⟨g, 0, none⟩)) (hy : a.eval y = .agg cells) (hg : w.heap[g]? = some (.cells cs t (0, 0))) (hsz : cells.size = cs.size)
    (hi : (P.info? ty).map (·.size) = some cells.size) (h1 : ∀ v ∈ cells.toList, v.oneCell' = true)
    (h : ∀ W, W.heap[g]? = some (.cells cells t (0, 0)) → (∀ B, B ≤ g → Below B w W) → W.heap.size = w.heap.size → (∀ q, q ≠ g → W.heap[q]? = w.heap[q]?) → K (a.put op.dst undef) W) : op.wp P a w K Q := by
  refine wp_store_mid ty x y ho g 0 cells hx hy (fun j hj => ?_) hi (Array.all_eq_true_iff_forall_mem.2 (fun v hv => h1 v (by simpa using hv))) (h _ ?_ (fun B hB => setCells_below g _ _ _ B hB) (setCells_size g _ _ _) (fun q hq => setCells_other g q hq _ _ _))
  · rw [Nat.zero_add, cellB hg, frozenB hg]
    exact ⟨by rw [Array.getElem?_eq_getElem (by omega)]; rfl, rfl⟩
  · have := setAll_heap g t cells.toList 0 w cs hg
    rw [setAll_all (by simpa using hsz)] at this
    simpa using this
end Go.Proofs.Ythedoidpapodgaa
