/- Joined by port.py: XSt XSx -/
import Derived.Test.YtmknchdciblfjaaGreatJb
import Derived.Deep.MidRow
import Derived.Test.YtmknchdciblfjaaGreatJa
import Derived.Test.YtmknchdciblfjaaGreatJd
import Derived.Test.YtmknchdciblfjaaGreatJo
set_option linter.unusedVariables false
set_option linter.unusedSimpArgs false
/-! XSt -/
namespace Go.Proofs.YtmknchdciblfjaaGreat
open Go Go.RowKit
def setAll (cs : Array Value) (o : Nat) : List Value → Array Value
  | [] => cs
  | v :: r => setAll (cs.setIfInBounds o v) (o + 1) r
theorem setAll_heap (g : Nat) (t : TypeId) : ∀ (vs : List Value) (o : Nat) (w : World) (cs : Array Value), w.heap[g]? = some (.cells cs t (0, 0)) → (w.setCells g o vs).heap[g]? = some (.cells (setAll cs o vs) t (0, 0))
  | [], o, w, cs, h => h
  | v :: r, o, w, cs, h => by
    rw [World.setCells, setAll]
    exact setAll_heap g t r (o + 1) _ _ (setB h o v)
theorem setAll_get : ∀ (vs : List Value) (o : Nat) (cs : Array Value) (j : Nat), o + vs.length ≤ cs.size → (setAll cs o vs)[j]? = if o ≤ j ∧ j < o + vs.length then vs[j - o]? else cs[j]?
  | [], o, cs, j, _ => by rw [setAll, if_neg (by simp only [List.length_nil]; omega)]
  | v :: r, o, cs, j, h => by
    simp only [List.length_cons] at h
    rw [setAll, setAll_get r (o + 1) _ j (by rw [Array.size_setIfInBounds]; omega)]
    by_cases hj : j = o
    · subst hj
      rw [if_neg (by omega), if_pos (by simp only [List.length_cons]; omega), Nat.sub_self, List.getElem?_cons_zero, Array.getElem?_setIfInBounds_self_of_lt (by omega)]
    · by_cases hk : o + 1 ≤ j ∧ j < o + 1 + r.length
      · rw [if_pos hk, if_pos (by simp only [List.length_cons]; omega), show j - o = (j - (o + 1)) + 1 by omega, List.getElem?_cons_succ]
      · rw [if_neg hk, if_neg (by simp only [List.length_cons]; omega)]
        rw [Array.getElem?_setIfInBounds_ne (by omega)]
theorem setAll_all {vs : List Value} {cs : Array Value} (h : vs.length = cs.size) : setAll cs 0 vs = vs.toArray := by
  apply Array.ext_getElem?
  intro j
  rw [setAll_get vs 0 cs j (by omega)]
  by_cases hj : j < vs.length
  · rw [if_pos (by omega)]; simp
  · rw [if_neg (by omega), Array.getElem?_eq_none (by omega), Array.getElem?_eq_none (by simp; omega)]
theorem setCells_below (g : Nat) : ∀ (vs : List Value) (o : Nat) (w : World) (B : Nat), B ≤ g → Below B w (w.setCells g o vs)
  | [], o, w, B, _ => Below.refl _ _
  | v :: r, o, w, B, h => by
    rw [World.setCells]
    exact (bset (Below.refl _ _) (by simpa using h)).trans (setCells_below g r (o + 1) _ B h)
theorem setCells_size (g : Nat) : ∀ (vs : List Value) (o : Nat) (w : World), (w.setCells g o vs).heap.size = w.heap.size
  | [], o, w => rfl
  | v :: r, o, w => by
    rw [World.setCells, setCells_size g r]; simp
theorem setCells_other (g q : Nat) (hq : q ≠ g) : ∀ (vs : List Value) (o : Nat) (w : World), (w.setCells g o vs).heap[q]? = w.heap[q]?
  | [], o, w => rfl
  | v :: r, o, w => by
    rw [World.setCells, setCells_other g q hq r]
    exact heap_setCell_other w _ q v hq
theorem wpList_store_block {P : Program} {ops : Array Oper} {rest : List Oper} {op : Oper} {a : Act} {w : World} {Q : Exit → Act → World → Prop} (hgd : op.guard = none) (ty : TypeId) (x y : Operand) (ho : op.op = .store ty x y)
    (g : Nat) (cells cs : Array Value) (t : TypeId) (hx : a.eval x = .pointer (some ⟨g, 0, none⟩)) (hy : a.eval y = .agg cells) (hg : w.heap[g]? = some (.cells cs t (0, 0))) (hsz : cells.size = cs.size)
    (hi : (P.info? ty).map (·.size) = some cells.size) (h1 : ∀ v ∈ cells.toList, v.oneCell' = true)
    (h : ∀ W, W.heap[g]? = some (.cells cells t (0, 0)) → (∀ B, B ≤ g → Below B w W) → W.heap.size = w.heap.size → (∀ q, q ≠ g → W.heap[q]? = w.heap[q]?) → wpList P ops Q rest (a.put op.dst undef) W) :
    wpList P ops Q (op :: rest) a w := by
  refine wpList_store_mid hgd ty x y ho g 0 cells hx hy (fun j hj => ?_) hi (Array.all_eq_true_iff_forall_mem.2 (fun v hv => h1 v (by simpa using hv))) (h _ ?_ (fun B hB => setCells_below g _ _ _ B hB) (setCells_size g _ _ _) (fun q hq => setCells_other g q hq _ _ _))
  · rw [Nat.zero_add, cellB hg, frozenB hg]
    exact ⟨by rw [Array.getElem?_eq_getElem (by omega)]; rfl, rfl⟩
  · have := setAll_heap g t cells.toList 0 w cs hg
    rw [setAll_all (by simpa using hsz)] at this
    simpa using this
end Go.Proofs.YtmknchdciblfjaaGreat
/-! XSx -/
namespace Go.Proofs.YtmknchdciblfjaaGreat
open Go Go.RowKit
theorem wp_store_block {P : Program} {op : Oper} {a : Act} {w : World} {K : Act → World → Prop} {Q : Exit → Act → World → Prop} (ty : TypeId) (x y : Operand) (ho : op.op = .store ty x y)
    (g : Nat) (cells cs : Array Value) (t : TypeId) (hx : a.eval x = .pointer (some ⟨g, 0, none⟩)) (hy : a.eval y = .agg cells) (hg : w.heap[g]? = some (.cells cs t (0, 0))) (hsz : cells.size = cs.size)
    (hi : (P.info? ty).map (·.size) = some cells.size) (h1 : ∀ v ∈ cells.toList, v.oneCell' = true)
    (h : ∀ W, W.heap[g]? = some (.cells cells t (0, 0)) → (∀ B, B ≤ g → Below B w W) → W.heap.size = w.heap.size → (∀ q, q ≠ g → W.heap[q]? = w.heap[q]?) → K (a.put op.dst undef) W) : op.wp P a w K Q := by
  refine wp_store_mid ty x y ho g 0 cells hx hy (fun j hj => ?_) hi (Array.all_eq_true_iff_forall_mem.2 (fun v hv => h1 v (by simpa using hv))) (h _ ?_ (fun B hB => setCells_below g _ _ _ B hB) (setCells_size g _ _ _) (fun q hq => setCells_other g q hq _ _ _))
  · rw [Nat.zero_add, cellB hg, frozenB hg]
    exact ⟨by rw [Array.getElem?_eq_getElem (by omega)]; rfl, rfl⟩
  · have := setAll_heap g t cells.toList 0 w cs hg
    rw [setAll_all (by simpa using hsz)] at this
    simpa using this
end Go.Proofs.YtmknchdciblfjaaGreat
