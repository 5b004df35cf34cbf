/- Small laws on a block of the heap. -/
import Derived.RangeFuncBox
import Derived.RangeFuncFrom
import Derived.Laws.Rows
import Derived.Laws.Tables
import Derived.Test.YtdnbegcebloodaaQ
set_option linter.unusedVariables false
namespace Go.Proofs.Ytdnbegcebloodaa
open Go Go.RowKit
theorem cellB {w : World} {g : Nat} {t : TypeId} {cs : Array Value} (h : w.heap[g]? = some (.cells cs t (0, 0))) (o : Nat) : w.cell? ⟨g, o, none⟩ = cs[o]? := cell_of_row w g o cs t (0, 0) h
theorem frozenB {w : World} {g : Nat} {t : TypeId} {cs : Array Value} (h : w.heap[g]? = some (.cells cs t (0, 0))) (o : Nat) : w.frozen? ⟨g, o, none⟩ = false := by simp [World.frozen?, h]
theorem setB {w : World} {g : Nat} {t : TypeId} {cs : Array Value} (h : w.heap[g]? = some (.cells cs t (0, 0))) (o : Nat) (u : Value) : (w.setCell ⟨g, o, none⟩ u).heap[g]? = some (.cells (cs.setIfInBounds o u) t (0, 0)) := by
  simp [World.setCell, Array.getElem?_modify, h]
/-- a growth whose row is no block of cells keeps every block of cells -/
theorem ownC {A B' : World} {row : Option Nat} {Pr : Nat → Prop} (hg : A.grownBy B' row) (hr : ∀ r, row = some r → Pr r ∧ ∃ o : Obj, A.heap[r]? = some o ∧ o.isCells = false) (q : Nat) (cs : Array Value) (e : TypeId) (f : Nat × Nat) (hq : A.heap[q]? = some (.cells cs e f)) : B'.heap[q]? = A.heap[q]? := by
  have hlt : q < A.heap.size := by
    rcases Nat.lt_or_ge q A.heap.size with h | h
    · exact h
    · rw [Array.getElem?_eq_none h] at hq; cases hq
  refine hg.block q hlt (fun e' => ?_)
  obtain ⟨_, o, ho, hc⟩ := hr q e'.symm
  rw [hq] at ho
  injection ho with ho
  subst ho
  cases hc

theorem own_kept {W W' : World} {base : Nat} {e : TypeId} {size n : Nat} {v : Value} {xs : List Value} (h : W.ownsRow base e size v n xs) (k : ∀ q, base ≤ q → ∀ cs e f, W.heap[q]? = some (.cells cs e f) → W'.heap[q]? = W.heap[q]?) : W'.ownsRow base e size v n xs :=
  ⟨h.1, h.2.imp id fun ⟨g, cap, cur, hv, hb, hg, r⟩ => ⟨g, cap, cur, hv, hb, by rw [k g hb _ _ _ hg]; exact hg, r⟩⟩
theorem own_cells {W : World} {base : Nat} {e : TypeId} {size n : Nat} {v : Value} {xs : List Value} (h : W.ownsRow base e size v n xs) : ∀ q, v.ownBlock = some q → ∃ cs, W.heap[q]? = some (.cells cs e (0, 0)) := by
  intro q hq
  rcases h.2 with ⟨rfl, _⟩ | ⟨g, cap, cur, rfl, _, hg, _⟩
  · cases hq
  · have : g = q := Option.some.inj hq
    subst this
    exact ⟨cur, hg⟩
/-- the cells of a row that is owned -/
theorem own_get {W : World} {base : Nat} {e : TypeId} {size n : Nat} {v : Value} {xs : List Value} (h : W.ownsRow base e size v n xs) {a : Addr} {m c : Nat} (hv : v = .slice (some a) m c) {j : Nat} {u : Value} (hj : xs[j]? = some u) : W.cell? (a.add j) = some u := by
  rcases h.2 with ⟨h1, _⟩ | ⟨g, cap, cur, h1, _, hg, _, _, _, hx⟩
  · rw [h1] at hv; cases hv
  · rw [h1] at hv
    injection hv with hv _ _
    injection hv with hv
    subst hv
    rw [← hx] at hj
    show W.cell? ((⟨g, 0, none⟩ : Addr).add j) = _
    have : (⟨g, 0, none⟩ : Addr).add j = ⟨g, j, none⟩ := by unfold Addr.add; split <;> simp_all
    rw [this, cellB hg]
    rw [List.getElem?_take] at hj
    split at hj
    · simpa using hj
    · cases hj
end Go.Proofs.Ytdnbegcebloodaa
