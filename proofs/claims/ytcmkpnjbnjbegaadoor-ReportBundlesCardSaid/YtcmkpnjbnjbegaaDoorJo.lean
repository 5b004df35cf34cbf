/- Joined by port.py: XEd XEh -/
import Derived.Test.YtcmkpnjbnjbegaaDoorJg
import Derived.Test.YtcmkpnjbnjbegaaDoorJh
import Derived.WalkSpells
import Derived.Lib.SliceRun
import Derived.Test.YtcmkpnjbnjbegaaDoorJa
import Derived.Test.YtcmkpnjbnjbegaaDoorJb
import Derived.Test.YtcmkpnjbnjbegaaDoorJd
import Derived.Test.YtcmkpnjbnjbegaaDoorJe
set_option linter.unusedVariables false
set_option linter.unusedSimpArgs false
/-! XEd -/
namespace Go.Proofs.YtcmkpnjbnjbegaaDoor
open Go Go.RowKit
attribute [local go_sem] B_getElem B_size B_app B_extract B_get B_toList
def RInts (w : World) (N : Nat) (v : Value) (l : List Int) : Prop :=
  ∃ a c, v = .slice a l.length c ∧ l.length ≤ c ∧ c ≤ maxLen ∧ (a = none → c = 0) ∧ (0 < l.length → ∃ b o, a = some ⟨b, o, none⟩ ∧ b < N ∧ ∀ (i : Nat) (x : Int), l[i]? = some x → w.cell? ⟨b, o + i, none⟩ = some (.int .i64 x))
theorem RInts.keep {w w' : World} {N M : Nat} {v : Value} {l : List Int} (h : RInts w N v l) (k : ∀ b o, b < N → w'.cell? ⟨b, o, none⟩ = w.cell? ⟨b, o, none⟩) (hM : N ≤ M) : RInts w' M v l := by
  obtain ⟨a, c, e1, e2, e3, e4, e5⟩ := h
  refine ⟨a, c, e1, e2, e3, e4, fun hp => ?_⟩
  obtain ⟨b, o, ea, hb, hi⟩ := e5 hp
  exact ⟨b, o, ea, by omega, fun i x hx => (k _ _ hb).trans (hi i x hx)⟩
theorem RInts.below {w w' : World} {N C M : Nat} {v : Value} {l : List Int} (h : RInts w N v l) (k : Below C w w') (hC : N ≤ C) (hM : N ≤ M) : RInts w' M v l :=
  h.keep (fun b o hb => k.cell (p := ⟨b, o, none⟩) (by show b < C; omega)) hM
end Go.Proofs.YtcmkpnjbnjbegaaDoor
/-! XEh -/
namespace Go.Proofs.YtcmkpnjbnjbegaaDoor
open Go Go.RowKit
theorem infoInt : (Tryd.prog.info? 3).map (fun i => (i.zero, i.size, i.bytes)) = some (some (.int .i64 0), 1, 8) := by kernel_rfl
def ints (l : List Int) : List Value := l.map fun x => .int .i64 x
theorem RInts.of_own {w : World} {base n : Nat} {e : TypeId} {v : Value} {l : List Int} (h : w.ownsRow base e 1 v n (ints l)) : RInts w w.heap.size v l := by
  have hl : n = l.length := by have := h.1; simp [ints] at this; omega
  subst hl
  have hh := h
  rcases h.2 with ⟨rfl, hz⟩ | ⟨g, cap, cur, rfl, hb, hg, hn, hm, hs, ht⟩
  · have : l = [] := List.eq_nil_of_length_eq_zero hz
    subst this
    exact ⟨none, 0, rfl, Nat.le_refl _, by simp, fun _ => rfl, fun h => by simp at h⟩
  · have hlt : g < w.heap.size := by
      rcases Nat.lt_or_ge g w.heap.size with h | h
      · exact h
      · rw [Array.getElem?_eq_none h] at hg; cases hg
    refine ⟨_, _, rfl, hn, hm, (fun h => by cases h), fun _ => ⟨g, 0, rfl, hlt, fun i x hx => ?_⟩⟩
    have := own_get hh rfl (j := i) (u := .int .i64 x) (by simp [ints, hx])
    rwa [addN] at this
end Go.Proofs.YtcmkpnjbnjbegaaDoor
