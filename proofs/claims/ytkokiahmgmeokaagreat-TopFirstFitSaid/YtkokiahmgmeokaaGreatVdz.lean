/- Closed calls that return true, as contracts. -/
import Derived.KernelRfl
import Derived.Below
import Derived.Test.YtkokiahmgmeokaaGreatVc
import Derived.Test.YtkokiahmgmeokaaGreatProg
set_option linter.unusedVariables false
namespace Go.Proofs.YtkokiahmgmeokaaGreat.Ev
open Go Go.RowKit
theorem named_of {P : Program} (h : (P.funcs.toList.all fun fn => !(fn.name == "runtime.NumGoroutine")) = true) : Named P := by
  intro f fn hf
  have hm : fn ∈ P.funcs.toList := by
    rw [Array.mem_toList_iff]
    exact Array.mem_of_getElem? hf
  have := List.all_eq_true.1 h fn hm
  simpa using this
def yes : Option (RV × S) → Bool
  | some (.val (.bool b), _) => b
  | _ => false
theorem yes_call {P : Program} (N : Nat) (hN : Named P) (hm : P.follows .mixedOrders = true) {f : Nat} (h : yes ((ev P N).call f [] ⟨.nil, 0⟩) = true) (w : World) :
    Calls P f #[] w fun e w' => e = .returned (.bool true) ∧ Below w.heap.size w w' := by
  refine (callsIn_wide (n := 0)).1 (CallsIn.mono (R := fun e W' => e = .returned (.bool true) ∧ w.heap.size ≤ W'.heap.size ∧ (∀ b, b < w.heap.size → W'.heap[b]? = w.heap[b]?) ∧ W'.os = w.os ∧ W'.tape = w.tape ∧ W'.output = w.output) ?_ fun e w' hp => ⟨hp.1, ⟨hp.2.2.2.1, hp.2.2.2.2.1, hp.2.2.2.2.2, hp.2.1, hp.2.2.1⟩⟩)
  cases hc : (ev P N).call f [] ⟨.nil, 0⟩ with
  | none => rw [hc] at h; cases h
  | some q =>
    obtain ⟨v, s'⟩ := q
    rw [hc] at h
    cases v with
    | val v =>
      cases v with
      | bool b =>
        have hb : b = true := h
        subst hb
        exact closed_call hN hm hc w
      | _ => cases h
    | _ => cases h
end Go.Proofs.YtkokiahmgmeokaaGreat.Ev
/- The example of layer 45: it returns true. -/
namespace Go.Proofs.YtkokiahmgmeokaaGreat
open Go Go.RowKit
theorem awake45 (w : World) : Calls Tryz.prog 7 #[] w fun e w' => e = .returned (.bool true) ∧ Below w.heap.size w w' :=
  Ev.yes_call 2000 (Ev.named_of (by kernel_rfl)) (by kernel_rfl) (by kernel_rfl) w
end Go.Proofs.YtkokiahmgmeokaaGreat
