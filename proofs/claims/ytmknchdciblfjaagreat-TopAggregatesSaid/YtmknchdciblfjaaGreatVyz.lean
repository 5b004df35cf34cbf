/- Closed calls that return true, as contracts. -/
import Derived.KernelRfl
import Derived.Below
import Derived.Test.YtmknchdciblfjaaGreatVc
set_option linter.unusedVariables false
namespace Go.Proofs.YtmknchdciblfjaaGreat.Ev
open Go Go.RowKit
theorem named_of {P : Program} (h : (P.funcs.toList.all fun fn => !(fn.name == "runtime.NumGoroutine")) = true) : Named P := by
  intro f fn hf
  have hm : fn ∈ P.funcs.toList := by
    rw [Array.mem_toList_iff]
    exact Array.mem_of_getElem? hf
  have := List.all_eq_true.1 h fn hm
  simpa using this
def yes : Option (RV × S) → Bool
  | some (.val (.bool b), _) => b
  | _ => false
theorem yes_call {P : Program} (N : Nat) (hN : Named P) (hm : P.follows .mixedOrders = true) {f : Nat} (h : yes ((ev P N).call f [] ⟨.nil, 0⟩) = true) (w : World) :
    Calls P f #[] w fun e w' => e = .returned (.bool true) ∧ Below w.heap.size w w' := by
  refine (callsIn_wide (n := 0)).1 (CallsIn.mono (R := fun e W' => e = .returned (.bool true) ∧ w.heap.size ≤ W'.heap.size ∧ (∀ b, b < w.heap.size → W'.heap[b]? = w.heap[b]?) ∧ W'.os = w.os ∧ W'.tape = w.tape ∧ W'.output = w.output) ?_ fun e w' hp => ⟨hp.1, ⟨hp.2.2.2.1, hp.2.2.2.2.1, hp.2.2.2.2.2, hp.2.1, hp.2.2.1⟩⟩)
  cases hc : (ev P N).call f [] ⟨.nil, 0⟩ with
  | none => rw [hc] at h; cases h
  | some q =>
    obtain ⟨v, s'⟩ := q
    rw [hc] at h
    cases v with
    | val v =>
      cases v with
      | bool b =>
        have hb : b = true := h
        subst hb
        exact closed_call hN hm hc w
      | _ => cases h
    | _ => cases h
end Go.Proofs.YtmknchdciblfjaaGreat.Ev
/- The evaluator with calls that are known; calls from a given state. -/
set_option linter.unusedVariables false
set_option linter.unusedSimpArgs false
namespace Go.Proofs.YtmknchdciblfjaaGreat.Ev
open Go Go.RowKit
/-- calls that are known: a function, its arguments, its result -/
def withO (O : FuncId → List RV → Option Value) (r : Rec) : Rec := { r with call := fun f args s => match O f args with | some v => some (.val v, s) | none => r.call f args s }
def evO (P : Program) (O : FuncId → List RV → Option Value) (n : Nat) : Rec := Nat.rec Rec.none (fun _ r => withO O (recF P r)) n
/-- what is known is so -/
def Known (P : Program) (O : FuncId → List RV → Option Value) : Prop := ∀ f args v, O f args = some v → (∃ fn, P.funcs[f]? = some fn ∧ fn.body.isSome = true) ∧
  ∀ (m : Mp) us, RVals m args us → ∀ W, Calls P f us.toArray W fun e W' => e = .returned v ∧ Below W.heap.size W W'
theorem known_nil (P : Program) : Known P fun _ _ => none := fun f args v h => by cases h
theorem call_known {P : Program} {O : FuncId → List RV → Option Value} {r : Rec} (hO : Known P O) (h : SCall P r) : SCall P (withO O r) := by
  refine ⟨fun {R f args s v s' m W us} hc hr hf ha => ?_⟩
  have hc' : (match O f args with | some v => some (.val v, s) | none => r.call f args s) = some (v, s') := hc
  cases ho : O f args with
  | none =>
    rw [ho] at hc'
    exact h.ok hc' hr hf ha
  | some u =>
    rw [ho] at hc'
    simp only [Option.some.injEq, Prod.mk.injEq] at hc'
    obtain ⟨rfl, rfl⟩ := hc'
    obtain ⟨h1, h2⟩ := hO f args u ho
    refine ⟨h1, CallsIn.mono ((callsIn_wide (n := 0)).2 (h2 m us ha W)) fun e W' hp => ?_⟩
    obtain ⟨rfl, hB⟩ := hp
    have hk : ∀ b, b < W.heap.size → W'.heap[b]? = W.heap[b]? := fun b hb => hB.block b hb
    refine ⟨m, u, rfl, ⟨.refl m, hB.size, fun b hb _ => hk b hb, fun b hb => .inl hb, hB.os, hB.tape, hB.output⟩, ⟨fun id o hi => ?_, fun id id' o o' p p' a b c d => hr.inj id id' o o' p p' a b c d⟩, hf, .val u⟩
    obtain ⟨p, hp, hor⟩ := hr.obj id o hi
    exact ⟨p, hp, hor.mono (.refl m) (hk _ hor.lt)⟩
theorem all_okO {P : Program} {O : FuncId → List RV → Option Value} (hO : Known P O) (hN : Named P) (hm : P.follows .mixedOrders = true) : ∀ N, SCode P (evO P O N) N ∧ SCall P (evO P O N) ∧ SYield P (evO P O N)
  | 0 => by
    refine ⟨⟨fun h => ?_, fun h => ?_⟩, ⟨fun h => ?_⟩, ⟨fun h => ?_⟩⟩ <;> exact absurd h (by simp [evO, Rec.none])
  | N + 1 => by
    obtain ⟨h1, h2, h3⟩ := all_okO hO hN hm N
    have hd := draw_ok hN h2 h3
    refine ⟨⟨fun {R st c d x d' m k a W} h hD hR => ?_, fun {R st b d x d' m k a W} h hD hR => ?_⟩, call_known hO ⟨fun {R f args s v s' m W us} h hr hf ha => ?_⟩, ⟨fun {R l args s v s' m W us p} h hr hf ha hp => ?_⟩⟩
    · exact code_ok hN h1 h2 h3 hd hm c h hD hR
    · exact rounds_of h1 (fun h hD hR => code_ok hN h1 h2 h3 hd hm b h hD hR) h hD hR
    · exact call_ok (N := N) (fun h hD hR => h1.ok h hD hR) h hr hf ha
    · exact yield_ok (fun h hD hR => h1.ok h hD hR) h hr hf ha hp
/-- a call from a given state -/
theorem call_from {P : Program} {O : FuncId → List RV → Option Value} (hO : Known P O) (hN : Named P) (hm : P.follows .mixedOrders = true) {f N : Nat} {args : List RV} {S0 S1 : S} {v : RV} (h : (evO P O N).call f args S0 = some (v, S1))
    {m : Mp} {W : World} {us : List Value} (hr : Rel m S0.H W.heap) (hf : ∀ id, S0.nx ≤ id → m id = none) (ha : RVals m args us) : Calls P f us.toArray W (VPost (fun _ => False) m S0 W v S1) :=
  (callsIn_wide (n := 0)).1 ((all_okO hO hN hm N).2.1.ok (R := fun _ => False) h hr ⟨hf, fun _ hx => hx.elim⟩ ha).2
end Go.Proofs.YtmknchdciblfjaaGreat.Ev
