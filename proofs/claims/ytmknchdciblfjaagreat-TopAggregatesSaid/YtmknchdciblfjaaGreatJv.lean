/- Joined by port.py: XQn -/
import Derived.Test.YtmknchdciblfjaaGreatKaz
import Derived.RangeFuncNested
import Derived.RangeFuncBound
import Derived.RangeFuncCalls
import Derived.RangeFuncLeaves
import Derived.RangeFuncBox
import Derived.RangeFuncFrom
import Derived.WalkKit
import Derived.Test.YtmknchdciblfjaaGreatJa
import Derived.Test.YtmknchdciblfjaaGreatJb
import Derived.Test.YtmknchdciblfjaaGreatJd
import Derived.Test.YtmknchdciblfjaaGreatJo
import Derived.Test.YtmknchdciblfjaaGreatJs
set_option linter.unusedVariables false
set_option linter.unusedSimpArgs false
/-! XQn -/
namespace Go.Proofs.YtmknchdciblfjaaGreat
open Go Go.RowKit
section
variable {F : Fence} {n : Nat} {P : Program}
/-- one block that is no cells, at or beyond B, has been turned -/
def Turned (B : Nat) (A A' : World) : Prop := ∃ (l : Nat) (o o' : Obj), B ≤ l ∧ A.heap[l]? = some o ∧ o.isCells = false ∧ o.isWalk = false ∧ A' = A.putObj l o'
def IterS {α : Type} (F : Fence) (n : Nat) (P : Program) (gf : Nat) (lb : Array Value) (encs : α → Array Value) (Ok : List α → α → World → World → Prop) (good : α → Bool) (St Kp : World → World → Prop) (S : List α → Prop) (Sx : Prop) (w : World) : Prop :=
  ∀ (l : Nat) (J : List α → World → Prop) (Jx : World → Prop) (W : World), Below w.heap.size w W → (∀ s A B, J s A → St A B → J s B) → (∀ A B, Jx A → St A B → Jx B) →
    (∀ pre x W0 W1, J pre W0 → Below W0.heap.size W0 W1 → J pre W1 → Ok pre x W0 W1 → good x = true → YieldAt F (n - 1) P l (encs x) W1 fun e W' => e = .returned (.bool true) ∧ J (pre ++ [x]) W' ∧ Kp W1 W') →
    (∀ pre x W0 W1, J pre W0 → Below W0.heap.size W0 W1 → J pre W1 → Ok pre x W0 W1 → good x = false → YieldAt F (n - 1) P l (encs x) W1 fun e W' => e = .returned (.bool false) ∧ Jx W') →
    J [] W → CallsIn F n P gf (#[.func (.yield l) #[] #[]] ++ lb) W fun e W' => (∃ v, e = .returned v) ∧ ((∃ xs, S xs ∧ J xs W') ∨ (Sx ∧ Jx W'))
/-- how a round's body may be left -/
def roundOf {α : Type} (B : Nat) (Kp : World → World → Prop) (g : Bool) (I : List α → World → Prop) (Ix : World → Prop) (xs : List α) (W : World) : Exit → Act → World → Prop
  | .normal, _, W' => KeepsFrom B W W' ∧ g = true ∧ Kp W W' ∧ I xs W'
  | .ret, _, W' => KeepsFrom B W W' ∧ g = false ∧ Ix W'
  | _, _, _ => False
theorem wpIn_range_st {α : Type} {g : Operand} {ps : Array Tmp} {assign body : Code} {Q : Exit → Act → World → Prop} {a : Act} {w : World}
    (hro : F.round = none) (h1 : 1 ≤ n) {gf : Nat} {lb : Array Value} (hg : a.eval g = .func (.func gf) #[] lb) (hFg : F.fn gf) (eg : ∀ args w, (callFunc gf args).run P w = .ok (.enter gf args) w)
    {encs : α → Array Value} {Ok : List α → α → World → World → Prop} {good : α → Bool} {St Kp : World → World → Prop} {S : List α → Prop} {Sx : Prop} {w0 : World} (hit : IterS F (n - 1) P gf lb encs Ok good St Kp S Sx w0)
    (hb0 : Below w0.heap.size w0 w) (hps : ∀ x, (encs x).size = ps.size) (hKt : ∀ {A B C : World}, Kp A B → Kp B C → Kp A C) (hKp : ∀ {A B : World}, Turned w.heap.size A B → Kp A B) (hSt : ∀ {A B : World}, St A B → KeepsFrom w.heap.size A B)
    (I : List α → World → Prop) (Ix : World → Prop) (hIs : ∀ s A B, I s A → St A B → I s B) (hIt : ∀ s A B, I s A → Turned w.heap.size A B → I s B) (hXs : ∀ A B, Ix A → St A B → Ix B) (hXt : ∀ A B, Ix A → Turned w.heap.size A B → Ix B)
    (h0 : ∀ o1 o2, I [] ((w.alloc o1).alloc o2))
    (hround : ∀ (l : Nat) (pre : List α) (x : α) (W0 W : World), w.heap.size ≤ l → (∃ r, W.heap[l]? = some (.loop r)) → I pre W0 → Below W0.heap.size W0 W → I pre W → Ok pre x W0 W →
      assign.wpIn (F.inRound l) (n - 1 - 1) P (Exit.then (fun a' Wa => KeepsFrom w.heap.size W Wa ∧ Kp W Wa ∧ ∀ Wb, Turned w.heap.size Wa Wb → body.wpIn (F.inRound l) (n - 1 - 1) P (roundOf w.heap.size Kp (good x) I Ix (pre ++ [x]) Wb) a' Wb) (fun _ _ _ => False))
        { tmps := (ps.zip (encs x)).foldl (fun t (p, v) => t.setIfInBounds p v) a.tmps, defers := [] } W)
    (hdone : ∀ (D : Nat) (xs : List α) (W : World), w.heap.size ≤ D → S xs → I xs W → W.heap[D]? = some (.deferred (some [])) → Q .normal { a with defers := { target := .collected D, args := #[] } :: a.defers } W)
    (hstop : ∀ (D : Nat) (W : World), w.heap.size ≤ D → Sx → Ix W → W.heap[D]? = some (.deferred (some [])) → Code.wpIn F n P .ret Q { a with defers := { target := .collected D, args := #[] } :: a.defers } W) :
    (Code.rangeFunc g ps assign body).wpIn F n P Q a w := by
  refine wpIn_rangeFunc fun fn hfn => ?_
  rw [hro]
  let rec_ : LoopState → Option Code → Loop := fun st pe => { state := st, pending := pe, fn, tmps := a.tmps, params := ps, assign, body, defers := w.heap.size }
  -- the two blocks of the loop: B (its deferred calls), B + 1 (its record)
  let Two : LoopState → Option Code → World → Prop := fun st pe W => W.heap[w.heap.size + 1]? = some (.loop (rec_ st pe)) ∧ W.heap[w.heap.size]? = some (.deferred (some []))
  have two_keep : ∀ {st pe A B}, Two st pe A → KeepsFrom w.heap.size A B → Two st pe B := fun h k => ⟨k.same _ _ (by omega) h.1 rfl, k.same _ _ (Nat.le_refl _) h.2 rfl⟩
  have two_lt : ∀ {st pe A}, Two st pe A → w.heap.size + 1 < A.heap.size := fun h => (Array.getElem?_eq_some_iff.1 h.1).1
  have two_put : ∀ {st pe st' pe' A}, Two st pe A → Two st' pe' (A.putObj (w.heap.size + 1) (.loop (rec_ st' pe'))) ∧ Turned w.heap.size A (A.putObj (w.heap.size + 1) (.loop (rec_ st' pe'))) := fun h =>
    ⟨⟨World.putObj_heap_same (two_lt h), (World.putObj_heap_other (by omega)).trans h.2⟩, ⟨_, _, _, by omega, h.1, rfl, rfl, rfl⟩⟩
  have hW : Two .ready none ((w.alloc (.deferred (some []))).alloc (.loop (rec_ .ready none))) :=
    ⟨by have := World.alloc_heap_new (w.alloc (.deferred (some []))) (.loop (rec_ .ready none)); rwa [World.size_alloc] at this, (Below.heap_alloc _ _ _ (by simp)).trans (World.alloc_heap_new w _)⟩
  refine ⟨w.heap.size + 1, [{ target := .collected w.heap.size, args := #[] }], _, { target := .fn (.func gf) lb, args := #[.func (.yield (w.heap.size + 1)) #[] #[]] }, _, gf,
    #[.func (.yield (w.heap.size + 1)) #[] #[]] ++ lb, _, run_enterLoop_outer fn a.tmps ps assign body, by simp only [resolve, hg]; simp [go_sem]; rfl, (by intro f' hf'; simp [Target.leads] at hf'; subst hf'; exact hFg), by simp [invoke, go_sem, eg]; rfl, fun _ => h1, ?_⟩
  refine (hit (w.heap.size + 1) (fun pre W => I pre W ∧ Two .ready none W) (fun W => Ix W ∧ Two .done (some .ret) W) _ (balloc0 (balloc0 hb0))
    (fun s A B h k => ⟨hIs s A B h.1 k, two_keep h.2 (hSt k)⟩) (fun A B h k => ⟨hXs A B h.1 k, two_keep h.2 (hSt k)⟩) ?_ ?_ ⟨h0 _ _, hW⟩).mono ?_
  -- the two kinds of rounds
  any_goals
    rintro pre x W0 W ⟨hi0, _⟩ hb01 ⟨hi, ht⟩ hok hgood
    refine ⟨fn, _, assign, body, run_yield (P := P) (args := encs x) ht.1 (hps x), roundIn_of_wpIn hfn (wpIn_mono (hround _ pre x W0 W (by omega) ⟨_, ht.1⟩ hi0 hb01 hi hok) ?_)⟩
    rintro e a' Wa hp
    cases e with
    | normal =>
      obtain ⟨hk, hkp, hb⟩ := hp
      have hta := two_keep ht hk
      obtain ⟨htb, hturn⟩ := two_put (st' := .busy) (pe' := none) hta
      refine ⟨_, run_beginRound hta.1 rfl, wpIn_mono (hb _ hturn) ?_⟩
      rintro e a3 W3 hp
      cases e with
      | normal =>
        obtain ⟨hk3, hg3, hkp3, hi3⟩ := hp
        have ht3 := two_keep htb hk3
        obtain ⟨ht4, hturn4⟩ := two_put (st' := .ready) (pe' := none) ht3
        first
          | exact ⟨_, _, run_endRound (P := P) none ht3.1, rfl, ⟨hIt _ _ _ hi3 hturn4, ht4⟩, hKt hkp (hKt (hKp hturn) (hKt hkp3 (hKp hturn4)))⟩
          | (rw [hgood] at hg3; cases hg3)
      | ret =>
        obtain ⟨hk3, hg3, hi3⟩ := hp
        have ht3 := two_keep htb hk3
        obtain ⟨ht4, hturn4⟩ := two_put (st' := .done) (pe' := some .ret) ht3
        first
          | exact ⟨_, _, run_endRound (P := P) (some .ret) ht3.1, rfl, hXt _ _ hi3 hturn4, ht4⟩
          | (rw [hgood] at hg3; cases hg3)
      | _ => exact hp.elim
    | _ => exact hp.elim
  -- behind the iterator
  rintro e W2 ⟨⟨v, rfl⟩, (⟨xs, hS, hi, ht⟩ | ⟨hSx, hi, ht⟩)⟩
  · obtain ⟨ht3, hturn3⟩ := two_put (st' := .exhausted) (pe' := none) ht
    exact ⟨none, _, run_endLoop (P := P) ht.1 (by simp [rec_]), hdone _ xs _ (Nat.le_refl _) hS (hIt _ _ _ hi hturn3) ht3.2⟩
  · obtain ⟨ht3, hturn3⟩ := two_put (st' := .exhausted) (pe' := some .ret) ht
    exact ⟨some .ret, _, run_endLoop (P := P) ht.1 (by simp [rec_]), hstop _ _ (Nat.le_refl _) hSx (hXt _ _ hi hturn3) ht3.2⟩
end
end Go.Proofs.YtmknchdciblfjaaGreat
