/- A region that draws its order, walked in one given order up to a fork: two operations that may come in either order; then each way in one order. -/
import Derived.Test.YtdnbegcebloodaaR
set_option linter.unusedVariables false
namespace Go.Proofs.Ytdnbegcebloodaa
open Go Go.RowKit

section
variable {P : Program} {ops : Array Oper} {Q : Exit → Act → World → Prop} {md : Region.Mode} {S : World → Prop} {kd : List Nat}

def wpPlanR (P : Program) (ops : Array Oper) (S : World → Prop) (kd : List Nat) (R : Act → World → Prop) : List Nat → Act → World → Prop
  | [], a, w => R a w
  | i :: r, a, w =>
    match ops[i]? with
    | none => False
    | some o => ∃ v, YieldsIf P ops (fun w => kd.getD i 2 = 1 → S w) o v a ∧ wpPlanR P ops S kd R r (a.put o.dst v) w
def listAll : List Nat → Array Bool → Array Bool
  | [], l => l
  | i :: r, l => listAll r (l.setIfInBounds i true)
def planRB (md : Region.Mode) (ops : Array Oper) (kd : List Nat) : List Nat → Array Bool → Bool
  | [], _ => true
  | i :: r, listed => decide (kd.getD i 2 ≤ 1) && (Region.ready md ops listed).contains i && Region.free md ops listed i && planRB md ops kd r (listed.setIfInBounds i true)

theorem wpAnyM_of_planR (hB : lateB md ops kd = true) (hB2 : smallB kd = true) (hsel : Region.noSelect ops = true) (hQ : ∀ c a a' w, Q (.panic c) a w → Q (.panic c) a' w) {R : Act → World → Prop} {m : Nat} :
    ∀ (l : List Nat) (listed : Array Bool) (a : Act) (w : World), Closed md ops listed → planRB md ops kd l listed = true → (Live kd listed → S w) →
      (∀ a' w', Closed md ops (listAll l listed) → (Live kd (listAll l listed) → S w') → R a' w' → wpAnyM P md ops Q S kd m (listAll l listed) a' w') → wpPlanR P ops S kd R l a w → wpAnyM P md ops Q S kd (l.length + m) listed a w
  | [], listed, a, w, hc, _, hS, hR, h => by rw [List.length_nil, Nat.zero_add]; exact hR a w hc hS h
  | i :: r, listed, a, w, hc, hp, hS, hR, h => by
    simp only [planRB, Bool.and_eq_true, decide_eq_true_eq] at hp
    unfold wpPlanR at h
    cases ho : ops[i]? with
    | none => rw [ho] at h; exact h.elim
    | some o =>
      rw [ho] at h
      obtain ⟨v, hy, h'⟩ := h
      have hr : i ∈ Region.ready md ops listed := by simpa using hp.1.1.2
      rw [show (i :: r).length + m = (r.length + m) + 1 by simp; omega]
      refine wpAnyM_first hB hB2 ho hp.1.1.1 (Region.noSelect_spec hsel) (fun c a w => hQ c _ _ w) (r.length + m) listed a w hc (Region.free_spec ho hp.1.2) hr hy hS ?_
      exact wpAnyM_of_planR hB hB2 hsel hQ r _ _ _ (hc.set hr) hp.2 (fun hl => hS (live_set hl)) hR h'

def forkB (md : Region.Mode) (ops : Array Oper) (kd l : List Nat) (i j : Nat) (r1 r2 : List Nat) : Bool :=
  lateB md ops kd && smallB kd && Region.noSelect ops && decide (l.length + (r1.length + 1) = ops.size) && decide (r1.length = r2.length) && decide (kd.getD i 2 = 2) && decide (kd.getD j 2 = 2) &&
  planRB md ops kd l (Array.replicate ops.size false) && decide (Region.ready md ops (listAll l (Array.replicate ops.size false)) = [i, j]) &&
  planB md ops kd r1 ((listAll l (Array.replicate ops.size false)).setIfInBounds i true) && planB md ops kd r2 ((listAll l (Array.replicate ops.size false)).setIfInBounds j true)

theorem wp_region_fork {id : Nat} {a : Act} {w : World} (S : World → Prop) (kd l : List Nat) (i j : Nat) (r1 r2 : List Nat) (hm : P.follows .mixedOrders = true) (hB : forkB .any ops kd l i j r1 r2 = true)
    (hS : S w.drew) (h : wpPlanR P ops S kd (fun a w => wpOp P ops (Calm Q) i (fun a' w' => S w' ∧ wpPlan P ops (Calm Q) S kd r1 a' w') a w ∧ wpOp P ops (Calm Q) j (fun a' w' => S w' ∧ wpPlan P ops (Calm Q) S kd r2 a' w') a w) l a w.drew) : (Code.region id ops true).wp P Q a w := by
  simp only [forkB, Bool.and_eq_true, decide_eq_true_eq] at hB
  obtain ⟨⟨⟨⟨⟨⟨⟨⟨⟨⟨h1, h2⟩, h3⟩, h4⟩, h5⟩, h6⟩, h7⟩, h8⟩, h9⟩, h10⟩, h11⟩ := hB
  refine Code.wp_mono Calm.imp (wp_region_any hm (wpAny_of_M (S := S) (kd := kd) _ _ _ _ ?_))
  rw [← h4]
  refine wpAnyM_of_planR h1 h2 h3 (fun _ _ _ _ h => h) l _ a _ (fun j oj _ hl => ?_) (by rw [h4]; exact h8) (fun _ => hS) (fun a' w' hc hL hR => ?_) h
  · rw [getD_replicate_false] at hl; cases hl
  · rw [h4] at hc hL ⊢
    have hready := h9
    refine ⟨(fun h0 => by rw [hready] at h0; cases h0), fun k hk => ?_⟩
    have hk' : k = i ∨ k = j := by rw [hready] at hk; simpa using hk
    rcases hk' with rfl | rfl
    · refine wpOp_mono (fun a2 w2 h' => ?_) hR.1
      have ht : Turns kd S k w' w2 := ⟨fun hle => by omega, fun _ => h'.1⟩
      exact ⟨ht, wpAnyM_of_plan h1 h2 h3 (fun _ _ _ _ h => h) r1 _ _ _ (hc.set hk) h10 (live_turn h1 hc hk hL ht (small_spec h2 k)) h'.2⟩
    · refine wpOp_mono (fun a2 w2 h' => ?_) hR.2
      have ht : Turns kd S k w' w2 := ⟨fun hle => by omega, fun _ => h'.1⟩
      rw [h5]
      exact ⟨ht, wpAnyM_of_plan h1 h2 h3 (fun _ _ _ _ h => h) r2 _ _ _ (hc.set hk) h11 (live_turn h1 hc hk hL ht (small_spec h2 k)) h'.2⟩

theorem planR_held {l rl : List Oper} {R : Act → World → Prop} {i : Nat} {r : List Nat} {o : Oper} {v : Value} {a : Act} {w : World} (hd : l.drop i = o :: rl) (hw : Region.wanted o (yielded l.toArray a.tmps) = true)
    (hy : ∀ w, (kd.getD i 2 = 1 → S w) → (execOp a.eval o).run P w = .ok (.value v) w) (h : wpPlanR P l.toArray S kd R r (a.put o.dst v) w) : wpPlanR P l.toArray S kd R (i :: r) a w := by
  have ho := drop_get hd
  unfold wpPlanR
  rw [ho]
  exact ⟨v, .inl ⟨hw, hy⟩, h⟩
theorem fork_op {l rl : List Oper} {i : Nat} {r : List Nat} {o : Oper} {a : Act} {w : World} (hd : l.drop i = o :: rl) (hw : Region.wanted o (yielded l.toArray a.tmps) = true)
    (h : ∀ K : Act → World → Prop, (∀ a' w', S w' → wpPlan P l.toArray Q S kd r a' w' → K a' w') → Oper.wp P o a w K Q) : wpOp P l.toArray Q i (fun a' w' => S w' ∧ wpPlan P l.toArray Q S kd r a' w') a w := by
  have ho := drop_get hd
  unfold wpOp
  simp only [ho, hw, if_true]
  exact .inl (h _ fun a' w' h1 h2 => ⟨h1, h2⟩)
end
end Go.Proofs.Ytdnbegcebloodaa
