/- Joined by port.py: XRT -/
import Derived.Test.YtmknchdciblfjaaGreatJa
import Derived.Test.YtmknchdciblfjaaGreatJb
import Derived.Test.YtmknchdciblfjaaGreatJd
import Derived.Test.YtmknchdciblfjaaGreatJe
import Derived.Test.YtmknchdciblfjaaGreatKaz
import Derived.Test.YtmknchdciblfjaaGreatSz
import Derived.Test.YtmknchdciblfjaaGreatSi
set_option linter.unusedVariables false
set_option linter.unusedSimpArgs false
/-! XRT -/
namespace Go.Proofs.YtmknchdciblfjaaGreat
open Go Go.RowKit
inductive PT where
  | fin : PT
  | go (i : Nat) (t : PT) : PT
  | br2 (i j : Nat) (t u : PT) : PT
  | br3 (i j k : Nat) (t u v : PT) : PT
def PT.size : PT → Nat
  | .fin => 0
  | .go _ t => t.size + 1
  | .br2 _ _ t _ => t.size + 1
  | .br3 _ _ _ t _ _ => t.size + 1
section
variable {P : Program} {ops : Array Oper} {Q : Exit → Act → World → Prop} {md : Region.Mode} {S : World → Prop} {kd : List Nat}
def treeB (md : Region.Mode) (ops : Array Oper) (kd : List Nat) : PT → Array Bool → Bool
  | .fin, listed => (Region.ready md ops listed).isEmpty
  | .go i t, listed => (if kd.getD i 2 ≤ 1 then (Region.ready md ops listed).contains i && Region.free md ops listed i else decide (Region.ready md ops listed = [i])) && treeB md ops kd t (listed.setIfInBounds i true)
  | .br2 i j t u, listed => decide (Region.ready md ops listed = [i, j]) && decide (kd.getD i 2 = 2) && decide (kd.getD j 2 = 2) && decide (t.size = u.size) && treeB md ops kd t (listed.setIfInBounds i true) && treeB md ops kd u (listed.setIfInBounds j true)
  | .br3 i j k t u v, listed => decide (Region.ready md ops listed = [i, j, k]) && decide (kd.getD i 2 = 2) && decide (kd.getD j 2 = 2) && decide (kd.getD k 2 = 2) && decide (t.size = u.size) && decide (t.size = v.size) && treeB md ops kd t (listed.setIfInBounds i true) && treeB md ops kd u (listed.setIfInBounds j true) && treeB md ops kd v (listed.setIfInBounds k true)
def wpTree (P : Program) (ops : Array Oper) (Q : Exit → Act → World → Prop) (S : World → Prop) (kd : List Nat) : PT → Act → World → Prop
  | .fin, a, w => Q .normal a w
  | .go i t, a, w =>
    match ops[i]? with
    | none => False
    | some o =>
      if kd.getD i 2 ≤ 1 then ∃ v, YieldsIf P ops (fun w => kd.getD i 2 = 1 → S w) o v a ∧ wpTree P ops Q S kd t (a.put o.dst v) w
      else if kd.getD i 2 = 2 then wpOp P ops Q i (fun a' w' => S w' ∧ wpTree P ops Q S kd t a' w') a w
      else wpOp P ops Q i (wpTree P ops Q S kd t) a w
  | .br2 i j t u, a, w => wpOp P ops Q i (fun a' w' => S w' ∧ wpTree P ops Q S kd t a' w') a w ∧ wpOp P ops Q j (fun a' w' => S w' ∧ wpTree P ops Q S kd u a' w') a w
  | .br3 i j k t u v, a, w => wpOp P ops Q i (fun a' w' => S w' ∧ wpTree P ops Q S kd t a' w') a w ∧ wpOp P ops Q j (fun a' w' => S w' ∧ wpTree P ops Q S kd u a' w') a w ∧ wpOp P ops Q k (fun a' w' => S w' ∧ wpTree P ops Q S kd v a' w') a w
theorem wpAnyM_of_tree (hB : lateB md ops kd = true) (hB2 : smallB kd = true) (hsel : Region.noSelect ops = true) (hQ : ∀ c a a' w, Q (.panic c) a w → Q (.panic c) a' w) :
    ∀ (t : PT) (listed : Array Bool) (a : Act) (w : World), Closed md ops listed → treeB md ops kd t listed = true → (Live kd listed → S w) → wpTree P ops Q S kd t a w → wpAnyM P md ops Q S kd t.size listed a w
  | .fin, listed, a, w, _, hp, _, h => ⟨by simpa [treeB] using hp, h⟩
  | .go i t, listed, a, w, hc, hp, hS, h => by
    simp only [treeB, Bool.and_eq_true] at hp
    unfold wpTree at h
    cases ho : ops[i]? with
    | none => rw [ho] at h; exact h.elim
    | some o =>
      rw [ho] at h
      simp only at h
      by_cases hk : kd.getD i 2 ≤ 1
      · rw [if_pos hk] at hp h
        obtain ⟨v, hy, h'⟩ := h
        have hr : i ∈ Region.ready md ops listed := by have := hp.1; simp only [Bool.and_eq_true] at this; simpa using this.1
        have hf : Region.free md ops listed i = true := by have := hp.1; simp only [Bool.and_eq_true] at this; exact this.2
        refine wpAnyM_first hB hB2 ho hk (Region.noSelect_spec hsel) (fun c a w => hQ c _ _ w) t.size listed a w hc (Region.free_spec ho hf) hr hy hS ?_
        exact wpAnyM_of_tree hB hB2 hsel hQ t _ _ _ (hc.set hr) hp.2 (fun hl => hS (live_set hl)) h'
      · rw [if_neg hk] at hp h
        have hr : Region.ready md ops listed = [i] := by simpa using hp.1
        have hri : i ∈ Region.ready md ops listed := by rw [hr]; simp
        refine ⟨fun h0 => (by rw [hr] at h0; cases h0), fun j hj => ?_⟩
        have hji : j = i := by rw [hr] at hj; simpa using hj
        subst hji
        by_cases hk2 : kd.getD j 2 = 2
        · rw [if_pos hk2] at h
          refine wpOp_mono (fun a' w' h' => ?_) h
          have ht : Turns kd S j w w' := ⟨fun h1 => absurd h1 hk, fun _ => h'.1⟩
          exact ⟨ht, wpAnyM_of_tree hB hB2 hsel hQ t _ _ _ (hc.set hri) hp.2 (live_turn hB hc hri hS ht (small_spec hB2 j)) h'.2⟩
        · rw [if_neg hk2] at h
          refine wpOp_mono (fun a' w' h' => ?_) h
          have ht : Turns kd S j w w' := ⟨fun h1 => absurd h1 hk, fun h2 => absurd h2 hk2⟩
          exact ⟨ht, wpAnyM_of_tree hB hB2 hsel hQ t _ _ _ (hc.set hri) hp.2 (live_turn hB hc hri hS ht (small_spec hB2 j)) h'⟩
  | .br2 i j t u, listed, a, w, hc, hp, hS, h => by
    simp only [treeB, Bool.and_eq_true, decide_eq_true_eq] at hp
    obtain ⟨⟨⟨⟨⟨hready, hi⟩, hj⟩, hsz⟩, ht⟩, hu⟩ := hp
    unfold wpTree at h
    refine ⟨(fun h0 => by rw [hready] at h0; cases h0), fun q hq => ?_⟩
    have hq' : q = i ∨ q = j := by rw [hready] at hq; simpa using hq
    rcases hq' with rfl | rfl
    · refine wpOp_mono (fun a2 w2 h' => ?_) h.1
      have htu : Turns kd S q w w2 := ⟨fun hle => by omega, fun _ => h'.1⟩
      exact ⟨htu, wpAnyM_of_tree hB hB2 hsel hQ t _ _ _ (hc.set hq) ht (live_turn hB hc hq hS htu (small_spec hB2 q)) h'.2⟩
    · refine wpOp_mono (fun a2 w2 h' => ?_) h.2
      have htu : Turns kd S q w w2 := ⟨fun hle => by omega, fun _ => h'.1⟩
      rw [hsz]
      exact ⟨htu, wpAnyM_of_tree hB hB2 hsel hQ u _ _ _ (hc.set hq) hu (live_turn hB hc hq hS htu (small_spec hB2 q)) h'.2⟩
  | .br3 i j k t u v, listed, a, w, hc, hp, hS, h => by
    simp only [treeB, Bool.and_eq_true, decide_eq_true_eq] at hp
    obtain ⟨⟨⟨⟨⟨⟨⟨⟨hready, hi⟩, hj⟩, hk⟩, hsz⟩, hsz2⟩, ht⟩, hu⟩, hv⟩ := hp
    unfold wpTree at h
    refine ⟨(fun h0 => by rw [hready] at h0; cases h0), fun q hq => ?_⟩
    have hq' : q = i ∨ q = j ∨ q = k := by rw [hready] at hq; simpa using hq
    rcases hq' with rfl | rfl | rfl
    · refine wpOp_mono (fun a2 w2 h' => ?_) h.1
      have htu : Turns kd S q w w2 := ⟨fun hle => by omega, fun _ => h'.1⟩
      exact ⟨htu, wpAnyM_of_tree hB hB2 hsel hQ t _ _ _ (hc.set hq) ht (live_turn hB hc hq hS htu (small_spec hB2 q)) h'.2⟩
    · refine wpOp_mono (fun a2 w2 h' => ?_) h.2.1
      have htu : Turns kd S q w w2 := ⟨fun hle => by omega, fun _ => h'.1⟩
      rw [hsz]
      exact ⟨htu, wpAnyM_of_tree hB hB2 hsel hQ u _ _ _ (hc.set hq) hu (live_turn hB hc hq hS htu (small_spec hB2 q)) h'.2⟩
    · refine wpOp_mono (fun a2 w2 h' => ?_) h.2.2
      have htu : Turns kd S q w w2 := ⟨fun hle => by omega, fun _ => h'.1⟩
      rw [hsz2]
      exact ⟨htu, wpAnyM_of_tree hB hB2 hsel hQ v _ _ _ (hc.set hq) hv (live_turn hB hc hq hS htu (small_spec hB2 q)) h'.2⟩
def treeAllB (md : Region.Mode) (ops : Array Oper) (kd : List Nat) (t : PT) : Bool :=
  lateB md ops kd && smallB kd && Region.noSelect ops && decide (t.size = ops.size) && treeB md ops kd t (Array.replicate ops.size false)
theorem wp_region_tree {id : Nat} {a : Act} {w : World} (S : World → Prop) (kd : List Nat) (t : PT) (hm : P.follows .mixedOrders = true) (hB : treeAllB .any ops kd t = true)
    (hS : S w.drew) (h : wpTree P ops (Calm Q) S kd t a w.drew) : (Code.region id ops true).wp P Q a w := by
  simp only [treeAllB, Bool.and_eq_true, decide_eq_true_eq] at hB
  obtain ⟨⟨⟨⟨h1, h2⟩, h3⟩, h4⟩, h5⟩ := hB
  refine Code.wp_mono Calm.imp (wp_region_any hm (wpAny_of_M (S := S) (kd := kd) _ _ _ _ ?_))
  rw [← h4]
  refine wpAnyM_of_tree h1 h2 h3 (fun _ _ _ _ h => h) t _ a _ (fun j oj _ hl => ?_) (by rw [h4]; exact h5) (fun _ => hS) h
  rw [getD_replicate_false] at hl; cases hl
theorem tree_held {l rl : List Oper} {i : Nat} {t : PT} {o : Oper} {v : Value} {a : Act} {w : World} (hd : l.drop i = o :: rl) (hk : kd.getD i 2 ≤ 1) (hw : Region.wanted o (yielded l.toArray a.tmps) = true)
    (hy : ∀ w, (kd.getD i 2 = 1 → S w) → (execOp a.eval o).run P w = .ok (.value v) w) (h : wpTree P l.toArray Q S kd t (a.put o.dst v) w) : wpTree P l.toArray Q S kd (.go i t) a w := by
  have ho := drop_get hd
  unfold wpTree
  rw [ho]
  simp only
  rw [if_pos hk]
  exact ⟨v, .inl ⟨hw, hy⟩, h⟩
theorem tree_keep {l rl : List Oper} {i : Nat} {t : PT} {o : Oper} {a : Act} {w : World} (hd : l.drop i = o :: rl) (hk : kd.getD i 2 = 2) (hw : Region.wanted o (yielded l.toArray a.tmps) = true)
    (h : ∀ K : Act → World → Prop, (∀ a' w', S w' → wpTree P l.toArray Q S kd t a' w' → K a' w') → Oper.wp P o a w K Q) : wpTree P l.toArray Q S kd (.go i t) a w := by
  have ho := drop_get hd
  unfold wpTree
  rw [ho]
  simp only
  rw [if_neg (by omega), if_pos hk]
  unfold wpOp
  simp only [ho, hw, if_true]
  exact .inl (h _ fun a' w' h1 h2 => ⟨h1, h2⟩)
theorem tree_late {l rl : List Oper} {i : Nat} {t : PT} {o : Oper} {a : Act} {w : World} (hd : l.drop i = o :: rl) (hk : kd.getD i 2 = 3) (hw : Region.wanted o (yielded l.toArray a.tmps) = true)
    (h : ∀ K : Act → World → Prop, (∀ a' w', wpTree P l.toArray Q S kd t a' w' → K a' w') → Oper.wp P o a w K Q) : wpTree P l.toArray Q S kd (.go i t) a w := by
  have ho := drop_get hd
  unfold wpTree
  rw [ho]
  simp only
  rw [if_neg (by omega), if_neg (by omega)]
  unfold wpOp
  simp only [ho, hw, if_true]
  exact .inl (h _ fun a' w' h2 => h2)
theorem tree_op {l rl : List Oper} {i : Nat} {t : PT} {o : Oper} {a : Act} {w : World} (hd : l.drop i = o :: rl) (hw : Region.wanted o (yielded l.toArray a.tmps) = true)
    (h : ∀ K : Act → World → Prop, (∀ a' w', S w' → wpTree P l.toArray Q S kd t a' w' → K a' w') → Oper.wp P o a w K Q) : wpOp P l.toArray Q i (fun a' w' => S w' ∧ wpTree P l.toArray Q S kd t a' w') a w := by
  have ho := drop_get hd
  unfold wpOp
  simp only [ho, hw, if_true]
  exact .inl (h _ fun a' w' h1 h2 => ⟨h1, h2⟩)
theorem tree_fin {a : Act} {w : World} (h : Q .normal a w) : wpTree P ops (Calm Q) S kd .fin a w := h
end
end Go.Proofs.YtmknchdciblfjaaGreat
