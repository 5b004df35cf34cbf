/- A region that draws its order, walked in one given order, INSIDE A FENCE, in a round or not: XR's law. -/
import Derived.OrdersIn
import Derived.TacticsIn
import Derived.Deep.AppendLies
import Derived.Test.YtdnbegcebloodaaR
set_option linter.unusedVariables false
set_option linter.unusedSimpArgs false
namespace Go.Proofs.Ytdnbegcebloodaa
open Go Go.RowKit

section
variable {F : Fence} {n : Nat} {P : Program} {ops : Array Oper} {Q : Exit → Act → World → Prop} {md : Region.Mode} {S : World → Prop} {kd : List Nat}

theorem semAt_any {o : Oper} (h : ∀ c, o.op ≠ .defer c) (r : Option Nat) (ρ : Operand → Value) : o.semAt r ρ = execOp ρ o := by
  cases r with
  | none => exact Oper.semAt_none ρ o
  | some l => exact Oper.semAt_some l ρ o h
def noDefer (ops : Array Oper) : Bool := ops.all fun o => match o.op with | .defer _ => false | _ => true
theorem noDefer_spec {ops : Array Oper} (h : noDefer ops = true) {j : Nat} {o : Oper} (hj : ops[j]? = some o) : ∀ c, o.op ≠ .defer c := by
  intro c hc
  obtain ⟨hlt, rfl⟩ := Array.getElem?_eq_some_iff.1 hj
  have := (Array.all_eq_true.1 h) j hlt
  rw [hc] at this
  cases this

def YieldsIfIn (P : Program) (ops : Array Oper) (S : World → Prop) (o : Oper) (v : Value) (a : Act) : Prop := YieldsIf P ops S o v a ∧ ∀ w, o.about P w a.eval = none

theorem YieldsIfIn.wpOp (nd : noDefer ops = true) {i : Nat} {o : Oper} {v : Value} {a : Act} (hi : ops[i]? = some o) (hy : YieldsIfIn P ops S o v a)
    {K : Act → World → Prop} {w : World} (hS : S w) (h : K (a.put o.dst v) w) : wpOpIn F n P ops Q i K a w := by
  unfold Go.wpOpIn
  simp only [hi]
  have hab : ∀ f, o.about P w a.eval = some f → F.fn f := fun f hf => by rw [hy.2 w] at hf; cases hf
  rcases hy.1 with ⟨hw, hv⟩ | ⟨hw, rfl⟩
  · simp only [hw, if_true, Oper.wpIn, semAt_any (noDefer_spec nd hi), hv w hS, Oper.uponIn]; exact ⟨hab, h⟩
  · simp only [hw, Bool.false_eq_true, if_false]; exact ⟨hab, h⟩
theorem YieldsIfIn.of_same {o : Oper} {v : Value} {a a' : Act} (hy : YieldsIfIn P ops S o v a) (he : execOp a'.eval o = execOp a.eval o)
    (hw : Region.wanted o (yielded ops a'.tmps) = Region.wanted o (yielded ops a.tmps)) (hb : ∀ w, o.about P w a'.eval = o.about P w a.eval) : YieldsIfIn P ops S o v a' :=
  ⟨hy.1.of_same he hw, fun w => by rw [hb w]; exact hy.2 w⟩

theorem wpOpIn_putIf (nd : noDefer ops = true) {j : Nat} {oi oj : Oper} {v : Value} (hj : ops[j]? = some oj) (hap : oi.apart ops oj = true)
    (hsi : ∀ cs b, oi.op ≠ .select cs b) (hsj : ∀ cs b, oj.op ≠ .select cs b)
    (hQ : ∀ c a w, Q (.panic c) (a.put oi.dst v) w → Q (.panic c) a w) {K : Act → World → Prop} {a : Act} {w : World}
    (hy : YieldsIfIn P ops S oi v a) (h : wpOpIn F n P ops Q j K (a.put oi.dst v) w) :
    wpOpIn F n P ops Q j (fun a' w' => YieldsIfIn P ops S oi v a' ∧ K (a'.put oi.dst v) w') a w := by
  obtain ⟨h1, h2, h3⟩ := Oper.apart_spec hap
  have keep : ∀ (a : Act), YieldsIfIn P ops S oi v a → ∀ u, YieldsIfIn P ops S oi v (a.put oj.dst u) := fun a hy u =>
    hy.of_same (execOp_put oi hsi a oj.dst u h3) (wanted_put oi a oj.dst u h3) (fun w => about_put oi w a oj.dst u h3)
  have keepD : ∀ d, YieldsIfIn P ops S oi v { a with defers := d :: a.defers } := fun d => hy.of_same rfl rfl (fun _ => rfl)
  have nj := noDefer_spec nd hj
  unfold wpOpIn at *
  simp only [hj] at *
  rw [wanted_put oj a oi.dst v h1, about_put oj w a oi.dst v h1] at h
  split
  · rename_i hw
    simp only [hw, if_true] at h
    unfold Oper.wpIn at *
    rw [about_put oj w a oi.dst v h1] at h
    refine ⟨h.1, ?_⟩
    have h := h.2
    rw [semAt_any nj, execOp_put oj hsj a oi.dst v h1] at h
    rw [semAt_any nj]
    generalize (execOp a.eval oj).run P w = r at *
    cases r with
    | ok x w' =>
      cases x <;> simp only [Oper.uponIn] at h ⊢
      case value u => exact ⟨keep a hy u, by rw [← Act.put_comm a v u h2]; exact h⟩
      case skip => exact ⟨keep a hy _, by rw [← Act.put_comm a v undef h2]; exact h⟩
      case defer d =>
        refine ⟨keep _ (keepD d) _, ?_⟩
        rw [← Act.put_comm _ v undef h2, ← Act.put_defers]
        exact h
      case enter f args =>
        refine ⟨h.1, CallsIn.mono h.2 fun e w'' he => ?_⟩
        cases e with
        | returned u => exact ⟨keep a hy u, by rw [← Act.put_comm a v u h2]; exact he⟩
        | panicked c => exact hQ _ _ _ he
        | outgrown => exact he
      case row row args => exact ⟨h.1, RowsIn.mono h.2 fun u w'' he => ⟨keep a hy u, by rw [← Act.put_comm a v u h2]; exact he⟩⟩
      case round l f tmps assign body =>
        refine ⟨h.1, RoundIn.mono h.2 fun e w'' he => ?_⟩
        cases e with
        | returned u => exact ⟨keep a hy u, by rw [← Act.put_comm a v u h2]; exact he⟩
        | panicked c => exact hQ _ _ _ he
        | outgrown => exact he
    | halt x w' =>
      cases x <;> simp only [Oper.uponIn] at h ⊢
      case panic u => exact hQ _ _ _ h
  · rename_i hw
    simp only [hw] at h
    exact ⟨h.1, keep a hy _, by rw [← Act.put_comm a v undef h2]; exact h.2⟩

def wpAnyMI (F : Fence) (n : Nat) (P : Program) (md : Region.Mode) (ops : Array Oper) (Q : Exit → Act → World → Prop) (S : World → Prop) (kd : List Nat) : Nat → Array Bool → Act → World → Prop
  | 0, listed, a, w => Region.ready md ops listed = [] ∧ Q .normal a w
  | fuel + 1, listed, a, w =>
    (Region.ready md ops listed = [] → Q .normal a w) ∧
    ∀ i ∈ Region.ready md ops listed, wpOpIn F n P ops Q i (fun a' w' => Turns kd S i w w' ∧ wpAnyMI F n P md ops Q S kd fuel (listed.setIfInBounds i true) a' w') a w

theorem wpAnyIn_of_M : ∀ (fuel : Nat) (listed : Array Bool) (a : Act) (w : World), wpAnyMI F n P md ops Q S kd fuel listed a w → wpAnyIn F n P md ops Q fuel listed a w
  | 0, _, _, _, h => h
  | fuel + 1, _, _, _, h => ⟨h.1, fun i hi => wpOpIn_mono (fun a' w' h' => wpAnyIn_of_M fuel _ a' w' h'.2) (h.2 i hi)⟩

theorem wpAnyMI_first {i : Nat} {oi : Oper} {v : Value} (nd : noDefer ops = true) (hB : lateB md ops kd = true) (hB2 : smallB kd = true) (hi : ops[i]? = some oi) (hk : kd.getD i 2 ≤ 1) (hsel : ∀ (j : Nat) (o : Oper) cs b, ops[j]? = some o → o.op ≠ .select cs b)
    (hQ : ∀ c a w, Q (.panic c) (a.put oi.dst v) w → Q (.panic c) a w) :
    ∀ (fuel : Nat) (listed : Array Bool) (a : Act) (w : World), Closed md ops listed →
      (∀ j oj, ops[j]? = some oj → j ≠ i → listed.getD j true = false → (∀ e ∈ oj.after, Region.binds md e = true → e.on ≠ i) → oi.apart ops oj = true) →
      i ∈ Region.ready md ops listed → YieldsIfIn P ops (fun w => kd.getD i 2 = 1 → S w) oi v a → (Live kd listed → S w) →
      wpAnyMI F n P md ops Q S kd fuel (listed.setIfInBounds i true) (a.put oi.dst v) w → wpAnyMI F n P md ops Q S kd (fuel + 1) listed a w := by
  intro fuel
  induction fuel with
  | zero =>
    intro listed a w _ _ hr hy hS H
    refine ⟨fun h => (by rw [h] at hr; cases hr), fun j hj => ?_⟩
    by_cases hji : j = i
    · subst hji; exact hy.wpOp nd hi (fun hm => hS ⟨j, hm, (mem_ready.1 hr).1⟩) ⟨⟨fun _ => rfl, fun h => by omega⟩, H⟩
    · have := ready_mono hj hji
      rw [H.1] at this
      cases this
  | succ fuel ih =>
    intro listed a w hc hfree hr hy hS H
    refine ⟨fun h => (by rw [h] at hr; cases hr), fun j hj => ?_⟩
    by_cases hji : j = i
    · subst hji; exact hy.wpOp nd hi (fun hm => hS ⟨j, hm, (mem_ready.1 hr).1⟩) ⟨⟨fun _ => rfl, fun h => by omega⟩, H⟩
    · have h1 := H.2 j (ready_mono hj hji)
      obtain ⟨hjun, oj, hoj, hall⟩ := mem_ready.1 hj
      have hnot : ∀ e ∈ oj.after, Region.binds md e = true → e.on ≠ i := fun e he hb heq => by
        have h1 := hall e he hb
        have h0 := (mem_ready.1 hr).1
        rw [heq, getD_both h0] at h1
        cases h1
      have h2 := wpOpIn_putIf nd hoj (hfree j oj hoj hji hjun hnot) (fun cs b => hsel i oi cs b hi) (fun cs b => hsel j oj cs b hoj) hQ hy h1
      have hfree' : ∀ k ok, ops[k]? = some ok → k ≠ i → (listed.setIfInBounds j true).getD k true = false →
          (∀ e ∈ ok.after, Region.binds md e = true → e.on ≠ i) → oi.apart ops ok = true := fun k ok hk hki hun hno => by
        refine hfree k ok hk hki ?_ hno
        by_cases hjk : j = k
        · subst hjk; exact hjun
        · rw [getD_set_ne true hjk] at hun; exact hun
      refine wpOpIn_mono (fun a' w' h3 => ⟨h3.2.1, ih (listed.setIfInBounds j true) a' w' (hc.set hj) hfree' (ready_mono hr (Ne.symm hji)) h3.1 (live_turn hB hc hj hS h3.2.1 (small_spec hB2 j)) ?_⟩) h2
      rw [Array.setIfInBounds_comm _ _ hji]
      exact h3.2.2

def wpPlanIn (F : Fence) (n : Nat) (P : Program) (ops : Array Oper) (Q : Exit → Act → World → Prop) (S : World → Prop) (kd : List Nat) : List Nat → Act → World → Prop
  | [], a, w => Q .normal a w
  | i :: r, a, w =>
    match ops[i]? with
    | none => False
    | some o =>
      if kd.getD i 2 ≤ 1 then ∃ v, YieldsIfIn P ops (fun w => kd.getD i 2 = 1 → S w) o v a ∧ wpPlanIn F n P ops Q S kd r (a.put o.dst v) w
      else if kd.getD i 2 = 2 then wpOpIn F n P ops Q i (fun a' w' => S w' ∧ wpPlanIn F n P ops Q S kd r a' w') a w
      else wpOpIn F n P ops Q i (wpPlanIn F n P ops Q S kd r) a w

theorem wpAnyMI_of_plan (nd : noDefer ops = true) (hB : lateB md ops kd = true) (hB2 : smallB kd = true) (hsel : Region.noSelect ops = true) (hQ : ∀ c a a' w, Q (.panic c) a w → Q (.panic c) a' w) :
    ∀ (l : List Nat) (listed : Array Bool) (a : Act) (w : World), Closed md ops listed → planB md ops kd l listed = true → (Live kd listed → S w) → wpPlanIn F n P ops Q S kd l a w → wpAnyMI F n P md ops Q S kd l.length listed a w
  | [], listed, a, w, _, hp, _, h => ⟨by simpa [planB] using hp, h⟩
  | i :: r, listed, a, w, hc, hp, hS, h => by
    simp only [planB, Bool.and_eq_true] at hp
    unfold wpPlanIn at h
    cases ho : ops[i]? with
    | none => rw [ho] at h; exact h.elim
    | some o =>
      rw [ho] at h
      simp only at h
      by_cases hk : kd.getD i 2 ≤ 1
      · rw [if_pos hk] at hp h
        obtain ⟨v, hy, h'⟩ := h
        have hr : i ∈ Region.ready md ops listed := by have := hp.1; simp only [Bool.and_eq_true] at this; simpa using this.1
        have hf : Region.free md ops listed i = true := by have := hp.1; simp only [Bool.and_eq_true] at this; exact this.2
        refine wpAnyMI_first nd hB hB2 ho hk (Region.noSelect_spec hsel) (fun c a w => hQ c _ _ w) r.length listed a w hc (Region.free_spec ho hf) hr hy hS ?_
        exact wpAnyMI_of_plan nd hB hB2 hsel hQ r _ _ _ (hc.set hr) hp.2 (fun hl => hS (live_set hl)) h'
      · rw [if_neg hk] at hp h
        have hr : Region.ready md ops listed = [i] := by simpa using hp.1
        have hri : i ∈ Region.ready md ops listed := by rw [hr]; simp
        refine ⟨fun h0 => (by rw [hr] at h0; cases h0), fun j hj => ?_⟩
        have hji : j = i := by rw [hr] at hj; simpa using hj
        subst hji
        by_cases hk2 : kd.getD j 2 = 2
        · rw [if_pos hk2] at h
          refine wpOpIn_mono (fun a' w' h' => ?_) h
          have ht : Turns kd S j w w' := ⟨fun h1 => absurd h1 hk, fun _ => h'.1⟩
          exact ⟨ht, wpAnyMI_of_plan nd hB hB2 hsel hQ r _ _ _ (hc.set hri) hp.2 (live_turn hB hc hri hS ht (small_spec hB2 j)) h'.2⟩
        · rw [if_neg hk2] at h
          refine wpOpIn_mono (fun a' w' h' => ?_) h
          have ht : Turns kd S j w w' := ⟨fun h1 => absurd h1 hk, fun h2 => absurd h2 hk2⟩
          exact ⟨ht, wpAnyMI_of_plan nd hB hB2 hsel hQ r _ _ _ (hc.set hri) hp.2 (live_turn hB hc hri hS ht (small_spec hB2 j)) h'⟩

theorem wpIn_region_plan {id : Nat} {a : Act} {w : World} (S : World → Prop) (kd l : List Nat) (hm : P.follows .mixedOrders = true) (hB : (noDefer ops && planAllB .any ops kd l) = true)
    (hS : S w.drew) (h : wpPlanIn F n P ops (Calm Q) S kd l a w.drew) : (Code.region id ops true).wpIn F n P Q a w := by
  simp only [planAllB, Bool.and_eq_true, decide_eq_true_eq] at hB
  obtain ⟨nd, ⟨⟨⟨h1, h2⟩, h3⟩, h4⟩, h5⟩ := hB
  refine Code.wpIn_mono Calm.imp (wpIn_region_any hm (wpAnyIn_of_M (S := S) (kd := kd) _ _ _ _ ?_))
  rw [← h4]
  refine wpAnyMI_of_plan nd h1 h2 h3 (fun _ _ _ _ h => h) l _ a _ (fun j oj _ hl => ?_) (by rw [h4]; exact h5) (fun _ => hS) h
  rw [getD_replicate_false] at hl; cases hl

theorem plan_heldI {l rl : List Oper} {i : Nat} {r : List Nat} {o : Oper} {v : Value} {a : Act} {w : World} (hd : l.drop i = o :: rl) (hk : kd.getD i 2 ≤ 1) (hw : Region.wanted o (yielded l.toArray a.tmps) = true)
    (hb : ∀ w, o.about P w a.eval = none) (hy : ∀ w, (kd.getD i 2 = 1 → S w) → (execOp a.eval o).run P w = .ok (.value v) w) (h : wpPlanIn F n P l.toArray Q S kd r (a.put o.dst v) w) : wpPlanIn F n P l.toArray Q S kd (i :: r) a w := by
  have ho := drop_get hd
  unfold wpPlanIn
  rw [ho]
  simp only
  rw [if_pos hk]
  exact ⟨v, ⟨.inl ⟨hw, hy⟩, hb⟩, h⟩
theorem plan_keepI {l rl : List Oper} {i : Nat} {r : List Nat} {o : Oper} {a : Act} {w : World} (hd : l.drop i = o :: rl) (hk : kd.getD i 2 = 2) (hw : Region.wanted o (yielded l.toArray a.tmps) = true)
    (h : ∀ K : Act → World → Prop, (∀ a' w', S w' → wpPlanIn F n P l.toArray Q S kd r a' w' → K a' w') → Oper.wpIn F n P o a w K Q) : wpPlanIn F n P l.toArray Q S kd (i :: r) a w := by
  have ho := drop_get hd
  unfold wpPlanIn
  rw [ho]
  simp only
  rw [if_neg (by omega), if_pos hk]
  unfold wpOpIn
  simp only [ho, hw, if_true]
  exact h _ fun a' w' h1 h2 => ⟨h1, h2⟩
theorem plan_lateI {l rl : List Oper} {i : Nat} {r : List Nat} {o : Oper} {a : Act} {w : World} (hd : l.drop i = o :: rl) (hk : kd.getD i 2 = 3) (hw : Region.wanted o (yielded l.toArray a.tmps) = true)
    (h : ∀ K : Act → World → Prop, (∀ a' w', wpPlanIn F n P l.toArray Q S kd r a' w' → K a' w') → Oper.wpIn F n P o a w K Q) : wpPlanIn F n P l.toArray Q S kd (i :: r) a w := by
  have ho := drop_get hd
  unfold wpPlanIn
  rw [ho]
  simp only
  rw [if_neg (by omega), if_neg (by omega)]
  unfold wpOpIn
  simp only [ho, hw, if_true]
  exact h _ fun a' w' h2 => h2
theorem plan_doneI {a : Act} {w : World} (h : Q .normal a w) : wpPlanIn F n P ops (Calm Q) S kd [] a w := h
/-- an operation that only runs -/
theorem wpIn_of_run {o : Oper} {a : Act} {w w' : World} {v : Value} {K : Act → World → Prop} (nd : ∀ c, o.op ≠ .defer c) (hb : o.about P w a.eval = none) (hr : (execOp a.eval o).run P w = .ok (.value v) w') (h : K (a.put o.dst v) w') : Oper.wpIn F n P o a w K Q := by
  unfold Oper.wpIn
  rw [semAt_any nd, hr]
  exact ⟨(fun f hf => by rw [hb] at hf; cases hf), h⟩
theorem wpIn_append_lies {o : Oper} {a : Act} {w : World} {K : Act → World → Prop} (s x : Operand) (t : TypeId)
    (ho : o.op = .call { callee := .builtin .append, args := #[s, x], argTypes := #[t, t] }) (hb : o.about P w a.eval = none)
    (base : Nat) (e : TypeId) (i : TypeInfo) (z : Value) (size bytes : Nat) (ht : P.underlying t = some (.slice e)) (hi : P.info? e = some i) (hz : i.zero = some z)
    (hsize : i.size = size) (hby : i.bytes = bytes) (hzs : z.cells.size = size) (hsz : 0 < size)
    (v : Value) (m : Nat) (xs : List Value) (hs : a.eval s = v) (hown : w.ownsRow base e size v m xs)
    (ad : Addr) (k c : Nat) (news : List Value) (hx : a.eval x = .slice (some ad) k c) (hl : news.length = k * size) (hnews : ∀ j u, news[j]? = some u → w.cell? (ad.add j) = some u) (h1 : ∀ u ∈ news, u.oneCell' = true)
    (hm : 0 < k) (h63 : m + k ≤ maxLen) (hbytes : (m + k) * bytes ≤ 140737488355328) (hbase : base ≤ w.heap.size) (H : Nat) (hH : w.heap.size = H)
    (h : ∀ g cap w', w'.ownsRow base e size (.slice (some ⟨g, 0, none⟩) (m + k) cap) (m + k) (xs ++ news) → w.grownBy w' v.ownBlock → (v.ownBlock = some g ∨ g = H) → g < w'.heap.size → K (a.put o.dst (.slice (some ⟨g, 0, none⟩) (m + k) cap)) w') : Oper.wpIn F n P o a w K Q := by
  obtain ⟨g, cap, w', hr, h2, h3, h4, h5⟩ := run_append_lies (P := P) w t o.type base e i z size bytes ht hi hz hsize hby hzs hsz v m xs hown ad k c news hl hnews h1 hm h63 hbytes hbase H hH
  refine wpIn_of_run (v := .slice (some ⟨g, 0, none⟩) (m + k) cap) (w' := w') (fun c hc => by rw [ho] at hc; cases hc) hb ?_ (h g cap w' h2 h3 h4 h5)
  unfold execOp
  simp only [ho, resolve, invoke, builtin, Sem.run_bind, Sem.run_pure, Result.andThen_ok, List.map_toArray, List.map_cons, List.map_nil, hs, hx, hr]
end
end Go.Proofs.Ytdnbegcebloodaa
