/- A program that runs the walked language on closed inputs, and its proof. -/
import Derived.RangeFuncCalls
import Derived.OrdersIn
import Derived.LoopNIn
import Derived.RangeFuncNested
import Derived.Test.YtmknchdciblfjaaGreatVb
set_option linter.unusedVariables false
set_option linter.unusedSimpArgs false
namespace Go.Proofs.YtmknchdciblfjaaGreat.Ev
open Go
def Fof (k : Option Nat) : Fence := { Fence.wide with round := k }
/-- names that are free: all from nx on, and those that R keeps for itself -/
def Fresh (R : Nat → Prop) (m : Mp) (nx : Nat) : Prop := (∀ id, nx ≤ id → m id = none) ∧ ∀ id, R id → id < nx ∧ m id = none
inductive MarksRel (m : Mp) : List Nat → List Deferred → Prop
  | nil : MarksRel m [] []
  | cons {id : Nat} {p : Pl} {l : List Nat} {ds : List Deferred} (h : m id = some p) (k : MarksRel m l ds) : MarksRel m (id :: l) ({ target := .collected p.b, args := #[] } :: ds)
theorem MarksRel.mono {m m' : Mp} (hm : m.le m') : ∀ {l : List Nat} {ds : List Deferred}, MarksRel m l ds → MarksRel m' l ds
  | _, _, .nil => .nil
  | _, _, .cons h k => .cons (hm _ _ h) (MarksRel.mono hm k)
structure DRel (R : Nat → Prop) (m : Mp) (n : Nat) (d : Dy) (a : Act) (W : World) : Prop where
  rel : Rel m d.s.H W.heap
  fresh : Fresh R m d.s.nx
  env : EnvRel m n d.e a.tmps
  marks : MarksRel m d.mks a.defers
def RoundRel (m : Mp) (l k : Option Nat) : Prop := (l = none ∧ k = none) ∨ ∃ i p, l = some i ∧ m i = some p ∧ k = some p.b
theorem RoundRel.mono {m m' : Mp} {l k : Option Nat} (hm : m.le m') (h : RoundRel m l k) : RoundRel m' l k := by
  rcases h with h | ⟨i, p, h1, h2, h3⟩
  · exact .inl h
  · exact .inr ⟨i, p, h1, hm _ _ h2, h3⟩
def AX.toExit : AX → Exit
  | .normal => .normal
  | .exit id => .exit id
  | .goto l => .goto l
  | .ret => .ret
/-- behind a piece of code -/
def CPost (R : Nat → Prop) (m : Mp) (s : S) (W : World) (n : Nat) (x : AX) (d : Dy) : Exit → Act → World → Prop := fun e a W' => e = x.toExit ∧ ∃ m', Grow m s.H W m' d.s.H W' ∧ DRel R m' n d a W'
/-- behind a call -/
def VPost (R : Nat → Prop) (m : Mp) (s : S) (W : World) (v : RV) (s' : S) : Ending → World → Prop := fun e W' => ∃ m' u, e = .returned u ∧ Grow m s.H W m' s'.H W' ∧ Rel m' s'.H W'.heap ∧ Fresh R m' s'.nx ∧ RVal m' v u
structure SCall (P : Program) (r : Rec) : Prop where
  ok : ∀ {R f args s v s' m W us}, r.call f args s = some (v, s') → Rel m s.H W.heap → Fresh R m s.nx → RVals m args us → (∃ fn, P.funcs[f]? = some fn ∧ fn.body.isSome = true) ∧ CallsIn Fence.wide 0 P f us.toArray W (VPost R m s W v s')
structure SYield (P : Program) (r : Rec) : Prop where
  ok : ∀ {R l args s v s' m W us p}, r.yield l args s = some (v, s') → Rel m s.H W.heap → Fresh R m s.nx → RVals m args us → m l = some p →
    ∃ f tmps assign body, (Instr.yield p.b us.toArray).run P W = .ok (.round p.b f tmps assign body) W ∧ RoundIn Fence.wide 0 P p.b f tmps assign body W (VPost R m s W v s')
def Named (P : Program) : Prop := ∀ (f : Nat) (fn : Func), P.funcs[f]? = some fn → (fn.name == "runtime.NumGoroutine") = false
section
variable {P : Program} {R : Nat → Prop} {m : Mp} {r : Rec} {n : Nat} {k : Option Nat}
theorem eval_of_env {e : T RV} {a : Act} (h : EnvRel m n e a.tmps) : Eval m e a.eval := by
  intro x v hx
  cases x with
  | tmp t =>
    obtain ⟨u, hu, hr⟩ := h.2 t v hx
    show RVal m v (a.tmps.getD t undef)
    rw [Array.getD_eq_getD_getElem?, hu]
    exact hr
  | const c => simp [opnd] at hx; subst hx; exact .val c
  | global g => simp [opnd] at hx
  | func f => simp [opnd] at hx; subst hx; exact .fn .nil .nil
theorem env_put {e : T RV} {a : Act} {d : Option Tmp} {v : RV} {u : Value} (h : EnvRel m n e a.tmps) (hv : RVal m v u) : EnvRel m n (putE n e d v) (a.put d u).tmps := by
  cases d with
  | none => exact h
  | some t =>
    simp only [putE, Act.put]
    cases hb : Nat.blt t n with
    | false =>
      have : ¬ t < n := fun hh => by rw [show Nat.blt t n = true from Nat.ble_eq_true_of_le hh] at hb; cases hb
      rw [Array.setIfInBounds, dif_neg (by rw [h.1]; exact this)]
      exact h
    | true =>
      have hlt : t < n := Nat.le_of_ble_eq_true hb
      refine ⟨by simp [h.1], fun t' v' ht => ?_⟩
      simp only [cond_true] at ht
      rcases T.get_set D e t (some v) t' v' ht with ⟨rfl, e1⟩ | ⟨hne, e1⟩
      · simp only [Option.some.injEq] at e1
        subst e1
        exact ⟨u, by rw [Array.getElem?_setIfInBounds_self_of_lt (by rw [h.1]; exact hlt)], hv⟩
      · obtain ⟨w, hw, hr⟩ := h.2 t' v' e1
        exact ⟨w, by rw [Array.getElem?_setIfInBounds_ne (Ne.symm hne)]; exact hw, hr⟩
theorem put_defers (a : Act) (d : Option Tmp) (u : Value) : (a.put d u).defers = a.defers := by cases d <;> rfl
theorem fresh_of {m m' : Mp} {s s' : S} (h : Fresh R m s.nx) (h1 : ∀ id, id ≠ s.nx → m' id = m id) (h2 : (s'.nx = s.nx ∧ m' s.nx = none) ∨ s'.nx = s.nx + 1) : Fresh R m' s'.nx := by
  refine ⟨fun id hid => ?_, fun id hid => ?_⟩
  · rcases h2 with ⟨e, hn⟩ | e
    · by_cases hq : id = s.nx
      · rw [hq]; exact hn
      · rw [h1 id hq]; exact h.1 id (by omega)
    · rw [h1 id (by omega)]; exact h.1 id (by omega)
  · obtain ⟨h3, h4⟩ := h.2 id hid
    refine ⟨?_, ?_⟩
    · rcases h2 with ⟨e, hn⟩ | e <;> omega
    · rw [h1 id (by omega)]; exact h4
theorem about_any {o : Oper} {a : Act} {W : World} : ∀ f, o.about P W a.eval = some f → (Fof k).fn f := fun _ _ => trivial
theorem step_ok {e : T RV} {s s' : S} {o : Oper} {v : RV} {a : Act} {W : World} {next : Act → World → Prop} {Q : Exit → Act → World → Prop} (hN : Named P) (hc : SCall P r) (hy : SYield P r)
    (h : stepEv P r e s o = some (v, s')) (he : Eval m e a.eval) (hr : Rel m s.H W.heap) (hf : Fresh R m s.nx)
    (hnext : ∀ m' W' u, Grow m s.H W m' s'.H W' → Rel m' s'.H W'.heap → Fresh R m' s'.nx → RVal m' v u → next (a.put o.dst u) W') : o.wpIn (Fof k) 0 P a W next Q := by
  have hop : (∀ c, o.op ≠ .defer c) → opEv P e s o = some (v, s') → o.wpIn (Fof k) 0 P a W next Q := by
    intro hnd h
    refine ⟨about_any, ?_⟩
    rw [Oper.semAt_eq _ _ _ hnd]
    obtain ⟨m', W', k1, k2, k3, k4, k5⟩ := op_ok h he hr (hf.1 _ (Nat.le_refl _))
    have hfr := fresh_of hf k3 k4
    rcases k5 with ⟨u, hx, hv⟩ | ⟨hx, hv⟩
    · rw [hx]
      exact hnext m' W' u k2 k1 hfr hv
    · rw [hx]
      refine hnext m' W' undef k2 k1 hfr ?_
      rw [hv]
      exact .val _
  unfold stepEv at h
  split at h
  · rename_i f args ts ho
    split at h
    · rename_i g l hg hl
      refine ⟨about_any, ?_⟩
      rw [Oper.semAt_eq _ _ _ (fun c hcc => by rw [ho] at hcc; cases hcc)]
      have hgr := he f g hg
      have hlr := he.list hl
      have e1 : args.map a.eval = (args.toList.map a.eval).toArray := by apply Array.ext'; simp
      unfold callV at h
      split at h
      · rename_i f' first caps
        obtain ⟨fv, cv, q1, q2, q3⟩ := hgr.fn_inv
        obtain ⟨⟨fn, hfn, hb⟩, hcall⟩ := hc.ok h hr hf ((q1.append hlr).append q2)
        have hrun : (execOp a.eval o).run P W = .ok (.enter f' (fv ++ args.toList.map a.eval ++ cv).toArray) W := by
          have hbn : fn.body.isNone = false := by cases hbb : fn.body <;> simp [hbb] at hb ⊢
          simp only [execOp, ho, resolve, q3, Deferred.ofValue, Sem.run_bind, Sem.run_pure, Result.andThen_ok, invoke, callFunc, run_program, hfn, hN f' fn hfn, hbn, Bool.false_eq_true, if_false, e1]
          simp
        rw [hrun]
        refine ⟨fun hd => by simp [Fof, Fence.wide] at hd, ?_⟩
        have hcall2 : CallsIn (Fof k) 0 P f' (fv ++ args.toList.map a.eval ++ cv).toArray W (VPost R m s W v s') := by
          cases k with
          | none => exact hcall
          | some l => exact hcall.inRound l
        refine hcall2.mono fun e' W' hp => ?_
        obtain ⟨m', u, rfl, p1, p2, p3, p4⟩ := hp
        exact hnext m' W' u p1 p2 p3 p4
      · rename_i lid
        obtain ⟨p, hp, hq⟩ := hgr.yield_inv
        obtain ⟨f', tmps, assign, body, y1, y2⟩ := hy.ok h hr hf hlr hp
        have hrun : (execOp a.eval o).run P W = .ok (.round p.b f' tmps assign body) W := by
          simp only [execOp, ho, resolve, hq, Deferred.ofValue, Sem.run_bind, Sem.run_pure, Result.andThen_ok, invoke, e1]
          rw [show (#[] : Array Value) ++ (args.toList.map a.eval).toArray = (args.toList.map a.eval).toArray from by simp]
          exact y1
        rw [hrun]
        refine ⟨fun hd => by simp [Fof, Fence.wide] at hd, ?_⟩
        have y3 : RoundIn (Fof k) 0 P p.b f' tmps assign body W (VPost R m s W v s') := y2
        refine y3.mono fun e' W' hp => ?_
        obtain ⟨m', u, rfl, p1, p2, p3, p4⟩ := hp
        exact hnext m' W' u p1 p2 p3 p4
      · cases h
    · cases h
  · rename_i hno
    refine hop (fun c hcc => ?_) h
    simp [opEv, hcc] at h
theorem wanted_ok {ops : Array Oper} {e : T RV} {a : Act} {o : Oper} {b : Bool} (h : wantedEv ops e o = some b) (he : EnvRel m n e a.tmps) : Region.wanted o (yielded ops a.tmps) = b := by
  unfold wantedEv at h
  unfold Region.wanted
  cases hg : o.guard with
  | none => rw [hg] at h; simp at h; subst h; rfl
  | some jw =>
    obtain ⟨j, w⟩ := jw
    rw [hg] at h
    simp only at h ⊢
    split at h
    · rename_i t ht
      have hd : (ops[j]?).bind (·.dst) = some t := by
        unfold dstOf at ht
        cases ho : ops[j]? with
        | none => rw [ho] at ht; cases ht
        | some q => rw [ho] at ht; simpa using ht
      split at h
      · rename_i c hc
        obtain ⟨u, hu, hr⟩ := he.2 t _ hc
        have := hr.val_inv
        subst this
        simp only [Option.some.injEq] at h
        subst h
        simp [yielded, hd, hu]
      · rename_i vs hc
        obtain ⟨u, hu, hr⟩ := he.2 t _ hc
        have := hr.val_inv
        subst this
        simp only [Option.some.injEq] at h
        subst h
        simp [yielded, hd, hu]
      · cases h
    · cases h
theorem list_drop_range {α : Type} (l : List α) (i : Nat) {x : α} {rest : List α} (h : l.drop i = x :: rest) : l[i]? = some x ∧ l.drop (i + 1) = rest := by
  constructor
  · have := List.getElem?_drop (xs := l) (i := i) (j := 0)
    rw [h] at this
    simpa using this.symm
  · rw [← List.drop_drop, h]; rfl
theorem ops_ok (hN : Named P) (hc : SCall P r) (hy : SYield P r) {ops : Array Oper} {s0 : S} {W0 : World} {m0 : Mp} {mks : List Nat} {e' : T RV} {s' : S} {Q : Exit → Act → World → Prop} :
    ∀ (l : List Oper) (i : Nat) (e : T RV) (s : S) (a : Act) (W : World) (m : Mp), ops.toList.drop i = l → opsEv P r n ops l e s = some (e', s') → DRel R m n ⟨e, mks, s⟩ a W → Grow m0 s0.H W0 m s.H W →
      (∀ m' a' W', Grow m0 s0.H W0 m' s'.H W' → DRel R m' n ⟨e', mks, s'⟩ a' W' → Q .normal a' W') → wpOpsIn (Fof k) 0 P ops Q (List.range' i l.length) a W
  | [], i, e, s, a, W, m, hd, h, hD, hG, hQ => by
    simp only [opsEv, Option.some.injEq, Prod.mk.injEq] at h
    obtain ⟨rfl, rfl⟩ := h
    exact hQ m a W hG hD
  | o :: l, i, e, s, a, W, m, hd, h, hD, hG, hQ => by
    obtain ⟨h1, h2⟩ := list_drop_range _ _ hd
    have ho : ops[i]? = some o := by simpa using h1
    simp only [List.length_cons, List.range'_succ, wpOpsIn, ho]
    simp only [opsEv] at h
    split at h
    · rename_i hw
      rw [wanted_ok hw hD.env, if_pos rfl]
      split at h
      · rename_i v s1 hs
        refine step_ok hN hc hy hs (eval_of_env hD.env) hD.rel hD.fresh fun m' W' u g1 g2 g3 g4 => ?_
        exact ops_ok hN hc hy l (i + 1) _ s1 _ W' m' h2 h ⟨g2, g3, env_put (hD.env.mono g1.ext) g4, by rw [put_defers]; exact hD.marks.mono g1.ext⟩ (hG.trans g1) hQ
      · cases h
    · rename_i hw
      rw [wanted_ok hw hD.env]
      simp only [Bool.false_eq_true, if_false]
      refine ⟨about_any, ?_⟩
      exact ops_ok hN hc hy l (i + 1) _ s _ W m h2 h ⟨hD.rel, hD.fresh, env_put hD.env (.val _), by rw [put_defers]; exact hD.marks⟩ hG hQ
    · cases h
end
section
variable {P : Program} {R : Nat → Prop} {m : Mp} {r : Rec} {n : Nat} {k : Option Nat}
/-- a block that is given up, whatever lies in it now -/
theorem Rel.kill {H : T AObj} {W W' : World} {id : Nat} {o0 : AObj} {p : Pl} (r : Rel m H W.heap) (h0 : H.get id = some o0) (hp : m id = some p) (hk : ∀ b, b ≠ p.b → W'.heap[b]? = W.heap[b]?) (hs : W'.heap.size = W.heap.size)
    (h1 : W'.os = W.os) (h2 : W'.tape = W.tape) (h3 : W'.output = W.output) : Rel m (H.set D id none) W'.heap ∧ Grow m H W m (H.set D id none) W' := by
  have hH : ∀ j o, (H.set D id none).get j = some o → H.get j = some o ∧ ∀ q, m j = some q → q.b ≠ p.b := fun j o hj => by
    rcases T.get_set D H id none j o hj with ⟨_, e⟩ | ⟨hne, e⟩
    · cases e
    · exact ⟨e, fun q hq hb => hne (r.inj _ _ _ _ _ _ e h0 hq hp hb)⟩
  refine ⟨⟨fun j o hj => ?_, fun j j' o o' q q' hj hj' => r.inj j j' o o' q q' (hH j o hj).1 (hH j' o' hj').1⟩, ⟨.refl m, by omega, fun b hb hl => hk b fun e => hl ⟨id, o0, p, h0, hp, e.symm⟩, fun b hb => .inl (hb.sub (sub_none H id)), h1, h2, h3⟩⟩
  obtain ⟨e, hne⟩ := hH j o hj
  obtain ⟨q, hq, ho⟩ := r.obj j o e
  exact ⟨q, hq, ho.mono (.refl m) (hk _ (hne q hq))⟩
theorem fromArgs_get : ∀ (l : List RV) (i : Nat) (e : T RV) (t : Nat) (v : RV), (fromArgs i e l).get t = some v → (i ≤ t ∧ l[t - i]? = some v) ∨ e.get t = some v
  | [], i, e, t, v, h => .inr h
  | x :: l, i, e, t, v, h => by
    simp only [fromArgs] at h
    rcases fromArgs_get l (i + 1) _ t v h with ⟨h1, h2⟩ | h1
    · refine .inl ⟨by omega, ?_⟩
      rw [show t - i = (t - (i + 1)) + 1 by omega, List.getElem?_cons_succ]
      exact h2
    · rcases T.get_set D e i (some x) t v h1 with ⟨rfl, h2⟩ | ⟨_, h2⟩
      · exact .inl ⟨Nat.le_refl _, by simpa using h2⟩
      · exact .inr h2
theorem env_args {args : List RV} {us : List Value} (h : RVals m args us) (hl : args.length ≤ n) : EnvRel m n (fromArgs 0 .nil args) (us.toArray ++ Array.replicate (n - us.toArray.size) undef) := by
  have hlen := h.length
  refine ⟨by simp; omega, fun t v ht => ?_⟩
  rcases fromArgs_get args 0 .nil t v ht with ⟨_, h1⟩ | h1
  · rw [Nat.sub_zero] at h1
    obtain ⟨u, hu, hr⟩ := h.get h1
    refine ⟨u, ?_, hr⟩
    rw [Array.getElem?_append_left (by simpa using (List.getElem?_eq_some_iff.1 hu).1)]
    simpa using hu
  · cases h1
def resF (tmps : Array Value) : ResultVar → Sem Value
  | .tmp t => pure (tmps.getD t undef)
  | .cell a t => do loadVar t (← asAddr (tmps.getD a undef))
theorem results_eq (fn : Func) (tmps : Array Value) : results fn tmps = (fn.results.mapM (resF tmps) >>= fun vs => pure (if h : vs.size = 1 then vs[0] else .tuple vs)) := by
  unfold results
  congr 2
theorem result_ok {e : T RV} {s : S} {W : World} {tmps : Array Value} {x : ResultVar} {v : RV} (h : resultEv P e s x = some v) (hr : Rel m s.H W.heap) (he : EnvRel m n e tmps) :
    ∃ u, (resF tmps x).run P W = .ok u W ∧ RVal m v u := by
  unfold resultEv at h
  split at h
  · rename_i t
    obtain ⟨u, hu, hv⟩ := he.2 t v h
    refine ⟨u, ?_, hv⟩
    simp [resF, Array.getD_eq_getD_getElem?, hu]
  · rename_i a t
    split at h
    · rename_i id off ha
      split at h
      · rename_i cs hcs
        obtain ⟨u, hu, hv⟩ := he.2 a _ ha
        obtain ⟨p, hp, hq⟩ := hv.ptr_inv
        obtain ⟨w, hw1, hw2⟩ := r_part h (hr.cells (cells_of hcs) hp)
        refine ⟨w, ?_, hw2⟩
        simp [resF, Array.getD_eq_getD_getElem?, hu, hq, asAddr, hw1]
      · cases h
    · cases h
theorem results_list {e : T RV} {s : S} {W : World} {tmps : Array Value} (hr : Rel m s.H W.heap) (he : EnvRel m n e tmps) : ∀ {l : List ResultVar} {vs : List RV}, resultsEv P e s l = some vs →
    ∃ us, (l.mapM (resF tmps)).run P W = .ok us W ∧ RVals m vs us
  | [], vs, h => by simp [resultsEv] at h; subst h; exact ⟨[], rfl, .nil⟩
  | x :: l, vs, h => by
    simp only [resultsEv] at h
    split at h
    · rename_i v ws hv hws
      simp only [Option.some.injEq] at h
      subst h
      obtain ⟨u, h1, h2⟩ := result_ok hv hr he
      obtain ⟨us, h3, h4⟩ := results_list hr he hws
      refine ⟨u :: us, ?_, .cons h2 h4⟩
      rw [List.mapM_cons]
      simp only [Sem.run_bind, h1, Result.andThen_ok, h3, Sem.run_pure]
    · cases h
theorem results_ok {fn : Func} {e : T RV} {s : S} {W : World} {tmps : Array Value} {vs : List RV} (hr : Rel m s.H W.heap) (he : EnvRel m n e tmps) (h : resultsEv P e s fn.results.toList = some vs) : ∃ u, (results fn tmps).run P W = .ok u W ∧ RVal m (retEv vs) u := by
  obtain ⟨us, h1, h2⟩ := results_list hr he h
  have hrun : (fn.results.mapM (resF tmps)).run P W = .ok us.toArray W := by
    rw [Array.mapM_eq_mapM_toList, Sem.run_map, h1]; rfl
  have hl := h2.length
  rw [results_eq, Sem.run_bind, hrun]
  simp only [Result.andThen_ok]
  by_cases h1' : us.length = 1
  · obtain ⟨u, rfl⟩ : ∃ u, us = [u] := by
      match us, h1' with
      | [u], _ => exact ⟨u, rfl⟩
    obtain ⟨v, rfl⟩ : ∃ v, vs = [v] := by
      match vs, hl with
      | [v], _ => exact ⟨v, rfl⟩
    obtain ⟨_, e1, hv⟩ := h2.one_inv
    cases e1
    exact ⟨u, by simp, hv⟩
  · refine ⟨.tuple us.toArray, by simp [h1'], ?_⟩
    have : retEv vs = .tup vs := by
      unfold retEv
      split
      · rename_i v; simp at hl; exact absurd hl h1'
      · rfl
    rw [this]
    exact .tup h2
theorem leaves_ok {fn : Func} {tmps : Array Value} {e : T RV} {vs : List RV} {m0 : Mp} {s0 : S} {W0 : World} (he : EnvRel m n e tmps) : ∀ {mks : List Nat} {ds : List Deferred} {s s' : S} {W : World}, MarksRel m mks ds → killMarks mks s = some s' → resultsEv P e s' fn.results.toList = some vs → Rel m s.H W.heap → Fresh R m s.nx → Grow m0 s0.H W0 m s.H W →
    LeavesInM Fence.wide 0 P fn tmps (VPost R m0 s0 W0 (retEv vs) s') ds .returning W
  | [], _, s, s', W, .nil, hk, hv, hr, hf, hg => by
    simp only [killMarks, Option.some.injEq] at hk
    subst hk
    obtain ⟨u, h1, h2⟩ := results_ok hr he hv
    exact ⟨u, h1, m, u, rfl, hg, hr, hf, h2⟩
  | id :: l, _, s, s', W, .cons (p := p) hp hm, hk, hv, hr, hf, hg => by
    simp only [killMarks] at hk
    split at hk
    · rename_i hd
      obtain ⟨q, hq, ho⟩ := hr.obj id _ hd
      have e1 : q = p := Option.some.inj (hq.symm.trans hp)
      subst e1
      have hat : W.heap[q.b]? = some (.deferred (some [])) := ho
      have hlt := ho.lt
      obtain ⟨k1, k2⟩ := hr.kill (W' := { W with heap := W.heap.setIfInBounds q.b (.deferred none) }) hd hq (fun b hb => Array.getElem?_setIfInBounds_ne (Ne.symm hb)) (by simp) rfl rfl rfl
      refine ⟨by simp, .inl ⟨q.b, { W with heap := W.heap.setIfInBounds q.b (.deferred none) }, rfl, ?_, leaves_ok he hm hk hv k1 hf (hg.trans k2)⟩⟩
      simp [Instr.takeDeferred, getObj, setObj, Sem.run, hat]
    · cases hk
theorem call_ok {N : Nat} (hcode : ∀ {R st c d x d' m k a W}, r.code st c d = some (x, d') → DRel R m st.n d a W → RoundRel m st.round k → c.wpIn (Fof k) 0 P (CPost R m d.s W st.n x d') a W) : ∀ {R f args s v s' m W us}, callF P r f args s = some (v, s') → Rel m s.H W.heap → Fresh R m s.nx → RVals m args us → (∃ fn, P.funcs[f]? = some fn ∧ fn.body.isSome = true) ∧ CallsIn Fence.wide 0 P f us.toArray W (VPost R m s W v s') := by
  intro R f args s v s' m W us h hr hf ha
  unfold callF at h
  split at h
  · rename_i fn hfn
    split at h
    · rename_i c hc
      refine ⟨⟨fn, hfn, by simp [hc]⟩, ?_⟩
      cases hle : Nat.ble args.length fn.ntmps with
      | false => rw [hle] at h; cases h
      | true =>
        rw [hle] at h
        simp only [cond_true] at h
        split at h
        · rename_i x d hd
          have hDR : DRel R m fn.ntmps ⟨fromArgs 0 .nil args, [], s⟩ { tmps := us.toArray ++ Array.replicate (fn.ntmps - us.toArray.size) undef, defers := [] } W := ⟨hr, hf, env_args ha (Nat.le_of_ble_eq_true hle), .nil⟩
          have hw := hcode (k := none) hd hDR (.inl ⟨rfl, rfl⟩)
          refine callsIn_of_wp_marks hfn hc trivial (wpIn_mono hw fun e a' W' hp => ?_)
          obtain ⟨rfl, m', hg, hD⟩ := hp
          have fin : (match killMarks d.mks d.s with
            | some s => (match resultsEv P d.e s fn.results.toList with
              | some vs => some (retEv vs, s)
              | none => none)
            | none => none) = some (v, s') → LeavesInM Fence.wide 0 P fn a'.tmps (VPost R m s W v s') a'.defers .returning W' := by
            intro h
            split at h
            · rename_i s2 hk
              split at h
              · rename_i vs hv
                simp only [Option.some.injEq, Prod.mk.injEq] at h
                obtain ⟨rfl, rfl⟩ := h
                exact leaves_ok hD.env hD.marks hk hv hD.rel hD.fresh hg
              · cases h
            · cases h
          cases x with
          | normal => exact fin h
          | ret => exact fin h
          | exit id => cases h
          | goto l => cases h
        · cases h
    · cases h
  · cases h
theorem setTmps_ok : ∀ {ps : List Tmp} {args : List RV} {us : List Value} {e : T RV} {tmps : Array Value}, EnvRel m n e tmps → RVals m args us → EnvRel m n (setTmps n e ps args) ((ps.zip us).foldl (fun tmps (x : Tmp × Value) => tmps.setIfInBounds x.1 x.2) tmps)
  | [], args, us, e, tmps, h, _ => by simpa [setTmps] using h
  | p :: ps, _, _, e, tmps, h, .nil => by simpa [setTmps] using h
  | p :: ps, _, _, e, tmps, h, .cons (x := x) (v := v) hx hr => by
    simp only [setTmps, List.zip_cons_cons, List.foldl_cons]
    have := env_put (a := { tmps := tmps, defers := [] }) (d := some p) h hx
    exact setTmps_ok this hr
theorem Rel.loopAt {H : T AObj} {h : Array Obj} {id : Nat} {L : ALoop} {p : Pl} (r : Rel m H h) (hg : H.get id = some (.loop L)) (hp : m id = some p) : ∃ l, h[p.b]? = some (.loop l) ∧ LoopRel m L l := by
  obtain ⟨q, hq, hc⟩ := r.obj id _ hg
  have e1 : q = p := Option.some.inj (hq.symm.trans hp)
  subst e1
  exact hc
theorem r_getLoop {W : World} {b : Nat} {l : Loop} (h : W.heap[b]? = some (.loop l)) : (Instr.getLoop b).run P W = .ok l W := by simp [Instr.getLoop, getObj, Sem.run, h]
theorem r_setLoop {W : World} {b : Nat} {l l' : Loop} (h : W.heap[b]? = some (.loop l)) : (setObj b (.loop l')).run P W = .ok () { W with heap := W.heap.setIfInBounds b (.loop l') } := by simp [setObj, Sem.run, h]
theorem yield_ok (hcode : ∀ {R st c d x d' m k a W}, r.code st c d = some (x, d') → DRel R m st.n d a W → RoundRel m st.round k → c.wpIn (Fof k) 0 P (CPost R m d.s W st.n x d') a W) : ∀ {R l args s v s' m W us p}, yieldF P r l args s = some (v, s') → Rel m s.H W.heap → Fresh R m s.nx → RVals m args us → m l = some p →
    ∃ f tmps assign body, (Instr.yield p.b us.toArray).run P W = .ok (.round p.b f tmps assign body) W ∧ RoundIn Fence.wide 0 P p.b f tmps assign body W (VPost R m s W v s') := by
  intro R l args s v s' m W us p h hr hf ha hp
  unfold yieldF at h
  split at h
  · rename_i L hg
    obtain ⟨lo, a1, a2⟩ := hr.loopAt hg hp
    split at h
    · rename_i hst
      cases hlen : (args.length == L.params.length) with
      | false => rw [hlen] at h; cases h
      | true =>
        rw [hlen] at h
        simp only [cond_true] at h
        rw [beq_iff_eq] at hlen
        split at h
        · rename_i d hd
          split at h
          · rename_i L1 hg1
            split at h
            · rename_i hst1
              split at h
              · rename_i x d2 hd2
                split at h
                · rename_i L2 hg2
                  simp only [Option.some.injEq, Prod.mk.injEq] at h
                  obtain ⟨rfl, rfl⟩ := h
                  have hul := ha.length
                  refine ⟨lo.fn, (L.params.zip us).foldl (fun tmps (x : Tmp × Value) => tmps.setIfInBounds x.1 x.2) lo.tmps, L.assign, L.body, ?_, ?_⟩
                  · have hsz : ¬ (us.toArray.size ≠ lo.params.size) := by rw [a2.params]; simp; omega
                    simp only [Instr.yield, Sem.run_bind, r_getLoop a1, Result.andThen_ok, if_neg hsz, Sem.run_pure, a2.assign, a2.body, a2.params]
                    congr 2
                    rw [← Array.foldl_toList]
                    simp
                    try omega
                  · have hDR : DRel R m L.n ⟨setTmps L.n L.tmps L.params args, [], s⟩ { tmps := (L.params.zip us).foldl (fun tmps (x : Tmp × Value) => tmps.setIfInBounds x.1 x.2) lo.tmps, defers := [] } W := ⟨hr, hf, setTmps_ok a2.tmps ha, .nil⟩
                    have hw := hcode (st := ⟨L.n, some l⟩) (k := some p.b) hd hDR (.inr ⟨l, p, rfl, hp, rfl⟩)
                    refine roundIn_of_wpIn (F := Fence.wide) trivial (wpIn_mono hw fun e1 b1 W1 hp1 => ?_)
                    obtain ⟨rfl, m1, g1, D1⟩ := hp1
                    have hpl1 := g1.ext _ _ hp
                    obtain ⟨lo1, b2, b3⟩ := D1.rel.loopAt hg1 hpl1
                    have hlt1 : p.b < W1.heap.size := (Array.getElem?_eq_some_iff.1 b2).1
                    obtain ⟨k1, k2⟩ := D1.rel.change (W' := { W1 with heap := W1.heap.setIfInBounds p.b (.loop { lo1 with state := .busy }) }) (o := .loop { L1 with state := .busy }) hg1 hpl1
                      ⟨{ lo1 with state := .busy }, by simp [hlt1], ⟨rfl, b3.pending, b3.params, b3.assign, b3.body, b3.tmps⟩⟩ (fun b hb => Array.getElem?_setIfInBounds_ne (Ne.symm hb)) (by simp) rfl rfl rfl
                    refine ⟨{ W1 with heap := W1.heap.setIfInBounds p.b (.loop { lo1 with state := .busy }) }, ?_, ?_⟩
                    · have : lo1.state = .ready := by rw [b3.state, hst1]
                      simp [Instr.beginRound, r_getLoop b2, r_setLoop b2, this]
                    · have hw2 := hcode (st := ⟨L.n, some l⟩) (k := some p.b) hd2 (a := b1) (W := { W1 with heap := W1.heap.setIfInBounds p.b (.loop { lo1 with state := .busy }) }) (m := m1) ⟨k1, D1.fresh, D1.env, D1.marks⟩ (.inr ⟨l, p, rfl, hpl1, rfl⟩)
                      refine wpIn_mono hw2 fun e2 b2' W2 hp2 => ?_
                      obtain ⟨rfl, m2, g2, D2⟩ := hp2
                      have hpl2 := g2.ext _ _ hpl1
                      obtain ⟨lo2, c2, c3⟩ := D2.rel.loopAt hg2 hpl2
                      have hlt2 : p.b < W2.heap.size := (Array.getElem?_eq_some_iff.1 c2).1
                      have key : ∀ j : Option Code, j = jumpOf x → ∃ v W3, (Instr.endRound p.b j).run P W2 = .ok v W3 ∧ VPost R m s W (.val (.bool (jumpOf x).isNone)) (d2.s.put l (some (.loop { L2 with state := bif (jumpOf x).isNone then .ready else .done, pending := jumpOf x }))) (.returned v) W3 := by
                        intro j hj
                        subst hj
                        obtain ⟨q1, q2⟩ := D2.rel.change (W' := { W2 with heap := W2.heap.setIfInBounds p.b (.loop { lo2 with state := if (jumpOf x).isNone then .ready else .done, pending := jumpOf x }) }) (o := .loop { L2 with state := bif (jumpOf x).isNone then .ready else .done, pending := jumpOf x }) hg2 hpl2
                          ⟨{ lo2 with state := if (jumpOf x).isNone then .ready else .done, pending := jumpOf x }, by simp [hlt2], ⟨by cases (jumpOf x).isNone <;> rfl, rfl, c3.params, c3.assign, c3.body, c3.tmps⟩⟩ (fun b hb => Array.getElem?_setIfInBounds_ne (Ne.symm hb)) (by simp) rfl rfl rfl
                        refine ⟨.bool (jumpOf x).isNone, _, ?_, m2, _, rfl, (g1.trans (k2.trans g2)).trans q2, q1, D2.fresh, .val _⟩
                        simp [Instr.endRound, r_getLoop c2, r_setLoop c2]
                      cases x with
                      | normal => exact key none rfl
                      | ret => exact key (some .ret) rfl
                      | exit id => exact key (some (.exit id)) rfl
                      | goto t => exact key (some (.goto t)) rfl
                · cases h
              · cases h
            · cases h
          · cases h
        · cases h
    · cases h
  · cases h
end
structure SCode (P : Program) (r : Rec) (N : Nat) : Prop where
  ok : ∀ {R st c d x d' m k a W}, r.code st c d = some (x, d') → DRel R m st.n d a W → RoundRel m st.round k → c.wpIn (Fof k) 0 P (CPost R m d.s W st.n x d') a W
  rounds : ∀ {R st b d x d' m k a W}, r.code st (.loop b) d = some (x, d') → DRel R m st.n d a W → RoundRel m st.round k → Code.roundsIn (Fof k) 0 P b (CPost R m d.s W st.n x d') N a W
/-- a region that draws its order -/
structure DrawOk (P : Program) (r : Rec) : Prop where
  ok : ∀ {R : Nat → Prop} {n : Nat} {ops : Array Oper} {e : T RV} {s : S} {e' : T RV} {s' : S} {m : Mp} {k : Option Nat} {a : Act} {W : World} {mks : List Nat} {Q : Exit → Act → World → Prop}, drawEv P r n ops e s = some (e', s') → DRel R m n ⟨e, mks, s⟩ a W →
  (∀ m' a' W', Grow m s.H W m' s'.H W' → DRel R m' n ⟨e', mks, s'⟩ a' W' → Q .normal a' W') → wpAnyIn (Fof k) 0 P .any ops Q ops.size (Array.replicate ops.size false) a W
section
variable {P : Program} {R : Nat → Prop} {m : Mp} {r : Rec} {n : Nat} {k : Option Nat}
theorem fresh_upd {nx : Nat} {p : Pl} (h : Fresh R m nx) : Fresh R (upd m nx p) (nx + 1) := by
  refine ⟨fun id hid => ?_, fun id hid => ?_⟩
  · unfold upd
    rw [if_neg (by omega)]
    exact h.1 id (by omega)
  · obtain ⟨h3, h4⟩ := h.2 id hid
    unfold upd
    rw [if_neg (by omega)]
    exact ⟨by omega, h4⟩
theorem CPost.trans {m1 : Mp} {s s1 : S} {W W1 W2 : World} {x : AX} {d : Dy} {e : Exit} {a : Act} (g : Grow m s.H W m1 s1.H W1) (h : CPost R m1 s1 W1 n x d e a W2) : CPost R m s W n x d e a W2 := by
  obtain ⟨rfl, m2, g2, D2⟩ := h
  exact ⟨rfl, m2, g.trans g2, D2⟩
theorem roundsIn_mono {F : Fence} {c : Code} {Q Q' : Exit → Act → World → Prop} (hq : ∀ e a w, Q e a w → Q' e a w) : ∀ (M : Nat) (a : Act) (w : World), Code.roundsIn F 0 P c Q M a w → Code.roundsIn F 0 P c Q' M a w
  | 0, _, _, h => h.elim
  | M + 1, a, w, h => by
    rw [roundsIn_succ] at h ⊢
    refine wpIn_mono h fun e a1 w1 h1 => ?_
    cases e with
    | normal => exact roundsIn_mono hq M a1 w1 h1
    | exit id => exact hq _ _ _ h1
    | goto l => exact hq _ _ _ h1
    | ret => exact hq _ _ _ h1
    | panic ch => exact hq _ _ _ h1
    | outgrown => exact hq _ _ _ h1
theorem rounds_of {st : St} {b : Code} {d d' : Dy} {x : AX} {a : Act} {W : World} {N : Nat} (hS : SCode P r N)
    (ih : ∀ {d : Dy} {x : AX} {d' : Dy} {m : Mp} {a : Act} {W : World}, codeF P r st b d = some (x, d') → DRel R m st.n d a W → RoundRel m st.round k → b.wpIn (Fof k) 0 P (CPost R m d.s W st.n x d') a W)
    (h : codeF P r st (.loop b) d = some (x, d')) (hD : DRel R m st.n d a W) (hR : RoundRel m st.round k) : Code.roundsIn (Fof k) 0 P b (CPost R m d.s W st.n x d') (N + 1) a W := by
  rw [roundsIn_succ]
  simp only [codeF] at h
  cases hb : codeF P r st b d with
  | none => rw [hb] at h; cases h
  | some q =>
    obtain ⟨x1, d1⟩ := q
    rw [hb] at h
    have hw := ih hb hD hR
    cases x1 with
    | normal =>
      simp only at h
      refine wpIn_mono hw fun e a1 W1 hp => ?_
      obtain ⟨rfl, m1, g1, D1⟩ := hp
      exact roundsIn_mono (fun e a2 W2 hp => hp.trans g1) N a1 W1 (hS.rounds h D1 (hR.mono g1.ext))
    | exit id =>
      simp only [Option.some.injEq, Prod.mk.injEq] at h
      obtain ⟨rfl, rfl⟩ := h
      refine wpIn_mono hw fun e a1 W1 hp => ?_
      obtain ⟨rfl, h2⟩ := hp
      exact ⟨rfl, h2⟩
    | goto l =>
      simp only [Option.some.injEq, Prod.mk.injEq] at h
      obtain ⟨rfl, rfl⟩ := h
      refine wpIn_mono hw fun e a1 W1 hp => ?_
      obtain ⟨rfl, h2⟩ := hp
      exact ⟨rfl, h2⟩
    | ret =>
      simp only [Option.some.injEq, Prod.mk.injEq] at h
      obtain ⟨rfl, rfl⟩ := h
      refine wpIn_mono hw fun e a1 W1 hp => ?_
      obtain ⟨rfl, h2⟩ := hp
      exact ⟨rfl, h2⟩
theorem range_tail {N : Nat} {st : St} {gop : Operand} {d' : Dy} {e0 : T RV} {s0 s1 s2 : S} {mk : List Nat} {m2 : Mp} {a : Act} {W w1 : World} {pl : Pl} {id : Nat} {mark : List Deferred} {g : FuncId} {first caps : List RV} {v : RV} {x : AX}
    (hN : Named P) (hS : SCode P r N) (hC : SCall P r) (hg : RVal m2 (.fn g first caps) (a.eval gop)) (hid : m2 id = some pl) (h : r.call g (first ++ [.yield id] ++ caps) s1 = some (v, s2))
    (hpost : (match s2.H.get id with
      | some (.loop L) => (match L.state with
        | .busy => none
        | _ => (match L.pending with
          | none => some (.normal, ⟨e0, mk, s2.put id none⟩)
          | some c => r.code st c ⟨e0, mk, s2.put id none⟩))
      | _ => none) = some (x, d'))
    (hrel : Rel m2 s1.H w1.heap) (hfr : Fresh R m2 s1.nx) (henv : EnvRel m2 st.n e0 a.tmps) (hmk : MarksRel m2 mk (mark ++ a.defers)) (hG : Grow m s0.H W m2 s1.H w1) (hR : RoundRel m2 st.round k) :
    ∃ (dd : Deferred) (w1' : World) (f : FuncId) (args : Array Value) (w2 : World), (resolve a.eval (rangeCall gop pl.b) 0).run P w1 = .ok dd w1' ∧
      (∀ f', Target.leads P w1' dd.target dd.args = some f' → (Fof k).fn f') ∧ (invoke dd.target dd.args).run P w1' = .ok (.enter f args) w2 ∧ ((Fof k).depth.isSome = true → 1 ≤ 0) ∧
      CallsIn (Fof k) (0 - 1) P f args w2 (rangePost (Fof k) 0 P pl.b (CPost R m s0 W st.n x d') { a with defers := mark ++ a.defers }) := by
  obtain ⟨fv, cv, q1, q2, q3⟩ := hg.fn_inv
  obtain ⟨⟨fn, hfn, hb⟩, hcall⟩ := hC.ok h hrel hfr ((q1.append (.cons (.yield hid) .nil)).append q2)
  have hbn : fn.body.isNone = false := by cases hbb : fn.body <;> simp [hbb] at hb ⊢
  refine ⟨{ target := .fn (.func g) cv.toArray, args := fv.toArray ++ #[Value.func (.yield pl.b) #[] #[]] }, w1, g, (fv ++ [Value.func (.yield pl.b) #[] #[]] ++ cv).toArray, w1, ?_, fun _ _ => trivial, ?_, by simp [Fof, Fence.wide], ?_⟩
  · simp only [rangeCall, resolve, q3, Deferred.ofValue, Sem.run_bind, Sem.run_pure, Result.andThen_ok]
    simp [Act.eval]
  · simp only [invoke, callFunc, Sem.run_bind, Sem.run_pure, Result.andThen_ok, run_program, hfn, hN g fn hfn, hbn, Bool.false_eq_true, if_false]
    simp
  · have hcall2 : CallsIn (Fof k) 0 P g (fv ++ [Value.func (.yield pl.b) #[] #[]] ++ cv).toArray w1 (VPost R m2 s1 w1 v s2) := by
      cases k with
      | none => exact hcall
      | some l => exact hcall.inRound l
    refine hcall2.mono fun e' W' hp => ?_
    obtain ⟨m3, u, rfl, p1, p2, p3, p4⟩ := hp
    cases hL : s2.H.get id with
    | none => rw [hL] at hpost; cases hpost
    | some ob =>
      rw [hL] at hpost
      cases ob with
      | loop L =>
        simp only at hpost
        obtain ⟨lo, a1, a2⟩ := p2.loopAt hL (p1.ext _ _ hid)
        have hnb : lo.state ≠ .busy := fun hb => by rw [a2.state] at hb; rw [hb] at hpost; cases hpost
        have hpost2 : (match L.pending with
          | none => some (.normal, ⟨e0, mk, s2.put id none⟩)
          | some c => r.code st c ⟨e0, mk, s2.put id none⟩) = some (x, d') := by
          cases hs : L.state <;> rw [hs] at hpost <;> first | exact hpost | cases hpost
        obtain ⟨k1, k2⟩ := p2.kill (W' := W'.putObj pl.b (.loop { lo with state := .exhausted })) hL (p1.ext _ _ hid) (fun b hb => World.putObj_heap_other hb) World.putObj_size rfl rfl rfl
        refine ⟨lo.pending, _, run_endLoop a1 hnb, ?_⟩
        generalize W'.putObj pl.b (.loop { lo with state := .exhausted }) = W4 at k1 k2 ⊢
        rw [a2.pending]
        have hDR : DRel R m3 st.n ⟨e0, mk, s2.put id none⟩ { a with defers := mark ++ a.defers } W4 := ⟨k1, p3, henv.mono p1.ext, hmk.mono p1.ext⟩
        cases hp : L.pending with
        | none =>
          rw [hp] at hpost2
          simp only [Option.some.injEq, Prod.mk.injEq] at hpost2
          obtain ⟨rfl, rfl⟩ := hpost2
          exact ⟨rfl, m3, (hG.trans p1).trans k2, hDR⟩
        | some c =>
          rw [hp] at hpost2
          exact wpIn_mono (hS.ok hpost2 hDR (hR.mono p1.ext)) fun e a1 w1 hp => hp.trans ((hG.trans p1).trans k2)
      | _ => cases hpost
theorem code_ok {N : Nat} (hN : Named P) (hS : SCode P r N) (hC : SCall P r) (hY : SYield P r) (hdr : DrawOk P r) (hm : P.follows .mixedOrders = true) {st : St} : ∀ (c : Code) {d : Dy} {x : AX} {d' : Dy} {m : Mp} {a : Act} {W : World}, codeF P r st c d = some (x, d') → DRel R m st.n d a W → RoundRel m st.round k → c.wpIn (Fof k) 0 P (CPost R m d.s W st.n x d') a W := by
  intro c
  induction c with
  | skip =>
    intro d x d' m a W h hD hR
    simp only [codeF, Option.some.injEq, Prod.mk.injEq] at h
    obtain ⟨rfl, rfl⟩ := h
    exact wpIn_skip ⟨rfl, m, .refl _ _ _, hD⟩
  | label l =>
    intro d x d' m a W h hD hR
    simp only [codeF, Option.some.injEq, Prod.mk.injEq] at h
    obtain ⟨rfl, rfl⟩ := h
    exact wpIn_label ⟨rfl, m, .refl _ _ _, hD⟩
  | region id ops draw =>
    intro d x d' m a W h hD hR
    simp only [codeF] at h
    cases draw with
    | false =>
      simp only [cond_false] at h
      split at h
      · rename_i e s he
        simp only [Option.some.injEq, Prod.mk.injEq] at h
        obtain ⟨rfl, rfl⟩ := h
        refine wpIn_region ?_
        have := ops_ok (k := k) (W0 := W) (m0 := m) (s0 := d.s) (mks := d.mks) (Q := CPost R m d.s W st.n .normal ⟨e, d.mks, s⟩) hN hC hY ops.toList 0 d.e d.s a W m rfl he hD (.refl _ _ _) fun m' a' W' g D => ⟨rfl, m', g, D⟩
        rw [List.range_eq_range']
        simpa using this
      · cases h
    | true =>
      simp only [cond_true] at h
      split at h
      · rename_i e s he
        simp only [Option.some.injEq, Prod.mk.injEq] at h
        obtain ⟨rfl, rfl⟩ := h
        exact wpIn_region_any hm (hdr.ok (W := { W with drawn := W.drawn + 1 }) he ⟨hD.rel, hD.fresh, hD.env, hD.marks⟩ fun m' a' W' g D => ⟨rfl, m', ⟨g.ext, g.size, g.keep, g.own, g.os, g.tape, g.output⟩, D⟩)
      · cases h
  | seq p q ihp ihq =>
    intro d x d' m a W h hD hR
    simp only [codeF] at h
    cases hb : codeF P r st p d with
    | none => rw [hb] at h; cases h
    | some z =>
      obtain ⟨x1, d1⟩ := z
      rw [hb] at h
      refine wpIn_seq (wpIn_mono (ihp hb hD hR) fun e a1 W1 hp => ?_)
      cases x1 with
      | normal =>
        obtain ⟨rfl, m1, g1, D1⟩ := hp
        exact wpIn_mono (ihq h D1 (hR.mono g1.ext)) fun e a2 W2 hp => hp.trans g1
      | exit id => simp only [Option.some.injEq, Prod.mk.injEq] at h; obtain ⟨rfl, rfl⟩ := h; obtain ⟨rfl, h2⟩ := hp; exact ⟨rfl, h2⟩
      | goto l => simp only [Option.some.injEq, Prod.mk.injEq] at h; obtain ⟨rfl, rfl⟩ := h; obtain ⟨rfl, h2⟩ := hp; exact ⟨rfl, h2⟩
      | ret => simp only [Option.some.injEq, Prod.mk.injEq] at h; obtain ⟨rfl, rfl⟩ := h; obtain ⟨rfl, h2⟩ := hp; exact ⟨rfl, h2⟩
  | cond c p q ihp ihq =>
    intro d x d' m a W h hD hR
    simp only [codeF] at h
    split at h
    · rename_i t ht
      have hc : a.eval c = .bool t := by
        have := (eval_of_env hD.env) c _ ht
        have := this.val_inv
        first | exact this | exact this.symm
      refine wpIn_cond hc ?_
      cases t with
      | true => exact ihp h hD hR
      | false => exact ihq h hD hR
    · cases h
  | block id b ih =>
    intro d x d' m a W h hD hR
    simp only [codeF] at h
    cases hb : codeF P r st b d with
    | none => rw [hb] at h; cases h
    | some z =>
      obtain ⟨x1, d1⟩ := z
      rw [hb] at h
      refine wpIn_block (wpIn_mono (ih hb hD hR) fun e a1 W1 hp => ?_)
      obtain ⟨rfl, h2⟩ := hp
      cases x1 with
      | normal => simp only [Option.some.injEq, Prod.mk.injEq] at h; obtain ⟨rfl, rfl⟩ := h; exact ⟨rfl, h2⟩
      | goto l => simp only [Option.some.injEq, Prod.mk.injEq] at h; obtain ⟨rfl, rfl⟩ := h; exact ⟨rfl, h2⟩
      | ret => simp only [Option.some.injEq, Prod.mk.injEq] at h; obtain ⟨rfl, rfl⟩ := h; exact ⟨rfl, h2⟩
      | exit j =>
        simp only [Option.some.injEq, Prod.mk.injEq] at h
        obtain ⟨h1, rfl⟩ := h
        show if j = id then _ else _
        cases hj : (j == id) with
        | true =>
          rw [hj] at h1
          rw [if_pos (by simpa using hj)]
          exact ⟨by rw [← h1]; rfl, h2⟩
        | false =>
          rw [hj] at h1
          rw [if_neg (by simpa using hj)]
          exact ⟨by rw [← h1]; rfl, h2⟩
  | loop b ih =>
    intro d x d' m a W h hD hR
    exact wpIn_loop_rounds (N + 1) (rounds_of hS ih h hD hR)
  | scope b ih =>
    intro d x d' m a W h hD hR
    simp [codeF] at h
  | exit id =>
    intro d x d' m a W h hD hR
    simp only [codeF, Option.some.injEq, Prod.mk.injEq] at h
    obtain ⟨rfl, rfl⟩ := h
    exact wpIn_exit ⟨rfl, m, .refl _ _ _, hD⟩
  | goto l =>
    intro d x d' m a W h hD hR
    simp only [codeF, Option.some.injEq, Prod.mk.injEq] at h
    obtain ⟨rfl, rfl⟩ := h
    exact wpIn_goto ⟨rfl, m, .refl _ _ _, hD⟩
  | ret =>
    intro d x d' m a W h hD hR
    simp only [codeF, Option.some.injEq, Prod.mk.injEq] at h
    obtain ⟨rfl, rfl⟩ := h
    exact wpIn_ret ⟨rfl, m, .refl _ _ _, hD⟩
  | refuse _ =>
    intro d x d' m a W h hD hR
    simp [codeF] at h
  | rangeFunc g params assign body iha ihb =>
    intro d x d' m a W h hD hR
    simp only [codeF] at h
    split at h
    · rename_i g' first caps hg
      have hgr := (eval_of_env hD.env) g _ hg
      refine wpIn_rangeFunc fun fn _ => ?_
      rcases hR with ⟨e1, rfl⟩ | ⟨i, p, e1, hp, rfl⟩
      · rw [e1] at h
        simp only at h
        split at h
        · rename_i v s2 hcall
          have f1 : Fresh R (upd m d.s.nx ⟨W.heap.size, 0, 0⟩) (d.s.nx + 1) := fresh_upd hD.fresh
          obtain ⟨r1, g1⟩ := hD.rel.make (id := d.s.nx) (o := .defd) (ob := .deferred (some [])) (o0 := 0) (n := 0) (W' := W.alloc (.deferred (some []))) (hD.fresh.1 _ (Nat.le_refl _)) rfl (World.alloc_heap_new _ _) rfl rfl rfl
          obtain ⟨r2, g2⟩ := r1.make (id := d.s.nx + 1) (o := .loop { state := .ready, pending := none, n := st.n, tmps := d.e, params := params.toList, assign, body, defers := d.s.nx })
            (ob := .loop { state := .ready, pending := none, fn, tmps := a.tmps, params := params, assign, body, defers := W.heap.size }) (o0 := 0) (n := 0)
            (W' := (W.alloc (.deferred (some []))).alloc (.loop { state := .ready, pending := none, fn, tmps := a.tmps, params := params, assign, body, defers := W.heap.size })) (f1.1 _ (Nat.le_refl _)) rfl
            ⟨_, World.alloc_heap_new _ _, ⟨rfl, rfl, by simp, rfl, rfl, (hD.env.mono g1.ext).mono (le_upd (f1.1 _ (Nat.le_refl _)))⟩⟩ rfl rfl rfl
          have f2 : Fresh R (upd (upd m d.s.nx ⟨W.heap.size, 0, 0⟩) (d.s.nx + 1) ⟨(W.alloc (.deferred (some []))).heap.size, 0, 0⟩) (d.s.nx + 1 + 1) := fresh_upd f1
          have hx := g1.ext.trans g2.ext
          obtain ⟨dd, w1', f', args', w2, t1, t2, t3, t4, t5⟩ := range_tail (k := none) (s0 := d.s) (W := W) hN hS hC (hgr.mono hx) (mark := [{ target := .collected W.heap.size, args := #[] }]) (upd_at _ _ _) hcall h r2 f2 (hD.env.mono hx) (.cons (g2.ext _ _ (upd_at m d.s.nx ⟨W.heap.size, 0, 0⟩)) (hD.marks.mono hx)) (g1.trans g2) (.inl ⟨e1, rfl⟩)
          refine ⟨_, _, _, dd, w1', f', args', w2, ?_, t1, t2, t3, t4, t5⟩
          show (Instr.enterLoop fn a.tmps params assign body none).run P W = _
          rw [run_enterLoop_outer, World.size_alloc]
        · cases h
      · rw [e1] at h
        simp only at h
        cases hL : d.s.H.get i with
        | none => rw [hL] at h; cases h
        | some ob =>
          rw [hL] at h
          cases ob with
          | loop L =>
            simp only at h
            obtain ⟨lo, a1, a2⟩ := hD.rel.loopAt hL hp
            split at h
            · rename_i v s2 hcall
              obtain ⟨r1, g1⟩ := hD.rel.make (id := d.s.nx) (o := .loop { state := .ready, pending := none, n := st.n, tmps := d.e, params := params.toList, assign, body, defers := L.defers })
                (ob := .loop { state := .ready, pending := none, fn, tmps := a.tmps, params := params, assign, body, defers := lo.defers }) (o0 := 0) (n := 0)
                (W' := W.alloc (.loop { state := .ready, pending := none, fn, tmps := a.tmps, params := params, assign, body, defers := lo.defers })) (hD.fresh.1 _ (Nat.le_refl _)) rfl
                ⟨_, World.alloc_heap_new _ _, ⟨rfl, rfl, by simp, rfl, rfl, hD.env.mono (le_upd (hD.fresh.1 _ (Nat.le_refl _)))⟩⟩ rfl rfl rfl
              have f1 : Fresh R (upd m d.s.nx ⟨W.heap.size, 0, 0⟩) (d.s.nx + 1) := fresh_upd hD.fresh
              obtain ⟨dd, w1', f', args', w2, t1, t2, t3, t4, t5⟩ := range_tail (k := some p.b) (s0 := d.s) (W := W) hN hS hC (hgr.mono g1.ext) (mark := []) (upd_at _ _ _) hcall h r1 f1 (hD.env.mono g1.ext) (hD.marks.mono g1.ext) g1 (.inr ⟨i, p, e1, g1.ext _ _ hp, rfl⟩)
              refine ⟨_, _, _, dd, w1', f', args', w2, ?_, t1, t2, t3, t4, t5⟩
              show (Instr.enterLoop fn a.tmps params assign body (some p.b)).run P W = _
              rw [run_enterLoop_inner a1]
            · cases h
          | _ => cases h
    · cases h
end
theorem all_ok {P : Program} (hN : Named P) (hm : P.follows .mixedOrders = true) (hdr : ∀ r, SCall P r → SYield P r → DrawOk P r) : ∀ N, SCode P (ev P N) N ∧ SCall P (ev P N) ∧ SYield P (ev P N)
  | 0 => by
    refine ⟨⟨fun h => ?_, fun h => ?_⟩, ⟨fun h => ?_⟩, ⟨fun h => ?_⟩⟩ <;> exact absurd h (by simp [ev, Rec.none])
  | N + 1 => by
    obtain ⟨h1, h2, h3⟩ := all_ok hN hm hdr N
    have hd := hdr _ h2 h3
    refine ⟨⟨fun {R st c d x d' m k a W} h hD hR => ?_, fun {R st b d x d' m k a W} h hD hR => ?_⟩, ⟨fun {R f args s v s' m W us} h hr hf ha => ?_⟩, ⟨fun {R l args s v s' m W us p} h hr hf ha hp => ?_⟩⟩
    · exact code_ok hN h1 h2 h3 hd hm c h hD hR
    · exact rounds_of h1 (fun h hD hR => code_ok hN h1 h2 h3 hd hm b h hD hR) h hD hR
    · exact call_ok (N := N) (fun h hD hR => h1.ok h hD hR) h hr hf ha
    · exact yield_ok (fun h hD hR => h1.ok h hD hR) h hr hf ha hp
/-- what a closed call does -/
theorem calls_of_ev {P : Program} (hN : Named P) (hm : P.follows .mixedOrders = true) (hdr : ∀ r, SCall P r → SYield P r → DrawOk P r) {f N : Nat} {v : Value} {s' : S} (h : (ev P N).call f [] ⟨.nil, 0⟩ = some (.val v, s')) (W : World) :
    CallsIn Fence.wide 0 P f #[] W fun e W' => e = .returned v ∧ W.heap.size ≤ W'.heap.size ∧ (∀ b, b < W.heap.size → W'.heap[b]? = W.heap[b]?) ∧ W'.os = W.os ∧ W'.tape = W.tape ∧ W'.output = W.output := by
  have h1 := ((all_ok hN hm hdr N).2.1.ok (R := fun _ => False) (m := fun _ => none) (us := []) (W := W) h ⟨fun id o ho => (by cases ho), fun id id' o o' p p' ho => (by cases ho)⟩ ⟨fun _ _ => rfl, fun _ hf => hf.elim⟩ .nil).2
  refine CallsIn.mono h1 fun e W' hp => ?_
  obtain ⟨m', u, rfl, g, _, _, hv⟩ := hp
  refine ⟨?_, g.size, fun b hb => g.keep b hb fun hl => ?_, g.os, g.tape, g.output⟩
  · have := hv.val_inv
    first | rw [this] | rw [← this]
  · obtain ⟨id, o, p, h1, _⟩ := hl
    cases h1
def Closed (ops : Array Oper) (listed : Array Bool) : Prop :=
  ∀ j oj, ops[j]? = some oj → listed.getD j false = true → ∀ e ∈ oj.after, Region.binds .any e = true → listed.getD e.on false = true
section
variable {P : Program} {r : Rec} {n nx0 : Nat} {ops : Array Oper}
theorem cond_and {c x : Bool} (h : (bif c then x else false) = true) : c = true ∧ x = true := by cases c <;> simp_all
theorem Closed.set {listed : Array Bool} {i : Nat} (inv : Closed ops listed) (hi : i ∈ Region.ready .any ops listed) : Closed ops (listed.setIfInBounds i true) := by
  obtain ⟨_, oi, hoi, hall⟩ := mem_ready.1 hi
  intro j oj hj hl e he hb
  by_cases hij : i = j
  · subst hij
    have : oj = oi := Option.some.inj (hj.symm.trans hoi)
    subst this
    exact getD_set_true (hall e he hb)
  · rw [getD_set_ne false hij] at hl
    exact getD_set_true (inv j oj hj hl e he hb)
/-! ### The masks -/
theorem maskE_spec (A : List Nat) (j : Nat) : ∀ (l : List Edge) (s : Nat), (maskE A l s).testBit j = true → s.testBit j = true ∨ ∃ e ∈ l, Region.binds .any e = true ∧ (e.on = j ∨ (A.getD e.on 0).testBit j = true)
  | [], s, h => .inl h
  | e :: l, s, h => by
    simp only [maskE] at h
    rcases maskE_spec A j l _ h with h1 | ⟨e', he, h2⟩
    · cases hb : Region.binds .any e with
      | false => rw [hb] at h1; exact .inl h1
      | true =>
        rw [hb] at h1
        simp only [cond_true, Nat.testBit_or, Bool.or_eq_true] at h1
        rcases h1 with (h1 | h1) | h1
        · exact .inl h1
        · refine .inr ⟨e, by simp, hb, .inl ?_⟩
          rw [Nat.testBit_two_pow] at h1
          simpa using h1
        · exact .inr ⟨e, by simp, hb, .inr h1⟩
    · exact .inr ⟨e', by simp [he], h2⟩
theorem masks_app : ∀ (l : List Oper) (A : List Nat), ∃ B, masks l A = A ++ B ∧ B.length = l.length
  | [], A => ⟨[], by simp [masks], rfl⟩
  | o :: l, A => by
    obtain ⟨B, h1, h2⟩ := masks_app l (A ++ [maskE A o.after.toList 0])
    exact ⟨maskE A o.after.toList 0 :: B, by simp [masks, h1], by simp [h2]⟩
theorem masks_get (l : List Oper) : ∀ (A : List Nat) (i : Nat) (o : Oper), l[i]? = some o → (masks l A).getD (A.length + i) 0 = maskE ((masks l A).take (A.length + i)) o.after.toList 0 := by
  induction l with
  | nil => intro A i o h; simp at h
  | cons o l ih =>
    intro A i o' h
    cases i with
    | zero =>
      simp only [List.getElem?_cons_zero, Option.some.injEq] at h
      subst h
      obtain ⟨B, h1, _⟩ := masks_app l (A ++ [maskE A o.after.toList 0])
      simp only [masks, h1, Nat.add_zero]
      simp [List.getD_eq_getElem?_getD, List.append_assoc]
    | succ i =>
      have := ih (A ++ [maskE A o.after.toList 0]) i o' (by simpa using h)
      simp only [List.length_append, List.length_singleton] at this
      rw [show A.length + 1 + i = A.length + (i + 1) by omega] at this
      exact this
theorem back_spec (l : List Oper) : ∀ (i j : Nat) (o : Oper), backOk l i = true → l[j]? = some o → ∀ e ∈ o.after, Region.binds .any e = true → e.on < i + j := by
  induction l with
  | nil => intro i j o h ho; simp at ho
  | cons o l ih =>
    intro i j o' h ho e he hbd
    simp only [backOk] at h
    cases hb : o.after.toList.all (fun e => bif Region.binds .any e then Nat.blt e.on i else true) with
    | false => rw [hb] at h; cases h
    | true =>
      rw [hb] at h
      cases j with
      | zero =>
        simp only [List.getElem?_cons_zero, Option.some.injEq] at ho
        subst ho
        have := List.all_eq_true.1 hb e (by simpa using he)
        rw [hbd] at this
        exact Nat.le_of_ble_eq_true this
      | succ j =>
        have := ih (i + 1) j o' (by simpa using h) (by simpa using ho) e he hbd
        omega
/-- who stands ahead of one that is listed, or ready, is listed -/
theorem anc_listed (hback : backOk ops.toList 0 = true) {listed : Array Bool} (hc : Closed ops listed) : ∀ (i : Nat) (oi : Oper), ops[i]? = some oi → (∀ e ∈ oi.after, Region.binds .any e = true → listed.getD e.on false = true) →
    ∀ j, ((masks ops.toList []).getD i 0).testBit j = true → j < i ∧ listed.getD j false = true := by
  intro i
  induction i using Nat.strongRecOn with
  | ind i ih =>
    intro oi hoi hall j hj
    have ho : ops.toList[i]? = some oi := by simpa using hoi
    have h1 := masks_get ops.toList [] i oi ho
    simp only [List.length_nil, Nat.zero_add] at h1
    rw [h1] at hj
    rcases maskE_spec _ j _ 0 hj with h2 | ⟨e, he, hb, h2⟩
    · simp at h2
    · have he' : e ∈ oi.after := by simpa using he
      have hlt := back_spec ops.toList 0 i oi hback ho e he' hb
      simp only [Nat.zero_add] at hlt
      rcases h2 with rfl | h2
      · exact ⟨hlt, hall e he' hb⟩
      · have hlen : i < ops.size := (Array.getElem?_eq_some_iff.1 hoi).1
        have h3 : ((masks ops.toList []).getD e.on 0).testBit j = true := by
          rw [List.getD_eq_getElem?_getD, List.getElem?_take_of_lt hlt, ← List.getD_eq_getElem?_getD] at h2
          exact h2
        obtain ⟨oe, hoe⟩ : ∃ oe, ops[e.on]? = some oe := ⟨ops[e.on], by rw [Array.getElem?_eq_getElem]⟩
        obtain ⟨h4, h5⟩ := ih e.on hlt oe hoe (fun d hd hdb => hc e.on oe hoe (hall e he' hb) d hd hdb) j h3
        exact ⟨by omega, h5⟩
theorem tmps_spec {A : List Nat} {i : Nat} {ns : List Tmp} {t : Tmp} (ht : t ∈ ns) (l : List Oper) : ∀ (j0 j : Nat) (o : Oper), tmpsOkAt ops A i ns l j0 = true → l[j]? = some o → o.dst = some t → i ≠ j0 + j → (A.getD (max i (j0 + j)) 0).testBit (min i (j0 + j)) = true := by
  induction l with
  | nil => intro j0 j o h ho; simp at ho
  | cons o l ih =>
    intro j0 j o' h ho hd hne
    rw [tmpsOkAt] at h
    cases j with
    | zero =>
      simp only [List.getElem?_cons_zero, Option.some.injEq] at ho
      subst ho
      rw [hd] at h
      rw [Nat.add_zero] at hne ⊢
      cases hb : (i == j0 || !ns.contains t || (A.getD (max i j0) 0).testBit (min i j0)) with
      | false => simp only [hb] at h; cases h
      | true =>
        simp only [Bool.or_eq_true, beq_iff_eq, Bool.not_eq_true'] at hb
        rcases hb with (hb | hb) | hb
        · exact absurd hb hne
        · have := List.contains_iff_mem.2 ht
          rw [hb] at this; cases this
        · exact hb
    | succ j =>
      have := ih (j0 + 1) j o' (cond_and h).2 (by simpa using ho) hd (by omega)
      rwa [show j0 + 1 + j = j0 + (j + 1) by omega] at this
theorem tmpsOk_spec {A : List Nat} (l : List Oper) : ∀ (i0 i : Nat) (o : Oper), tmpsOk ops A l i0 = true → l[i]? = some o → tmpsOkAt ops A (i0 + i) (o.dst.toList ++ namesOf ops o) ops.toList 0 = true := by
  induction l with
  | nil => intro i0 i o h ho; simp at ho
  | cons o l ih =>
    intro i0 i o' h ho
    rw [tmpsOk] at h
    cases hb : tmpsOkAt ops A i0 (o.dst.toList ++ namesOf ops o) ops.toList 0 with
    | false => rw [hb] at h; cases h
    | true =>
      rw [hb] at h
      cases i with
      | zero =>
        simp only [List.getElem?_cons_zero, Option.some.injEq] at ho
        subst ho
        exact hb
      | succ i =>
        have := ih (i0 + 1) i o' h (by simpa using ho)
        rwa [show i0 + 1 + i = i0 + (i + 1) by omega] at this
end
theorem valSame_eq : ∀ {a b : Value}, valSame a b = true → a = b := by
  intro a b h
  unfold valSame at h
  split at h
  · simp only [Bool.and_eq_true, beq_iff_eq] at h; rw [h.1, h.2]
  · rw [beq_iff_eq] at h; rw [h]
  · rename_i x y
    rw [beq_iff_eq] at h
    congr 1
    cases x; cases y
    congr 1
    exact Array.toList_inj.1 h
  · rfl
  · simp only [Bool.and_eq_true, beq_iff_eq] at h; rw [h.1, h.2]
  · rfl
  · rfl
  · rfl
  · cases h
theorem cpSame_eq : ∀ {a b : Cp}, cpSame a b = true → a = b := by
  intro a b h
  unfold cpSame at h
  split at h
  · rw [beq_iff_eq] at h; rw [h]
  · rw [beq_iff_eq] at h; rw [h]
  · cases h
mutual
theorem same_eq : ∀ (a b : RV), same a b = true → a = b
  | .val a, .val b, h => by
    have h' : valSame a b = true := by simpa only [same] using h
    rw [valSame_eq h']
  | .ptr a b, .ptr c d, h => by simp only [same, Bool.and_eq_true, beq_iff_eq] at h; rw [h.1, h.2]
  | .slice a b c d, .slice e f g k, h => by
    simp only [same, Bool.and_eq_true, beq_iff_eq] at h
    rw [h.1.1.1, h.1.1.2, h.1.2, cpSame_eq h.2]
  | .empty, .empty, h => rfl
  | .map a, .map b, h => by simp only [same, beq_iff_eq] at h; rw [h]
  | .fn a b c, .fn d e f, h => by
    simp only [same, Bool.and_eq_true, beq_iff_eq] at h
    rw [h.1.1, sames_eq b e h.1.2, sames_eq c f h.2]
  | .yield a, .yield b, h => by simp only [same, beq_iff_eq] at h; rw [h]
  | .agg a, .agg b, h => by rw [sames_eq a b (by simpa only [same] using h)]
  | .tup a, .tup b, h => by rw [sames_eq a b (by simpa only [same] using h)]
  | .val _, .ptr .., h => by simp [same] at h
  | .val _, .slice .., h => by simp [same] at h
  | .val _, .empty, h => by simp [same] at h
  | .val _, .map _, h => by simp [same] at h
  | .val _, .fn .., h => by simp [same] at h
  | .val _, .yield _, h => by simp [same] at h
  | .val _, .agg _, h => by simp [same] at h
  | .val _, .tup _, h => by simp [same] at h
  | .ptr .., .val _, h => by simp [same] at h
  | .ptr .., .slice .., h => by simp [same] at h
  | .ptr .., .empty, h => by simp [same] at h
  | .ptr .., .map _, h => by simp [same] at h
  | .ptr .., .fn .., h => by simp [same] at h
  | .ptr .., .yield _, h => by simp [same] at h
  | .ptr .., .agg _, h => by simp [same] at h
  | .ptr .., .tup _, h => by simp [same] at h
  | .slice .., .val _, h => by simp [same] at h
  | .slice .., .ptr .., h => by simp [same] at h
  | .slice .., .empty, h => by simp [same] at h
  | .slice .., .map _, h => by simp [same] at h
  | .slice .., .fn .., h => by simp [same] at h
  | .slice .., .yield _, h => by simp [same] at h
  | .slice .., .agg _, h => by simp [same] at h
  | .slice .., .tup _, h => by simp [same] at h
  | .empty, .val _, h => by simp [same] at h
  | .empty, .ptr .., h => by simp [same] at h
  | .empty, .slice .., h => by simp [same] at h
  | .empty, .map _, h => by simp [same] at h
  | .empty, .fn .., h => by simp [same] at h
  | .empty, .yield _, h => by simp [same] at h
  | .empty, .agg _, h => by simp [same] at h
  | .empty, .tup _, h => by simp [same] at h
  | .map _, .val _, h => by simp [same] at h
  | .map _, .ptr .., h => by simp [same] at h
  | .map _, .slice .., h => by simp [same] at h
  | .map _, .empty, h => by simp [same] at h
  | .map _, .fn .., h => by simp [same] at h
  | .map _, .yield _, h => by simp [same] at h
  | .map _, .agg _, h => by simp [same] at h
  | .map _, .tup _, h => by simp [same] at h
  | .fn .., .val _, h => by simp [same] at h
  | .fn .., .ptr .., h => by simp [same] at h
  | .fn .., .slice .., h => by simp [same] at h
  | .fn .., .empty, h => by simp [same] at h
  | .fn .., .map _, h => by simp [same] at h
  | .fn .., .yield _, h => by simp [same] at h
  | .fn .., .agg _, h => by simp [same] at h
  | .fn .., .tup _, h => by simp [same] at h
  | .yield _, .val _, h => by simp [same] at h
  | .yield _, .ptr .., h => by simp [same] at h
  | .yield _, .slice .., h => by simp [same] at h
  | .yield _, .empty, h => by simp [same] at h
  | .yield _, .map _, h => by simp [same] at h
  | .yield _, .fn .., h => by simp [same] at h
  | .yield _, .agg _, h => by simp [same] at h
  | .yield _, .tup _, h => by simp [same] at h
  | .agg _, .val _, h => by simp [same] at h
  | .agg _, .ptr .., h => by simp [same] at h
  | .agg _, .slice .., h => by simp [same] at h
  | .agg _, .empty, h => by simp [same] at h
  | .agg _, .map _, h => by simp [same] at h
  | .agg _, .fn .., h => by simp [same] at h
  | .agg _, .yield _, h => by simp [same] at h
  | .agg _, .tup _, h => by simp [same] at h
  | .tup _, .val _, h => by simp [same] at h
  | .tup _, .ptr .., h => by simp [same] at h
  | .tup _, .slice .., h => by simp [same] at h
  | .tup _, .empty, h => by simp [same] at h
  | .tup _, .map _, h => by simp [same] at h
  | .tup _, .fn .., h => by simp [same] at h
  | .tup _, .yield _, h => by simp [same] at h
  | .tup _, .agg _, h => by simp [same] at h
theorem sames_eq : ∀ (a b : List RV), sames a b = true → a = b
  | [], [], h => rfl
  | x :: a, y :: b, h => by
    simp only [sames] at h
    obtain ⟨h1, h2⟩ := cond_and h
    rw [same_eq x y h1, sames_eq a b h2]
  | [], _ :: _, h => by simp [sames] at h
  | _ :: _, [], h => by simp [sames] at h
end
section
variable {P : Program} {r : Rec} {n nx0 : Nat} {ops : Array Oper}
theorem cond_some {α : Type} {c : Bool} {x y : α} (h : (bif c then some x else none) = some y) : c = true ∧ x = y := by cases c <;> simp_all
theorem readOp_same {e : T RV} {s s' : S} {o : Oper} {v : RV} (hr : readOp o.op = true) (h : opEv P e s o = some (v, s')) (hn : s'.nx = s.nx) : s' = s := by
  unfold readOp at hr
  split at hr
  · rename_i ho
    simp only [opEv, ho] at h
    repeat' (split at h)
    all_goals first | (cases h; done) | (cases h; rfl)
  · rename_i ho
    simp only [opEv, ho] at h
    repeat' (split at h)
    all_goals first | (cases h; done) | (cases h; rfl)
  · rename_i ho
    simp only [opEv, ho] at h
    split at h
    · rename_i x hx
      unfold convEv at h
      repeat' (split at h)
      all_goals
        first
          | (cases h; done)
          | (cases h; rfl)
          | (obtain ⟨_, h2⟩ := cond_some h
             simp only [Prod.mk.injEq] at h2
             rw [← h2.2] at hn
             simp [S.new] at hn)
    · cases h
  · rename_i ho
    simp only [opEv, ho] at h
    split at h
    · rename_i l _
      match l, h with
      | [], h => simp [builtinEv] at h
      | _ :: _ :: _, h => simp [builtinEv] at h
      | [x], h =>
        simp only [builtinEv] at h
        repeat' (split at h)
        all_goals first | (cases h; done) | (cases h; rfl)
    · cases h
  · cases hr
end
inductive Did (P : Program) (r : Rec) (nx0 : Nat) (ops : Array Oper) (m i : Nat) (o : Oper) (d d' : DS) (D : DR) : Prop
  | skip (hw : wantedEv ops d.e o = some false) (hk : D.k = .skip) (hv : D.v = .val undef) (hh : d'.hs = d.hs) (hf : d'.fs = d.fs)
  | pure (hw : wantedEv ops d.e o = some true) (hk : D.k = .pure) (s1 : S) (hop : opEv P (smallE d.e (namesOf ops o)) ⟨.nil, nx0 + i⟩ o = some (D.v, s1)) (hn : s1.nx = nx0 + i) (hh : d'.hs = d.hs) (hf : d'.fs = d.fs)
  | alloc (hw : wantedEv ops d.e o = some true) (ob : AObj) (hk : D.k = .alloc ob) (s1 : S) (hop : opEv P (smallE d.e (namesOf ops o)) ⟨.nil, nx0 + i⟩ o = some (D.v, s1)) (hg : s1.H.get (nx0 + i) = some ob) (hh : d'.hs = d.hs) (hf : d'.fs = d.fs)
  | read (hw : wantedEv ops d.e o = some true) (hk : D.k = .read) (hs : D.se = smallE d.e (namesOf ops o)) (hr : readOp o.op = true) (hh : d'.hs = d.hs) (hf : d'.fs = d.fs)
  | eff (hw : wantedEv ops d.e o = some true) (hk : D.k = .eff) (b : S) (inc : Nat) (hs : List (S × Nat)) (s1 : S) (hd : d.hs = (b, inc) :: hs) (hc : ∀ f fs, d.fs = f :: fs → m.testBit f = true)
      (hst : stepEv P r (smallE d.e (namesOf ops o)) (addAl nx0 (bits m inc) d.rs b) o = some (D.v, s1)) (hh : d'.hs = (s1, inc ||| m) :: d.hs) (hf : d'.fs = i :: d.fs)
section
variable {P : Program} {r : Rec} {n nx0 : Nat} {ops : Array Oper} {m i : Nat} {o : Oper}
theorem cond_opt {α : Type} {c : Bool} {x : Option α} {y : α} (h : (bif c then x else none) = some y) : c = true ∧ x = some y := by cases c <;> simp_all
theorem draw1_did {d d' : DS} (h : draw1 P r n nx0 ops m o i d = some d') : ∃ D : DR, D.i = i ∧ d'.rs = D :: d.rs ∧ d'.e = putE n d.e o.dst D.v ∧ Did P r nx0 ops m i o d d' D := by
  unfold draw1 at h
  split at h
  · cases h
  · rename_i hw
    simp only [Option.some.injEq] at h
    subst h
    exact ⟨_, rfl, rfl, rfl, .skip hw rfl rfl rfl rfl⟩
  · rename_i hw
    split at h
    · rename_i b inc hs hhs
      cases he : effOp o.op with
      | true =>
        rw [he] at h
        simp only [cond_true] at h
        obtain ⟨hc, h⟩ := cond_opt h
        split at h
        · rename_i v s1 hst
          simp only [Option.some.injEq] at h
          subst h
          refine ⟨_, rfl, rfl, rfl, .eff hw rfl b inc hs s1 hhs (fun f fs hf => ?_) hst rfl rfl⟩
          rw [hf] at hc
          exact hc
        · cases h
      | false =>
        rw [he] at h
        simp only [cond_false] at h
        split at h
        · rename_i v s1 hop
          cases hn : (s1.nx == nx0 + i) with
          | true =>
            rw [hn] at h
            simp only [cond_true, Option.some.injEq] at h
            subst h
            exact ⟨_, rfl, rfl, rfl, .pure hw rfl s1 hop (by simpa using hn) rfl rfl⟩
          | false =>
            rw [hn] at h
            simp only [cond_false] at h
            split at h
            · rename_i ob hg
              simp only [Option.some.injEq] at h
              subst h
              exact ⟨_, rfl, rfl, rfl, .alloc hw ob rfl s1 hop hg rfl rfl⟩
            · cases h
        · cases hro : readOp o.op with
          | false => rw [hro] at h; cases h
          | true =>
            rw [hro] at h
            simp only [cond_true] at h
            split at h
            · simp only [Option.some.injEq] at h
              subst h
              exact ⟨_, rfl, rfl, rfl, .read hw rfl rfl hro rfl rfl⟩
            · cases h
    · cases h
/-- the way through a region: before and behind each operation -/
structure Tr (P : Program) (r : Rec) (n nx0 : Nat) (ops : Array Oper) (A : List Nat) (ds : Nat → DS) (D : Nat → DR) : Prop where
  id : ∀ i o, ops[i]? = some o → (D i).i = i
  rs : ∀ i o, ops[i]? = some o → (ds (i + 1)).rs = D i :: (ds i).rs
  e : ∀ i o, ops[i]? = some o → (ds (i + 1)).e = putE n (ds i).e o.dst (D i).v
  did : ∀ i o, ops[i]? = some o → Did P r nx0 ops (A.getD i 0) i o (ds i) (ds (i + 1)) (D i)
theorem trace {A : List Nat} (l : List Oper) : ∀ (i : Nat) (d d' : DS), ops.toList.drop i = l → drawP P r n nx0 ops A l i d = some d' →
    ∃ (ds : Nat → DS) (D : Nat → DR), ds i = d ∧ ds (i + l.length) = d' ∧ ∀ j o, i ≤ j → ops[j]? = some o → (D j).i = j ∧ (ds (j + 1)).rs = D j :: (ds j).rs ∧ (ds (j + 1)).e = putE n (ds j).e o.dst (D j).v ∧ Did P r nx0 ops (A.getD j 0) j o (ds j) (ds (j + 1)) (D j) := by
  induction l with
  | nil =>
    intro i d d' hd h
    simp only [drawP, Option.some.injEq] at h
    subst h
    refine ⟨fun _ => d, fun _ => ⟨0, .nil, .empty, .skip⟩, rfl, rfl, fun j o hj ho => ?_⟩
    have hlen : ops.toList.length ≤ i := List.drop_eq_nil_iff.1 hd
    have := (Array.getElem?_eq_some_iff.1 ho).1
    simp at hlen
    omega
  | cons o l ih =>
    intro i d d' hd h
    obtain ⟨h1, h2⟩ := list_drop_range _ _ hd
    simp only [drawP] at h
    split at h
    · rename_i d1 hd1
      obtain ⟨ds, D, e1, e2, e3⟩ := ih (i + 1) d1 d' h2 h
      obtain ⟨D0, k1, k2, k3, k4⟩ := draw1_did hd1
      refine ⟨fun j => if j = i then d else ds j, fun j => if j = i then D0 else D j, by simp, ?_, fun j oj hj hoj => ?_⟩
      · show (if i + (o :: l).length = i then d else ds (i + (o :: l).length)) = d'
        rw [if_neg (by simp), ← e2]
        congr 1
        simp
        omega
      · by_cases hji : j = i
        · subst hji
          have : oj = o := by
            have h1' : ops[j]? = some o := by simpa using h1
            exact Option.some.inj (hoj.symm.trans h1')
          subst this
          simp only [if_true, if_neg (show ¬ j + 1 = j by omega), e1]
          exact ⟨k1, k2, k3, k4⟩
        · simp only [if_neg hji, if_neg (show ¬ j + 1 = i by omega)]
          exact e3 j oj (by omega) hoj
    · cases h
theorem trace_tr {A : List Nat} {d d' : DS} (h : drawP P r n nx0 ops A ops.toList 0 d = some d') : ∃ ds D, ds 0 = d ∧ ds ops.size = d' ∧ Tr P r n nx0 ops A ds D := by
  obtain ⟨ds, D, e1, e2, e3⟩ := trace (n := n) ops.toList 0 d d' rfl h
  refine ⟨ds, D, e1, by simpa using e2, ⟨fun i o ho => (e3 i o (Nat.zero_le _) ho).1, fun i o ho => (e3 i o (Nat.zero_le _) ho).2.1, fun i o ho => (e3 i o (Nat.zero_le _) ho).2.2.1, fun i o ho => (e3 i o (Nat.zero_le _) ho).2.2.2⟩⟩
end
def AlJ (ops : Array Oper) (D : Nat → DR) (listed : Array Bool) (inc j : Nat) (ob : AObj) : Prop := j < ops.size ∧ listed.getD j false = true ∧ inc.testBit j = false ∧ (D j).k = .alloc ob
/-- the heap while a region runs: the heap behind the last effect, and the allocations that no effect has taken in -/
structure Hp (R : Nat → Prop) (nx0 : Nat) (ops : Array Oper) (D : Nat → DR) (m0 : Mp) (s : S) (W0 : World) (listed : Array Bool) (b : S) (inc : Nat) (m : Mp) (W : World) : Prop where
  base : Rel m b.H W.heap
  al : ∀ j ob, AlJ ops D listed inc j ob → ∃ p, m (nx0 + j) = some p ∧ ORel m W.heap p ob ∧ ¬ live m b.H p.b
  inj : ∀ j j' ob ob' p p', AlJ ops D listed inc j ob → AlJ ops D listed inc j' ob' → m (nx0 + j) = some p → m (nx0 + j') = some p' → p.b = p'.b → j = j'
  fresh : Fresh (fun id => R id ∨ ∃ j, j < ops.size ∧ listed.getD j false = false ∧ id = nx0 + j) m b.nx
  ext : m0.le m
  size : W0.heap.size ≤ W.heap.size
  keep : ∀ q, q < W0.heap.size → ¬ live m0 s.H q → W.heap[q]? = W0.heap[q]?
  own : ∀ q, live m b.H q → live m0 s.H q ∨ W0.heap.size ≤ q
  ownA : ∀ j ob p, AlJ ops D listed inc j ob → m (nx0 + j) = some p → live m0 s.H p.b ∨ W0.heap.size ≤ p.b
  os : W.os = W0.os
  tape : W.tape = W0.tape
  output : W.output = W0.output
def HGet (nx0 : Nat) (ops : Array Oper) (D : Nat → DR) (listed : Array Bool) (inc mask : Nat) (b : S) (H0 : T AObj) : Prop :=
  ∀ id ob, H0.get id = some ob → b.H.get id = some ob ∨ ∃ j, AlJ ops D listed inc j ob ∧ mask.testBit j = true ∧ id = nx0 + j
section
variable {R : Nat → Prop} {nx0 : Nat} {ops : Array Oper} {D : Nat → DR} {m0 m : Mp} {s : S} {W0 W : World} {listed : Array Bool} {b : S} {inc mask : Nat} {H0 : T AObj}
theorem Hp.subRel (h : Hp R nx0 ops D m0 s W0 listed b inc m W) (hg : HGet nx0 ops D listed inc mask b H0) : Rel m H0 W.heap := by
  refine ⟨fun id o ho => ?_, fun id id' o o' p p' ho ho' hp hp' hb => ?_⟩
  · rcases hg id o ho with h1 | ⟨j, h1, _, rfl⟩
    · exact h.base.obj id o h1
    · obtain ⟨p, k1, k2, _⟩ := h.al j o h1
      exact ⟨p, k1, k2⟩
  · rcases hg id o ho with h1 | ⟨j, h1, _, rfl⟩ <;> rcases hg id' o' ho' with h2 | ⟨j', h2, _, rfl⟩
    · exact h.base.inj id id' o o' p p' h1 h2 hp hp' hb
    · obtain ⟨q, k1, _, k3⟩ := h.al j' o' h2
      have : q = p' := Option.some.inj (k1.symm.trans hp')
      subst this
      exact absurd ⟨id, o, p, h1, hp, hb⟩ k3
    · obtain ⟨q, k1, _, k3⟩ := h.al j o h1
      have : q = p := Option.some.inj (k1.symm.trans hp)
      subst this
      exact absurd ⟨id', o', p', h2, hp', hb.symm⟩ k3
    · rw [h.inj j j' o o' p p' h1 h2 hp hp' hb]
theorem Hp.subLive (h : Hp R nx0 ops D m0 s W0 listed b inc m W) (hg : HGet nx0 ops D listed inc mask b H0) {q : Nat} (hl : live m H0 q) : live m b.H q ∨ ∃ j ob p, AlJ ops D listed inc j ob ∧ mask.testBit j = true ∧ H0.get (nx0 + j) = some ob ∧ m (nx0 + j) = some p ∧ p.b = q := by
  obtain ⟨id, o, p, h1, h2, h3⟩ := hl
  rcases hg id o h1 with k | ⟨j, k1, k2, rfl⟩
  · exact .inl ⟨id, o, p, k, h2, h3⟩
  · exact .inr ⟨j, o, p, k1, k2, h1, h2, h3⟩
theorem Hp.subOwn (h : Hp R nx0 ops D m0 s W0 listed b inc m W) (hg : HGet nx0 ops D listed inc mask b H0) {q : Nat} (hl : live m H0 q) : live m0 s.H q ∨ W0.heap.size ≤ q := by
  rcases h.subLive hg hl with h1 | ⟨j, ob, p, h1, _, _, h2, rfl⟩
  · exact h.own q h1
  · exact h.ownA j ob p h1 h2
theorem set_true {c j : Nat} (h : (listed.setIfInBounds c true).getD j false = true) : j = c ∨ listed.getD j false = true := by
  by_cases e : c = j
  · exact .inl e.symm
  · rw [getD_set_ne false e] at h; exact .inr h
theorem set_false {c j : Nat} (hc : c < listed.size) (h : (listed.setIfInBounds c true).getD j false = false) : j ≠ c ∧ listed.getD j false = false := by
  by_cases e : c = j
  · subst e
    simp [hc] at h
  · rw [getD_set_ne false e] at h; exact ⟨fun k => e k.symm, h⟩
theorem AlJ.old {c j : Nat} {ob : AObj} (hk : ∀ ob, (D c).k ≠ .alloc ob) (h : AlJ ops D (listed.setIfInBounds c true) inc j ob) : AlJ ops D listed inc j ob := by
  obtain ⟨h1, h2, h3, h4⟩ := h
  rcases set_true h2 with rfl | h2
  · exact absurd h4 (hk ob)
  · exact ⟨h1, h2, h3, h4⟩
theorem fresh_set {c nx : Nat} (hc : c < listed.size) (h : Fresh (fun id => R id ∨ ∃ j, j < ops.size ∧ listed.getD j false = false ∧ id = nx0 + j) m nx) :
    Fresh (fun id => R id ∨ ∃ j, j < ops.size ∧ (listed.setIfInBounds c true).getD j false = false ∧ id = nx0 + j) m nx := by
  refine ⟨h.1, fun id hid => h.2 id ?_⟩
  rcases hid with h1 | ⟨j, h1, h2, h3⟩
  · exact .inl h1
  · exact .inr ⟨j, h1, (set_false hc h2).2, h3⟩
/-- an operation that looks at no memory -/
theorem Hp.pure {c : Nat} {W' : World} {H1 : T AObj} (h : Hp R nx0 ops D m0 s W0 listed b inc m W) (hc : c < listed.size) (hk : ∀ ob, (D c).k ≠ .alloc ob) (g : Grow m .nil W m H1 W') : Hp R nx0 ops D m0 s W0 (listed.setIfInBounds c true) b inc m W' := by
  have hkeep : ∀ q, q < W.heap.size → W'.heap[q]? = W.heap[q]? := fun q hq => g.keep q hq fun hl => by obtain ⟨id, o, p, h1, _⟩ := hl; cases h1
  refine ⟨⟨fun id o ho => ?_, h.base.inj⟩, fun j ob hj => ?_, fun j j' ob ob' p p' hj hj' => h.inj j j' ob ob' p p' (hj.old hk) (hj'.old hk), fresh_set hc h.fresh, h.ext, Nat.le_trans h.size g.size, fun q hq hl => ?_, h.own, fun j ob p hj => h.ownA j ob p (hj.old hk), g.os.trans h.os, g.tape.trans h.tape, g.output.trans h.output⟩
  · obtain ⟨p, h1, h2⟩ := h.base.obj id o ho
    exact ⟨p, h1, h2.mono (.refl m) (hkeep _ h2.lt)⟩
  · obtain ⟨p, h1, h2, h3⟩ := h.al j ob (hj.old hk)
    exact ⟨p, h1, h2.mono (.refl m) (hkeep _ h2.lt), h3⟩
  · rw [hkeep q (Nat.lt_of_lt_of_le hq h.size)]
    exact h.keep q hq hl
/-- an operation that reads -/
theorem Hp.read {c : Nat} {W' : World} (h : Hp R nx0 ops D m0 s W0 listed b inc m W) (hc : c < listed.size) (hk : ∀ ob, (D c).k ≠ .alloc ob) (hg : HGet nx0 ops D listed inc mask b H0) (hr : Rel m H0 W'.heap) (g : Grow m H0 W m H0 W') : Hp R nx0 ops D m0 s W0 (listed.setIfInBounds c true) b inc m W' := by
  refine ⟨⟨fun id o ho => ?_, h.base.inj⟩, fun j ob hj => ?_, fun j j' ob ob' p p' hj hj' => h.inj j j' ob ob' p p' (hj.old hk) (hj'.old hk), fresh_set hc h.fresh, h.ext, Nat.le_trans h.size g.size, fun q hq hl => ?_, h.own, fun j ob p hj => h.ownA j ob p (hj.old hk), g.os.trans h.os, g.tape.trans h.tape, g.output.trans h.output⟩
  · obtain ⟨p, h1, h2⟩ := h.base.obj id o ho
    refine ⟨p, h1, ?_⟩
    by_cases hl : live m H0 p.b
    · obtain ⟨id', o', p', k1, k2, k3⟩ := hl
      rcases hg id' o' k1 with k4 | ⟨j, k4, _, rfl⟩
      · have e1 := h.base.inj id' id o' o p' p k4 ho k2 h1 k3
        subst e1
        have e2 : o' = o := Option.some.inj (k4.symm.trans ho)
        subst e2
        obtain ⟨p2, q1, q2⟩ := hr.obj _ _ k1
        have e3 : p2 = p := Option.some.inj (q1.symm.trans h1)
        subst e3
        exact q2
      · obtain ⟨p2, q1, _, q3⟩ := h.al j o' k4
        have e3 : p2 = p' := Option.some.inj (q1.symm.trans k2)
        subst e3
        exact absurd ⟨id, o, p, ho, h1, k3.symm⟩ q3
    · exact h2.mono (.refl m) (g.keep _ h2.lt hl)
  · obtain ⟨p, h1, h2, h3⟩ := h.al j ob (hj.old hk)
    refine ⟨p, h1, ?_, h3⟩
    by_cases hl : live m H0 p.b
    · rcases h.subLive hg hl with h4 | ⟨j', ob', p', k1, _, k0, k2, k3⟩
      · exact absurd h4 h3
      · have e1 := h.inj j' j ob' ob p' p k1 (hj.old hk) k2 h1 k3
        subst e1
        have e2 : ob' = ob := by
          have := k1.2.2.2.symm.trans (hj.old hk).2.2.2
          injection this
        subst e2
        obtain ⟨p2, q1, q2⟩ := hr.obj _ _ k0
        have e3 : p2 = p := Option.some.inj (q1.symm.trans h1)
        subst e3
        exact q2
    · exact h2.mono (.refl m) (g.keep _ h2.lt hl)
  · rw [g.keep q (Nat.lt_of_lt_of_le hq h.size) fun hh => by
      rcases h.subOwn hg hh with h1 | h1
      · exact hl h1
      · omega]
    exact h.keep q hq hl
/-- an operation that makes an object -/
theorem Hp.alloc {c : Nat} {ob : AObj} {m' : Mp} {H1 : T AObj} {W' : World} (h : Hp R nx0 ops D m0 s W0 listed b inc m W) (hc : c < listed.size) (hcs : c < ops.size) (hun : listed.getD c false = false) (hk : (D c).k = .alloc ob) (g : Grow m .nil W m' H1 W') (hr : Rel m' H1 W'.heap) (hH : H1.get (nx0 + c) = some ob)
    (hm : ∀ id, id ≠ nx0 + c → m' id = m id) (hinc : inc.testBit c = false) (hR : ∀ id, R id → id < nx0) : Hp R nx0 ops D m0 s W0 (listed.setIfInBounds c true) b inc m' W' := by
  have hkeep : ∀ q, q < W.heap.size → W'.heap[q]? = W.heap[q]? := fun q hq => g.keep q hq fun hl => by obtain ⟨id, o, p, h1, _⟩ := hl; cases h1
  have hfr := h.fresh.2 (nx0 + c) (.inr ⟨c, hcs, hun, rfl⟩)
  obtain ⟨pc, c1, c2⟩ := hr.obj _ _ hH
  have c3 : W.heap.size ≤ pc.b := by
    rcases g.own pc.b ⟨_, _, _, hH, c1, rfl⟩ with ⟨id, o, p, h1, _⟩ | h1
    · cases h1
    · exact h1
  have hbl : ∀ {q : Nat}, live m' b.H q → live m b.H q := fun {q} hl => by
    obtain ⟨id, o, p, h1, h2, h3⟩ := hl
    obtain ⟨p2, q1, q2⟩ := h.base.obj id o h1
    have : p2 = p := Option.some.inj ((g.ext _ _ q1).symm.trans h2)
    subst this
    exact ⟨id, o, p2, h1, q1, h3⟩
  have hal : ∀ j ob', AlJ ops D (listed.setIfInBounds c true) inc j ob' → (j = c ∧ ob' = ob) ∨ (j ≠ c ∧ AlJ ops D listed inc j ob') := fun j ob' hj => by
    by_cases e : j = c
    · subst e
      have := hj.2.2.2.symm.trans hk
      injection this with this
      exact .inl ⟨rfl, this⟩
    · rcases set_true hj.2.1 with h1 | h1
      · exact absurd h1 e
      · exact .inr ⟨e, hj.1, h1, hj.2.2.1, hj.2.2.2⟩
  refine ⟨⟨fun id o ho => ?_, fun id id' o o' p p' ho ho' hp hp' => ?_⟩, fun j ob' hj => ?_, fun j j' ob1 ob2 p p' hj hj' hp hp' hb => ?_, ?_, h.ext.trans g.ext, Nat.le_trans h.size g.size, fun q hq hl => ?_, fun q hl => h.own q (hbl hl), fun j ob' p hj hp => ?_, g.os.trans h.os, g.tape.trans h.tape, g.output.trans h.output⟩
  · obtain ⟨p, h1, h2⟩ := h.base.obj id o ho
    exact ⟨p, g.ext _ _ h1, h2.mono g.ext (hkeep _ h2.lt)⟩
  · obtain ⟨q, h1, _⟩ := h.base.obj id o ho
    obtain ⟨q', h1', _⟩ := h.base.obj id' o' ho'
    have e1 : q = p := Option.some.inj ((g.ext _ _ h1).symm.trans hp)
    have e2 : q' = p' := Option.some.inj ((g.ext _ _ h1').symm.trans hp')
    subst e1 e2
    exact h.base.inj id id' o o' q q' ho ho' h1 h1'
  · rcases hal j ob' hj with ⟨rfl, rfl⟩ | ⟨_, hj'⟩
    · refine ⟨pc, c1, c2, fun hl => ?_⟩
      obtain ⟨id, o, p, h1, h2, h3⟩ := hbl hl
      obtain ⟨p2, q1, q2⟩ := h.base.obj id o h1
      have : p2 = p := Option.some.inj (q1.symm.trans h2)
      subst this
      have := q2.lt
      omega
    · obtain ⟨p, h1, h2, h3⟩ := h.al j ob' hj'
      exact ⟨p, g.ext _ _ h1, h2.mono g.ext (hkeep _ h2.lt), fun hl => h3 (hbl hl)⟩
  · rcases hal j ob1 hj with ⟨rfl, rfl⟩ | ⟨hne, h1⟩ <;> rcases hal j' ob2 hj' with ⟨rfl, rfl⟩ | ⟨hne', h2⟩
    · rfl
    · obtain ⟨q, k1, k2, _⟩ := h.al j' ob2 h2
      have e1 : q = p' := Option.some.inj ((g.ext _ _ k1).symm.trans hp')
      have e2 : pc = p := Option.some.inj (c1.symm.trans hp)
      subst e1 e2
      have := k2.lt
      omega
    · obtain ⟨q, k1, k2, _⟩ := h.al j ob1 h1
      have e1 : q = p := Option.some.inj ((g.ext _ _ k1).symm.trans hp)
      have e2 : pc = p' := Option.some.inj (c1.symm.trans hp')
      subst e1 e2
      have := k2.lt
      omega
    · obtain ⟨q, k1, k2, _⟩ := h.al j ob1 h1
      obtain ⟨q', k1', k2', _⟩ := h.al j' ob2 h2
      have e1 : q = p := Option.some.inj ((g.ext _ _ k1).symm.trans hp)
      have e2 : q' = p' := Option.some.inj ((g.ext _ _ k1').symm.trans hp')
      subst e1 e2
      exact h.inj j j' ob1 ob2 q q' h1 h2 k1 k1' hb
  · refine ⟨fun id hid => ?_, fun id hid => ?_⟩
    · rw [hm id (by have := hfr.1; omega)]
      exact h.fresh.1 id hid
    · have h2 : R id ∨ ∃ j, j < ops.size ∧ listed.getD j false = false ∧ id = nx0 + j := by
        rcases hid with h1 | ⟨j, h1, h2, h3⟩
        · exact .inl h1
        · exact .inr ⟨j, h1, (set_false hc h2).2, h3⟩
      refine ⟨(h.fresh.2 id h2).1, ?_⟩
      by_cases e : id = nx0 + c
      · rcases hid with h1 | ⟨j, h1, h3, h4⟩
        · have := hR id h1; omega
        · have := (set_false hc h3).1
          omega
      · rw [hm id e]; exact (h.fresh.2 id h2).2
  · rw [hkeep q (Nat.lt_of_lt_of_le hq h.size)]
    exact h.keep q hq hl
  · rcases hal j ob' hj with ⟨rfl, rfl⟩ | ⟨hne, h1⟩
    · have e2 : pc = p := Option.some.inj (c1.symm.trans hp)
      subst e2
      exact .inr (Nat.le_trans h.size c3)
    · obtain ⟨q, k1, k2, _⟩ := h.al j ob' h1
      have e1 : q = p := Option.some.inj ((g.ext _ _ k1).symm.trans hp)
      subst e1
      exact h.ownA j ob' q h1 k1
/-- an effect -/
theorem Hp.eff {c : Nat} {m' : Mp} {s1 : S} {mk : Nat} {W' : World} (h : Hp R nx0 ops D m0 s W0 listed b inc m W) (hc : c < listed.size) (hk : ∀ ob, (D c).k ≠ .alloc ob) (hg : HGet nx0 ops D listed inc mk b H0) (g : Grow m H0 W m' s1.H W') (hr : Rel m' s1.H W'.heap)
    (hf : Fresh (fun id => R id ∨ ∃ j, j < ops.size ∧ listed.getD j false = false ∧ id = nx0 + j) m' s1.nx) : Hp R nx0 ops D m0 s W0 (listed.setIfInBounds c true) s1 (inc ||| mk) m' W' := by
  have hal : ∀ j ob, AlJ ops D (listed.setIfInBounds c true) (inc ||| mk) j ob → AlJ ops D listed inc j ob ∧ mk.testBit j = false := fun j ob hj => by
    have h3 := hj.2.2.1
    rw [Nat.testBit_or, Bool.or_eq_false_iff] at h3
    exact ⟨AlJ.old hk ⟨hj.1, hj.2.1, h3.1, hj.2.2.2⟩, h3.2⟩
  have hnl : ∀ j ob p, AlJ ops D listed inc j ob → mk.testBit j = false → m (nx0 + j) = some p → ¬ live m H0 p.b := fun j ob p hj hmk hp hl => by
    obtain ⟨q, k1, k2, k3⟩ := h.al j ob hj
    have e1 : q = p := Option.some.inj (k1.symm.trans hp)
    subst e1
    rcases h.subLive hg hl with h1 | ⟨j', ob', p', h1, h2, _, h3, h4⟩
    · exact k3 h1
    · have := h.inj j' j ob' ob p' q h1 hj h3 k1 h4
      subst this
      rw [hmk] at h2; cases h2
  refine ⟨hr, fun j ob hj => ?_, fun j j' ob1 ob2 p p' hj hj' hp hp' hb => ?_, fresh_set hc hf, h.ext.trans g.ext, Nat.le_trans h.size g.size, fun q hq hl => ?_, fun q hl => ?_, fun j ob p hj hp => ?_, g.os.trans h.os, g.tape.trans h.tape, g.output.trans h.output⟩
  · obtain ⟨h1, h2⟩ := hal j ob hj
    obtain ⟨p, k1, k2, k3⟩ := h.al j ob h1
    have hn := hnl j ob p h1 h2 k1
    refine ⟨p, g.ext _ _ k1, k2.mono g.ext (g.keep _ k2.lt hn), fun hl => ?_⟩
    rcases g.own _ hl with h3 | h3
    · exact hn h3
    · have := k2.lt
      omega
  · obtain ⟨h1, _⟩ := hal j ob1 hj
    obtain ⟨h2, _⟩ := hal j' ob2 hj'
    obtain ⟨q, k1, _⟩ := h.al j ob1 h1
    obtain ⟨q', k1', _⟩ := h.al j' ob2 h2
    have e1 : q = p := Option.some.inj ((g.ext _ _ k1).symm.trans hp)
    have e2 : q' = p' := Option.some.inj ((g.ext _ _ k1').symm.trans hp')
    subst e1 e2
    exact h.inj j j' ob1 ob2 q q' h1 h2 k1 k1' hb
  · rw [g.keep q (Nat.lt_of_lt_of_le hq h.size) fun hh => by
      rcases h.subOwn hg hh with h1 | h1
      · exact hl h1
      · omega]
    exact h.keep q hq hl
  · rcases g.own q hl with h1 | h1
    · exact h.subOwn hg h1
    · exact .inr (Nat.le_trans h.size h1)
  · obtain ⟨h1, _⟩ := hal j ob hj
    obtain ⟨q, k1, _⟩ := h.al j ob h1
    have e1 : q = p := Option.some.inj ((g.ext _ _ k1).symm.trans hp)
    subst e1
    exact h.ownA j ob q h1 k1
/-- the heap at the end -/
theorem Hp.last (h : Hp R nx0 ops D m0 s W0 listed b inc m W) (hg : HGet nx0 ops D listed inc mask b H0) : Rel m H0 W.heap ∧ Grow m0 s.H W0 m H0 W ∧ Fresh R m b.nx :=
  ⟨h.subRel hg, ⟨h.ext, h.size, h.keep, fun q hl => h.subOwn hg hl, h.os, h.tape, h.output⟩, ⟨h.fresh.1, fun id hid => h.fresh.2 id (.inl hid)⟩⟩
theorem bits_test {m k j : Nat} (hj : j < 200) (h : (bits m k).testBit j = true) : m.testBit j = true ∧ k.testBit j = false := by
  unfold bits at h
  rw [Nat.testBit_and, Nat.testBit_xor, Nat.testBit_two_pow_sub_one, Bool.and_eq_true] at h
  refine ⟨h.1, ?_⟩
  have := h.2
  simp only [hj, decide_true] at this
  simpa using this
theorem addAl_get {mask : Nat} : ∀ (rs : List DR) (b : S) (id : Nat) (ob : AObj), (addAl nx0 mask rs b).H.get id = some ob → b.H.get id = some ob ∨ ∃ d ∈ rs, d.k = .alloc ob ∧ mask.testBit d.i = true ∧ id = nx0 + d.i
  | [], b, id, ob, h => .inl h
  | d :: l, b, id, ob, h => by
    simp only [addAl] at h
    split at h
    · rename_i o hk
      rcases addAl_get l _ id ob h with h1 | ⟨d', h1, h2⟩
      · cases hm : mask.testBit d.i with
        | false => rw [hm] at h1; exact .inl h1
        | true =>
          rw [hm] at h1
          rcases T.get_set Ev.D b.H (nx0 + d.i) (some o) id ob h1 with ⟨rfl, e⟩ | ⟨_, e⟩
          · exact .inr ⟨d, by simp, by rw [hk, Option.some.inj e], hm, rfl⟩
          · exact .inl e
      · exact .inr ⟨d', by simp [h1], h2⟩
    · rcases addAl_get l _ id ob h with h1 | ⟨d', h1, h2⟩
      · exact .inl h1
      · exact .inr ⟨d', by simp [h1], h2⟩
theorem addAl_nx {mask : Nat} : ∀ (rs : List DR) (b : S), (addAl nx0 mask rs b).nx = b.nx
  | [], b => rfl
  | d :: l, b => by
    simp only [addAl]
    split
    · rw [addAl_nx l]; cases mask.testBit d.i <;> rfl
    · rw [addAl_nx l]
/-- the heap that an operation is run on holds what is there -/
theorem hget_of {mk : Nat} {rs : List DR} (hrs : ∀ d ∈ rs, d.i < ops.size ∧ d = D d.i) (hsz : ops.size ≤ 200) (hmk : ∀ j, j < ops.size → mk.testBit j = true → listed.getD j false = true) : HGet nx0 ops D listed inc mk b (addAl nx0 (bits mk inc) rs b).H := by
  intro id ob h
  rcases addAl_get rs b id ob h with h1 | ⟨d, h1, h2, h3, h4⟩
  · exact .inl h1
  · obtain ⟨h5, h6⟩ := hrs d h1
    obtain ⟨h7, h8⟩ := bits_test (by omega) h3
    exact .inr ⟨d.i, ⟨h5, hmk _ h5 h7, h8, by rw [← h6]; exact h2⟩, h7, h4⟩
end
def OkT (ops : Array Oper) (listed : Array Bool) (i t : Nat) : Prop := ∀ j o, ops[j]? = some o → o.dst = some t → (listed.getD j false = true ↔ j < i)
structure EnvL (ops : Array Oper) (ds : Nat → DS) (n : Nat) (listed : Array Bool) (m : Mp) (a : Act) : Prop where
  size : a.tmps.size = n
  tmp : ∀ i t, i ≤ ops.size → OkT ops listed i t → ∀ v, (ds i).e.get t = some v → ∃ u, a.tmps[t]? = some u ∧ RVal m v u
section
variable {P : Program} {r : Rec} {n nx0 : Nat} {ops : Array Oper} {A : List Nat} {ds : Nat → DS} {D : Nat → DR} {listed : Array Bool} {m : Mp} {k : Option Nat}
theorem at_of {j : Nat} (h : j < ops.size) : ∃ o, ops[j]? = some o := ⟨ops[j], Array.getElem?_eq_getElem h⟩
theorem putE_get {e : T RV} {d : Option Tmp} {w v : RV} {t : Nat} (h : (putE n e d w).get t = some v) : (d = some t ∧ t < n ∧ v = w) ∨ (d = some t ∧ n ≤ t ∧ e.get t = some v) ∨ (d ≠ some t ∧ e.get t = some v) := by
  unfold putE at h
  split at h
  · rename_i t'
    cases hb : Nat.blt t' n with
    | false =>
      rw [hb] at h
      have : ¬ t' < n := fun hh => by rw [show Nat.blt t' n = true from Nat.ble_eq_true_of_le hh] at hb; cases hb
      by_cases e1 : t' = t
      · subst e1; exact .inr (.inl ⟨rfl, Nat.le_of_not_lt this, h⟩)
      · exact .inr (.inr ⟨fun hh => e1 (Option.some.inj hh), h⟩)
    | true =>
      rw [hb] at h
      have hlt : t' < n := Nat.le_of_ble_eq_true hb
      rcases T.get_set Ev.D e t' (some w) t v h with ⟨rfl, e1⟩ | ⟨hne, e1⟩
      · exact .inl ⟨rfl, hlt, (Option.some.inj e1).symm⟩
      · exact .inr (.inr ⟨fun hh => hne (by injection hh with hh; exact hh.symm), e1⟩)
  · exact .inr (.inr ⟨by simp, h⟩)
theorem Tr.noWrite (hT : Tr P r n nx0 ops A ds D) {c t : Nat} {v : RV} : ∀ (i : Nat), c ≤ i → i ≤ ops.size → (∀ j o, c ≤ j → j < i → ops[j]? = some o → o.dst ≠ some t) → (ds i).e.get t = some v → (ds c).e.get t = some v := by
  intro i
  induction i with
  | zero => intro hc _ _ h; rw [show c = 0 by omega]; exact h
  | succ i ih =>
    intro hc hi hw h
    by_cases e : c = i + 1
    · rw [e]; exact h
    · obtain ⟨o, ho⟩ := at_of (ops := ops) (j := i) (by omega)
      rw [hT.e i o ho] at h
      have hnd := hw i o (by omega) (by omega) ho
      rcases putE_get h with ⟨h1, _⟩ | ⟨h1, _⟩ | ⟨_, h1⟩
      · exact absurd h1 hnd
      · exact absurd h1 hnd
      · exact ih (by omega) (by omega) (fun j o hj hj' => hw j o hj (by omega)) h1
theorem EnvL.put (hT : Tr P r n nx0 ops A ds D) {m' : Mp} {a : Act} {c : Nat} {o : Oper} {u : Value} (h : EnvL ops ds n listed m a) (ho : ops[c]? = some o) (hc : c < listed.size) (hun : listed.getD c false = false) (hok : ∀ t, o.dst = some t → OkT ops listed c t)
    (hm : m.le m') (hv : RVal m' (D c).v u) : EnvL ops ds n (listed.setIfInBounds c true) m' (a.put o.dst u) := by
  have hlt := (Array.getElem?_eq_some_iff.1 ho).1
  have hcs : (listed.setIfInBounds c true).getD c false = true := by simp [hc]
  refine ⟨?_, fun i t hi hOk v hg => ?_⟩
  · cases o.dst with
    | none => exact h.size
    | some t => simp [Act.put, h.size]
  · by_cases hd : o.dst = some t
    · have hci : c < i := (hOk c o ho hd).1 hcs
      have h1 := hT.noWrite (c := c + 1) (t := t) (v := v) i (by omega) hi (fun j oj hj hji hoj hdj => by
        have h2 := (hOk j oj hoj hdj).2 hji
        rcases set_true h2 with rfl | h2
        · omega
        · have := (hok t hd j oj hoj hdj).1 h2
          omega) hg
      rw [hT.e c o ho] at h1
      rcases putE_get h1 with ⟨_, h2, h3⟩ | ⟨_, h2, h3⟩ | ⟨h2, _⟩
      · subst h3
        refine ⟨u, ?_, hv⟩
        rw [hd]
        simp only [Act.put]
        rw [Array.getElem?_setIfInBounds_self_of_lt (by rw [h.size]; exact h2)]
      · obtain ⟨u', h4, _⟩ := h.tmp c t (by omega) (hok t hd) v h3
        have := (Array.getElem?_eq_some_iff.1 h4).1
        have := h.size
        omega
      · exact absurd hd h2
    · have hOk2 : OkT ops listed i t := fun j oj hoj hdj => by
        have hne : c ≠ j := fun e => by
          subst e
          have : oj = o := Option.some.inj (hoj.symm.trans ho)
          subst this
          exact hd hdj
        have := hOk j oj hoj hdj
        rwa [getD_set_ne false hne] at this
      obtain ⟨u', h4, h5⟩ := h.tmp i t hi hOk2 v hg
      refine ⟨u', ?_, h5.mono hm⟩
      cases hdd : o.dst with
      | none => exact h4
      | some t' =>
        simp only [Act.put]
        rw [Array.getElem?_setIfInBounds_ne (fun e => hd (by rw [hdd, e]))]
        exact h4
theorem wanted_at {e : T RV} {a : Act} {o : Oper} {b : Bool} (h : wantedEv ops e o = some b) (he : ∀ t ∈ namesOf ops o, ∀ v, e.get t = some v → ∃ u, a.tmps[t]? = some u ∧ RVal m v u) : Region.wanted o (yielded ops a.tmps) = b := by
  unfold wantedEv at h
  unfold Region.wanted
  cases hg : o.guard with
  | none => rw [hg] at h; simp at h; subst h; rfl
  | some jw =>
    obtain ⟨j, w⟩ := jw
    rw [hg] at h
    simp only at h ⊢
    split at h
    · rename_i t ht
      have hmem : t ∈ namesOf ops o := by
        unfold namesOf
        rw [hg]
        simp [ht]
      have hd : (ops[j]?).bind (·.dst) = some t := by
        unfold dstOf at ht
        cases ho : ops[j]? with
        | none => rw [ho] at ht; cases ht
        | some q => rw [ho] at ht; simpa using ht
      split at h
      · rename_i c hc
        obtain ⟨u, hu, hr⟩ := he t hmem _ hc
        have := hr.val_inv
        subst this
        simp only [Option.some.injEq] at h
        subst h
        simp [yielded, hd, hu]
      · rename_i vs hc
        obtain ⟨u, hu, hr⟩ := he t hmem _ hc
        have := hr.val_inv
        subst this
        simp only [Option.some.injEq] at h
        subst h
        simp [yielded, hd, hu]
      · cases h
    · cases h
theorem smallE_get {e : T RV} : ∀ (l : List Tmp) (t : Nat) (v : RV), (smallE e l).get t = some v → t ∈ l ∧ e.get t = some v
  | [], t, v, h => by cases h
  | x :: l, t, v, h => by
    simp only [smallE] at h
    split at h
    · rename_i w hw
      rcases T.get_set Ev.D _ x (some w) t v h with ⟨rfl, e1⟩ | ⟨_, e1⟩
      · exact ⟨by simp, by rw [hw]; exact e1⟩
      · obtain ⟨h1, h2⟩ := smallE_get l t v e1
        exact ⟨by simp [h1], h2⟩
    · obtain ⟨h1, h2⟩ := smallE_get l t v h
      exact ⟨by simp [h1], h2⟩
theorem eval_small {e : T RV} {a : Act} {l : List Tmp} (he : ∀ t ∈ l, ∀ v, e.get t = some v → ∃ u, a.tmps[t]? = some u ∧ RVal m v u) : Eval m (smallE e l) a.eval := by
  intro x v hx
  cases x with
  | tmp t =>
    obtain ⟨h1, h2⟩ := smallE_get l t v hx
    obtain ⟨u, hu, hr⟩ := he t h1 v h2
    show RVal m v (a.tmps.getD t undef)
    rw [Array.getD_eq_getD_getElem?, hu]
    exact hr
  | const c => simp [opnd] at hx; subst hx; exact .val c
  | global g => simp [opnd] at hx
  | func f => simp [opnd] at hx; subst hx; exact .fn .nil .nil
theorem opstep_ok {e : T RV} {s s' : S} {o : Oper} {v : RV} {a : Act} {W : World} {next : Act → World → Prop} {Q : Exit → Act → World → Prop} (h : opEv P e s o = some (v, s')) (he : Eval m e a.eval) (hr : Rel m s.H W.heap) (hn : m s.nx = none)
    (hnext : ∀ m' W' u, Grow m s.H W m' s'.H W' → Rel m' s'.H W'.heap → (∀ id, id ≠ s.nx → m' id = m id) → ((s'.nx = s.nx ∧ m' s.nx = none) ∨ s'.nx = s.nx + 1) → RVal m' v u → next (a.put o.dst u) W') : o.wpIn (Fof k) 0 P a W next Q := by
  refine ⟨about_any, ?_⟩
  rw [Oper.semAt_eq _ _ _ (fun c hcc => by simp [opEv, hcc] at h)]
  obtain ⟨m', W', k1, k2, k3, k4, k5⟩ := op_ok h he hr hn
  rcases k5 with ⟨u, hx, hv⟩ | ⟨hx, hv⟩
  · rw [hx]
    exact hnext m' W' u k2 k1 k3 k4 hv
  · rw [hx]
    refine hnext m' W' undef k2 k1 k3 k4 ?_
    rw [hv]
    exact .val _
/-! ### The way through -/
theorem Tr.rsOf (hT : Tr P r n nx0 ops A ds D) (h0 : (ds 0).rs = []) : ∀ u, u ≤ ops.size → (∀ d ∈ (ds u).rs, d.i < u ∧ d = D d.i) ∧ ∀ i, i < u → D i ∈ (ds u).rs := by
  intro u
  induction u with
  | zero => intro _; rw [h0]; exact ⟨fun d hd => (by cases hd), fun i hi => (by omega)⟩
  | succ u ih =>
    intro hu
    obtain ⟨o, ho⟩ := at_of (ops := ops) (j := u) (by omega)
    obtain ⟨h1, h2⟩ := ih (by omega)
    rw [hT.rs u o ho]
    have hid := hT.id u o ho
    refine ⟨fun d hd => ?_, fun i hi => ?_⟩
    · rcases List.mem_cons.1 hd with rfl | hd
      · exact ⟨by omega, by rw [hid]⟩
      · obtain ⟨h3, h4⟩ := h1 d hd
        exact ⟨by omega, h4⟩
    · by_cases e : i = u
      · subst e; simp
      · exact List.mem_cons_of_mem _ (h2 i (by omega))
theorem Tr.fsOf (hT : Tr P r n nx0 ops A ds D) (h0 : (ds 0).fs = []) : ∀ u, u ≤ ops.size → ∀ f ∈ (ds u).fs, f < u ∧ (D f).k = .eff := by
  intro u
  induction u with
  | zero => intro _; rw [h0]; exact fun d hd => (by cases hd)
  | succ u ih =>
    intro hu f hf
    obtain ⟨o, ho⟩ := at_of (ops := ops) (j := u) (by omega)
    have old : f ∈ (ds u).fs → f < u + 1 ∧ (D f).k = .eff := fun hf => by
      obtain ⟨h1, h2⟩ := ih (by omega) f hf
      exact ⟨by omega, h2⟩
    cases hT.did u o ho with
    | skip _ _ _ _ hfs => rw [hfs] at hf; exact old hf
    | pure _ _ _ _ _ _ hfs => rw [hfs] at hf; exact old hf
    | alloc _ _ _ _ _ _ _ hfs => rw [hfs] at hf; exact old hf
    | read _ _ _ _ _ hfs => rw [hfs] at hf; exact old hf
    | eff _ hk _ _ _ _ _ _ _ _ hfs =>
      rw [hfs] at hf
      rcases List.mem_cons.1 hf with rfl | hf
      · exact ⟨by omega, hk⟩
      · exact old hf
/-- no effect between: the heap is the same; else the last of them stands first -/
theorem Tr.between (hT : Tr P r n nx0 ops A ds D) {t : Nat} : ∀ u, t ≤ u → u ≤ ops.size → ((ds u).hs = (ds t).hs ∧ (ds u).fs = (ds t).fs) ∨ ∃ f fs, t ≤ f ∧ f < u ∧ (D f).k = .eff ∧ (ds u).fs = f :: fs := by
  intro u
  induction u with
  | zero => intro ht _; rw [show t = 0 by omega]; exact .inl ⟨rfl, rfl⟩
  | succ u ih =>
    intro ht hu
    by_cases e : t = u + 1
    · rw [e]; exact .inl ⟨rfl, rfl⟩
    · obtain ⟨o, ho⟩ := at_of (ops := ops) (j := u) (by omega)
      have old : (ds (u + 1)).hs = (ds u).hs → (ds (u + 1)).fs = (ds u).fs → ((ds (u + 1)).hs = (ds t).hs ∧ (ds (u + 1)).fs = (ds t).fs) ∨ ∃ f fs, t ≤ f ∧ f < u + 1 ∧ (D f).k = .eff ∧ (ds (u + 1)).fs = f :: fs := fun k1 k2 => by
        rcases ih (by omega) (by omega) with ⟨h1, h2⟩ | ⟨f, fs, h1, h2, h3, h4⟩
        · exact .inl ⟨k1.trans h1, k2.trans h2⟩
        · exact .inr ⟨f, fs, h1, by omega, h3, k2.trans h4⟩
      cases hT.did u o ho with
      | skip _ _ _ hh hfs => exact old hh hfs
      | pure _ _ _ _ _ hh hfs => exact old hh hfs
      | alloc _ _ _ _ _ _ hh hfs => exact old hh hfs
      | read _ _ _ _ hh hfs => exact old hh hfs
      | eff _ hk _ _ _ _ _ _ _ _ hfs => exact .inr ⟨u, _, by omega, by omega, hk, hfs⟩
/-- a read, at the stage where it comes -/
theorem Tr.readAt (hT : Tr P r n nx0 ops A ds D) {rs : List DR} {o : Oper} {d : DR} {mk t : Nat} (ht : t ≤ ops.size) : ∀ (c : Nat) (left : List Nat), t + c ≤ ops.size → (∀ f ∈ left, t ≤ f ∧ (D f).k = .eff) → readOk P nx0 A rs o d mk (ds (t + c)).hs (ds (t + c)).fs left = true →
    ∃ left, (∀ f ∈ left, t ≤ f ∧ (D f).k = .eff) ∧ readOk P nx0 A rs o d mk (ds t).hs (ds t).fs left = true := by
  intro c
  induction c with
  | zero => intro left _ hl h; exact ⟨left, hl, h⟩
  | succ c ih =>
    intro left hc hl h
    obtain ⟨o', ho⟩ := at_of (ops := ops) (j := t + c) (by omega)
    rw [show t + (c + 1) = t + c + 1 by omega] at h
    cases hT.did (t + c) o' ho with
    | skip _ _ _ hh hfs => rw [hh, hfs] at h; exact ih left (by omega) hl h
    | pure _ _ _ _ _ hh hfs => rw [hh, hfs] at h; exact ih left (by omega) hl h
    | alloc _ _ _ _ _ _ hh hfs => rw [hh, hfs] at h; exact ih left (by omega) hl h
    | read _ _ _ _ hh hfs => rw [hh, hfs] at h; exact ih left (by omega) hl h
    | eff _ hk _ _ _ _ _ _ _ hh hfs =>
      rw [hh, hfs] at h
      simp only [readOk] at h
      obtain ⟨_, h⟩ := cond_and h
      exact ih ((t + c) :: left) (by omega) (fun f hf => by
        rcases List.mem_cons.1 hf with rfl | hf
        · exact ⟨by omega, hk⟩
        · exact hl f hf) h
theorem reads_spec {rs : List DR} {hs : List (S × Nat)} {fs : List Nat} : ∀ (l : List DR), readsOk P nx0 ops A rs hs fs l = true → ∀ d ∈ l, ∀ o, d.k = .read → ops[d.i]? = some o → readOk P nx0 A rs o d (A.getD d.i 0) hs fs [] = true
  | x :: l, h, d, hd, o, hk, ho => by
    simp only [readsOk] at h
    obtain ⟨h1, h2⟩ := cond_and h
    rcases List.mem_cons.1 hd with rfl | hd
    · rw [hk, ho] at h1
      exact h1
    · exact reads_spec l h2 d hd o hk ho
end
structure Cx (P : Program) (r : Rec) (R : Nat → Prop) (n nx0 : Nat) (ops : Array Oper) (A : List Nat) (ds : Nat → DS) (D : Nat → DR) : Prop where
  tr : Tr P r n nx0 ops A ds D
  masks : A = masks ops.toList []
  back : backOk ops.toList 0 = true
  tmps : tmpsOk ops A ops.toList 0 = true
  few : ops.size ≤ 200
  rs0 : (ds 0).rs = []
  fs0 : (ds 0).fs = []
  reads : readsOk P nx0 ops A (ds ops.size).rs (ds ops.size).hs (ds ops.size).fs (ds ops.size).rs = true
  low : ∀ id, R id → id < nx0
structure Run (R : Nat → Prop) (n nx0 : Nat) (ops : Array Oper) (ds : Nat → DS) (D : Nat → DR) (m0 : Mp) (s : S) (W0 : World) (mks : List Nat) (t : Nat) (b : S) (inc : Nat) (m : Mp) (listed : Array Bool) (a : Act) (W : World) : Prop where
  le : t ≤ ops.size
  hs : ∃ hs, (ds t).hs = (b, inc) :: hs
  effs : ∀ i, i < ops.size → (D i).k = .eff → (listed.getD i false = true ↔ i < t)
  hp : Hp R nx0 ops D m0 s W0 listed b inc m W
  env : EnvL ops ds n listed m a
  marks : MarksRel m mks a.defers
  closed : Closed ops listed
  sz : listed.size = ops.size
  incl : ∀ j, inc.testBit j = true → listed.getD j false = true
section
variable {P : Program} {r : Rec} {R : Nat → Prop} {n nx0 : Nat} {ops : Array Oper} {A : List Nat} {ds : Nat → DS} {D : Nat → DR} {listed : Array Bool} {m m0 : Mp} {k : Option Nat} {s : S} {W0 : World} {mks : List Nat}
theorem effs_set {t c : Nat} (hk : (D c).k ≠ .eff) (h : ∀ i, i < ops.size → (D i).k = .eff → (listed.getD i false = true ↔ i < t)) : ∀ i, i < ops.size → (D i).k = .eff → ((listed.setIfInBounds c true).getD i false = true ↔ i < t) := fun i hi he => by
  have hne : c ≠ i := fun e => by subst e; exact hk he
  rw [getD_set_ne false hne]
  exact h i hi he
theorem Rel.nilT (m : Mp) (h : Array Obj) : Rel m .nil h := ⟨fun id o ho => (by cases ho), fun id id' o o' p p' ho => (by cases ho)⟩
theorem run_step {Q : Exit → Act → World → Prop} {K : Act → World → Prop} (hN : Named P) (hC : SCall P r) (hY : SYield P r) (cx : Cx P r R n nx0 ops A ds D) {t : Nat} {b : S} {inc : Nat} {a : Act} {W : World} {c : Nat}
    (run : Run R n nx0 ops ds D m0 s W0 mks t b inc m listed a W) (hc : c ∈ Region.ready .any ops listed)
    (hK : ∀ t' b' inc' m' a' W', Run R n nx0 ops ds D m0 s W0 mks t' b' inc' m' (listed.setIfInBounds c true) a' W' → K a' W') : wpOpIn (Fof k) 0 P ops Q c K a W := by
  obtain ⟨hun', oc, hoc, hall⟩ := mem_ready.1 hc
  have hcs : c < ops.size := (Array.getElem?_eq_some_iff.1 hoc).1
  have hcl : c < listed.size := by rw [run.sz]; exact hcs
  have hun : listed.getD c false = false := by simpa [Array.getD, hcl] using hun'
  have anc : ∀ j, (A.getD c 0).testBit j = true → j < c ∧ listed.getD j false = true := fun j hj => by
    rw [cx.masks] at hj
    exact anc_listed cx.back run.closed c oc hoc hall j hj
  have hok : ∀ x ∈ oc.dst.toList ++ namesOf ops oc, OkT ops listed c x := fun x hx j oj hoj hd => by
    by_cases e : j = c
    · subst e; rw [hun]; simp
    · have h1 := tmps_spec hx ops.toList 0 j oj (by have := tmpsOk_spec ops.toList 0 c oc cx.tmps (by simpa using hoc); rwa [Nat.zero_add] at this) (by simpa using hoj) hd (by omega)
      rw [Nat.zero_add] at h1
      rcases Nat.lt_or_ge j c with hlt | hge
      · rw [Nat.max_eq_left (by omega), Nat.min_eq_right (by omega)] at h1
        exact ⟨fun _ => hlt, fun _ => (anc j h1).2⟩
      · rw [Nat.max_eq_right (by omega), Nat.min_eq_left (by omega), cx.masks] at h1
        refine ⟨fun hl => ?_, fun hl => by omega⟩
        have := (anc_listed cx.back run.closed j oj hoj (fun e he hb => run.closed j oj hoj hl e he hb) c h1).2
        rw [hun] at this; cases this
  have envAt : ∀ x ∈ namesOf ops oc, ∀ v, (ds c).e.get x = some v → ∃ u, a.tmps[x]? = some u ∧ RVal m v u := fun x hx v hv => run.env.tmp c x (by omega) (hok x (List.mem_append_right _ hx)) v hv
  have hokd : ∀ x, oc.dst = some x → OkT ops listed c x := fun x hx => hok x (List.mem_append_left _ (by simp [hx]))
  have hfrc : m (nx0 + c) = none := (run.hp.fresh.2 (nx0 + c) (.inr ⟨c, hcs, hun, rfl⟩)).2
  have hclosed := run.closed.set hc
  have hsz : (listed.setIfInBounds c true).size = ops.size := by simp [run.sz]
  have hincl : ∀ j, inc.testBit j = true → (listed.setIfInBounds c true).getD j false = true := fun j hj => getD_set_true (run.incl j hj)
  have hmem : ∀ j, j < ops.size → (A.getD c 0).testBit j = true → listed.getD j false = true := fun j _ hj => (anc j hj).2
  unfold wpOpIn
  simp only [hoc]
  cases cx.tr.did c oc hoc with
  | skip hw hk hv hh hf =>
    rw [wanted_at hw envAt]
    simp only [Bool.false_eq_true, if_false]
    refine ⟨about_any, hK t b inc m _ W ⟨run.le, run.hs, effs_set (by rw [hk]; simp) run.effs, run.hp.pure hcl (by rw [hk]; simp) (.refl _ _ _), run.env.put cx.tr hoc hcl hun hokd (.refl m) (by rw [hv]; exact .val _), by rw [put_defers]; exact run.marks, hclosed, hsz, hincl⟩⟩
  | pure hw hk s1 hop hn hh hf =>
    rw [wanted_at hw envAt, if_pos rfl]
    refine opstep_ok hop (eval_small envAt) (Rel.nilT _ _) hfrc fun m' W' u g hr h1 h2 hv => ?_
    have hmm : m' = m := by
      funext id
      by_cases e : id = nx0 + c
      · rcases h2 with ⟨_, h2⟩ | h2
        · rw [e, hfrc]; exact h2
        · rw [hn] at h2
          exact absurd h2 (by show ¬ nx0 + c = nx0 + c + 1; omega)
      · exact h1 id e
    subst hmm
    exact hK t b inc m' _ W' ⟨run.le, run.hs, effs_set (by rw [hk]; simp) run.effs, run.hp.pure hcl (by rw [hk]; simp) g, run.env.put cx.tr hoc hcl hun hokd (.refl m') hv, by rw [put_defers]; exact run.marks, hclosed, hsz, hincl⟩
  | alloc hw ob hk s1 hop hg hh hf =>
    rw [wanted_at hw envAt, if_pos rfl]
    refine opstep_ok hop (eval_small envAt) (Rel.nilT _ _) hfrc fun m' W' u g hr h1 h2 hv => ?_
    have hic : inc.testBit c = false := by
      cases hb : inc.testBit c with
      | false => rfl
      | true => have := run.incl c hb; rw [hun] at this; cases this
    exact hK t b inc m' _ W' ⟨run.le, run.hs, effs_set (by rw [hk]; simp) run.effs, run.hp.alloc hcl hcs hun hk g hr hg h1 hic cx.low, run.env.put cx.tr hoc hcl hun hokd g.ext hv, by rw [put_defers]; exact run.marks.mono g.ext, hclosed, hsz, hincl⟩
  | read hw hk hs hro hh hf =>
    rw [wanted_at hw envAt, if_pos rfl]
    obtain ⟨hsl, hsq⟩ := run.hs
    have hid := cx.tr.id c oc hoc
    obtain ⟨hrs1, hrs2⟩ := cx.tr.rsOf cx.rs0 ops.size (Nat.le_refl _)
    have hread := reads_spec _ cx.reads (D c) (hrs2 c hcs) oc hk (by rw [hid]; exact hoc)
    rw [hid] at hread
    obtain ⟨left, hleft, hst⟩ := cx.tr.readAt (t := t) run.le (ops.size - t) [] (by have := run.le; omega) (fun f hf => by cases hf) (by rw [show t + (ops.size - t) = ops.size by have := run.le; omega]; exact hread)
    rw [hsq] at hst
    simp only [readOk] at hst
    have hst := (cond_and hst).1
    have hstage : stageOk A (D c).i (A.getD c 0) (ds t).fs left = true := by
      unfold stageOk
      rw [Bool.and_eq_true, List.all_eq_true, List.all_eq_true]
      refine ⟨fun f hf => ?_, fun f hf => ?_⟩
      · obtain ⟨h1, h2⟩ := cx.tr.fsOf cx.fs0 t run.le f hf
        have hfs : f < ops.size := by have := run.le; omega
        obtain ⟨of, hof⟩ := at_of hfs
        have hfl := (run.effs f hfs h2).2 h1
        cases hb : (A.getD f 0).testBit (D c).i with
        | false => rfl
        | true =>
          rw [hid, cx.masks] at hb
          have := (anc_listed cx.back run.closed f of hof (fun e he hbd => run.closed f of hof hfl e he hbd) c hb).2
          rw [hun] at this; cases this
      · obtain ⟨h1, h2⟩ := hleft f hf
        cases hb : (A.getD c 0).testBit f with
        | false => rfl
        | true =>
          obtain ⟨h3, h4⟩ := anc f hb
          have := (run.effs f (by omega) h2).1 h4
          omega
    rw [hstage] at hst
    simp only [cond_true] at hst
    split at hst
    · rename_i v s1 hop
      rw [Bool.and_eq_true, beq_iff_eq] at hst
      have hv0 := same_eq v (D c).v hst.1
      rw [hs] at hop
      have hnx : s1.nx = (addAl nx0 (bits (A.getD c 0) inc) (ds ops.size).rs b).nx := by rw [addAl_nx]; exact hst.2
      have hs1 := readOp_same hro hop hnx
      subst hs1
      have hget : HGet nx0 ops D listed inc (A.getD c 0) b (addAl nx0 (bits (A.getD c 0) inc) (ds ops.size).rs b).H := hget_of hrs1 cx.few hmem
      have hfb : m (addAl nx0 (bits (A.getD c 0) inc) (ds ops.size).rs b).nx = none := by rw [addAl_nx]; exact run.hp.fresh.1 _ (Nat.le_refl _)
      refine opstep_ok hop (eval_small envAt) (run.hp.subRel hget) hfb fun m' W' u g hr h1 h2 hv => ?_
      have hmm : m' = m := by
        funext id
        by_cases e : id = (addAl nx0 (bits (A.getD c 0) inc) (ds ops.size).rs b).nx
        · rcases h2 with ⟨_, h2⟩ | h2
          · rw [e, hfb]; exact h2
          · omega
        · exact h1 id e
      subst hmm
      rw [hv0] at hv
      exact hK t b inc m' _ W' ⟨run.le, run.hs, effs_set (by rw [hk]; simp) run.effs, run.hp.read hcl (by rw [hk]; simp) hget hr g, run.env.put cx.tr hoc hcl hun hokd (.refl m') hv, by rw [put_defers]; exact run.marks, hclosed, hsz, hincl⟩
    · cases hst
  | eff hw hk b' inc' hs' s1 hd hch hst hh hf =>
    rw [wanted_at hw envAt, if_pos rfl]
    obtain ⟨hsl, hsq⟩ := run.hs
    have hno : ∀ f, t ≤ f → f < ops.size → (D f).k = .eff → (A.getD c 0).testBit f = true → False := fun f h1 h2 h3 h4 => by
      have := (run.effs f h2 h3).1 (anc f h4).2
      omega
    have htc : t ≤ c := by
      rcases Nat.lt_or_ge c t with h1 | h1
      · have := (run.effs c hcs hk).2 h1
        rw [hun] at this; cases this
      · exact h1
    have hsame : (ds c).hs = (ds t).hs := by
      rcases cx.tr.between c htc (by omega) with ⟨h1, _⟩ | ⟨f, fs, h1, h2, h3, h4⟩
      · exact h1
      · exact (hno f h1 (by omega) h3 (hch f fs h4)).elim
    rw [hsame, hsq] at hd
    injection hd with hd1 hd2
    injection hd1 with hd3 hd4
    subst hd3 hd4
    have heff : ∀ i, i < ops.size → (D i).k = .eff → i < c → i < t := fun i hi he hic => by
      rcases Nat.lt_or_ge i t with h1 | h1
      · exact h1
      · obtain ⟨oi, hoi⟩ := at_of hi
        have hfi : (ds (i + 1)).fs = i :: (ds i).fs := by
          cases cx.tr.did i oi hoi with
          | skip _ hk2 => rw [he] at hk2; cases hk2
          | pure _ hk2 => rw [he] at hk2; cases hk2
          | alloc _ _ hk2 => rw [he] at hk2; cases hk2
          | read _ hk2 => rw [he] at hk2; cases hk2
          | eff _ _ _ _ _ _ _ _ _ _ hf2 => exact hf2
        rcases cx.tr.between (t := i + 1) c (by omega) (by omega) with ⟨_, h2⟩ | ⟨f, fs, h2, h3, h4, h5⟩
        · exact (hno i h1 hi he (hch i _ (h2.trans hfi))).elim
        · exact (hno f (by omega) (by omega) h4 (hch f fs h5)).elim
    obtain ⟨hrs1, _⟩ := cx.tr.rsOf cx.rs0 c (by omega)
    have hget : HGet nx0 ops D listed inc (A.getD c 0) b (addAl nx0 (bits (A.getD c 0) inc) (ds c).rs b).H := hget_of (fun d hd => ⟨by have := (hrs1 d hd).1; omega, (hrs1 d hd).2⟩) cx.few hmem
    refine step_ok hN hC hY hst (eval_small envAt) (run.hp.subRel hget) (by rw [addAl_nx]; exact run.hp.fresh) fun m' W' u g hr hfr hv => ?_
    refine hK (c + 1) s1 (inc ||| A.getD c 0) m' _ W' ⟨by omega, ⟨_, hh⟩, fun i hi he => ?_, run.hp.eff hcl (by rw [hk]; simp) hget g hr hfr, run.env.put cx.tr hoc hcl hun hokd g.ext hv, by rw [put_defers]; exact run.marks.mono g.ext, hclosed, hsz, fun j hj => ?_⟩
    · by_cases e : c = i
      · subst e
        exact ⟨fun _ => by omega, fun _ => by simp [hcl]⟩
      · rw [getD_set_ne false e, run.effs i hi he]
        refine ⟨fun h => by omega, fun h => heff i hi he (by omega)⟩
    · rw [Nat.testBit_or, Bool.or_eq_true] at hj
      rcases hj with hj | hj
      · exact hincl j hj
      · exact getD_set_true (anc j hj).2
theorem any_ok {Q : Exit → Act → World → Prop} (hN : Named P) (hC : SCall P r) (hY : SYield P r) (cx : Cx P r R n nx0 ops A ds D)
    (hQ : ∀ t b inc m listed a W, Run R n nx0 ops ds D m0 s W0 mks t b inc m listed a W → (∀ j, j < ops.size → listed.getD j false = true) → Q .normal a W) :
    ∀ (fuel : Nat) (listed : Array Bool) (a : Act) (W : World) (t : Nat) (b : S) (inc : Nat) (m : Mp), Run R n nx0 ops ds D m0 s W0 mks t b inc m listed a W → listed.toList.count false = fuel → wpAnyIn (Fof k) 0 P .any ops Q fuel listed a W := by
  intro fuel
  induction fuel with
  | zero =>
    intro listed a W t b inc m run hcnt
    have hall : ∀ j, j < ops.size → listed.getD j false = true := fun j hj => by
      have hjl : j < listed.size := by rw [run.sz]; exact hj
      cases hb : listed.getD j false with
      | true => rfl
      | false =>
        have h1 : listed[j] = false := by simpa [Array.getD, hjl] using hb
        have : false ∈ listed.toList := by rw [← h1]; simp
        exact absurd (List.count_pos_iff.2 this) (by omega)
    refine ⟨?_, hQ t b inc m listed a W run hall⟩
    refine List.eq_nil_iff_forall_not_mem.2 fun c hc => ?_
    obtain ⟨h1, oc, hoc, _⟩ := mem_ready.1 hc
    have hcs : c < ops.size := (Array.getElem?_eq_some_iff.1 hoc).1
    have hcl : c < listed.size := by rw [run.sz]; exact hcs
    have h2 := hall c hcs
    simp [Array.getD, hcl] at h1 h2
    rw [h1] at h2; cases h2
  | succ fuel ih =>
    intro listed a W t b inc m run hcnt
    refine ⟨fun hnil => hQ t b inc m listed a W run fun j => ?_, fun c hc => ?_⟩
    · induction j using Nat.strongRecOn with
      | ind j ihj =>
        intro hj
        obtain ⟨oj, hoj⟩ := at_of hj
        cases hb : listed.getD j false with
        | true => rfl
        | false =>
          have hjl : j < listed.size := by rw [run.sz]; exact hj
          have : j ∈ Region.ready .any ops listed := mem_ready.2 ⟨by simpa [Array.getD, hjl] using hb, oj, hoj, fun e he hbd => by
            have h1 := back_spec ops.toList 0 j oj cx.back (by simpa using hoj) e he hbd
            exact ihj e.on (by omega) (by omega)⟩
          rw [hnil] at this
          cases this
    · refine run_step hN hC hY cx run hc fun t' b' inc' m' a' W' run' => ih _ a' W' t' b' inc' m' run' ?_
      obtain ⟨h1, oc, hoc, _⟩ := mem_ready.1 hc
      have hcs : c < ops.size := (Array.getElem?_eq_some_iff.1 hoc).1
      have hcl : c < listed.size := by rw [run.sz]; exact hcs
      have h2 : listed[c] = false := by simpa [Array.getD, hcl] using h1
      rw [Array.toList_setIfInBounds, List.count_set (by simpa using hcl)]
      simp [h2, hcnt]
/-- a region that draws its order -/
theorem draw_ok (hN : Named P) (hC : SCall P r) (hY : SYield P r) : DrawOk P r := by
  refine ⟨fun {R n ops e s e' s' m k a W mks Q} h hD hQ => ?_⟩
  unfold drawEv at h
  obtain ⟨h1, h⟩ := cond_opt h
  rw [Bool.and_eq_true] at h1
  obtain ⟨hdr, h200⟩ := h1
  unfold drawOk at hdr
  rw [Bool.and_eq_true] at hdr
  split at h
  · rename_i d hd
    obtain ⟨hrd, h⟩ := cond_opt h
    obtain ⟨ds, D, e0, e1, hT⟩ := trace_tr hd
    subst e1
    have cx : Cx P r R n s.nx ops (masks ops.toList []) ds D := ⟨hT, rfl, hdr.2, hdr.1, Nat.le_of_ble_eq_true h200, by rw [e0], by rw [e0], hrd, fun id hid => (hD.fresh.2 id hid).1⟩
    have hget0 : ∀ j, (Array.replicate ops.size false).getD j false = false := fun j => by
      by_cases hj : j < ops.size <;> simp [Array.getD, hj]
    refine any_ok (m0 := m) (s := s) (W0 := W) (mks := mks) hN hC hY cx (fun t b inc m' listed a' W' run hall => ?_) ops.size _ a W 0 ⟨s.H, s.nx + ops.size⟩ 0 m ?_ (by simp)
    · obtain ⟨hsl, hsq⟩ := run.hs
      have hsame : (ds ops.size).hs = (ds t).hs := by
        rcases hT.between ops.size run.le (Nat.le_refl _) with ⟨h1, _⟩ | ⟨f, fs, h1, h2, h3, h4⟩
        · exact h1
        · have := (run.effs f h2 h3).1 (hall f h2)
          omega
      rw [hsame, hsq] at h
      simp only [Option.some.injEq, Prod.mk.injEq] at h
      obtain ⟨rfl, rfl⟩ := h
      obtain ⟨hrs1, _⟩ := hT.rsOf (by rw [e0]) ops.size (Nat.le_refl _)
      have hg : HGet s.nx ops D listed inc (2 ^ 200 - 1) b (addAl s.nx (bits (2 ^ 200 - 1) inc) (ds ops.size).rs b).H := hget_of hrs1 cx.few fun j hj _ => hall j hj
      obtain ⟨k1, k2, k3⟩ := run.hp.last hg
      refine hQ m' a' W' k2 ⟨k1, ?_, ⟨run.env.size, fun t' v ht => run.env.tmp ops.size t' (Nat.le_refl _) (fun j o hj _ => ?_) v ht⟩, run.marks⟩
      · show Fresh R m' (addAl s.nx (bits (2 ^ 200 - 1) inc) (ds ops.size).rs b).nx
        rw [addAl_nx]
        exact k3
      · have hjs := (Array.getElem?_eq_some_iff.1 hj).1
        exact ⟨fun _ => hjs, fun _ => hall j hjs⟩
    · have hno : ∀ {inc j ob}, ¬ AlJ ops D (Array.replicate ops.size false) inc j ob := fun hh => by
        have := hh.2.1
        rw [hget0] at this; cases this
      refine ⟨Nat.zero_le _, ⟨[], by rw [e0]⟩, fun i hi he => ?_, ⟨hD.rel, fun j ob hh => (hno hh).elim, fun j j' ob ob' p p' hh => (hno hh).elim, ⟨fun id hid => hD.fresh.1 id ?_, fun id hid => ?_⟩, .refl m, Nat.le_refl _, fun q _ _ => rfl, fun q hl => .inl hl, fun j ob p hh => (hno hh).elim, rfl, rfl, rfl⟩, ⟨hD.env.1, fun i t hi hOk v hv => ?_⟩, hD.marks, fun j oj hj hl => ?_, by simp, fun j hj => by simp at hj⟩
      · rw [hget0]; simp
      · have : s.nx + ops.size ≤ id := hid
        show s.nx ≤ id
        omega
      · rcases hid with h1 | ⟨j, h1, _, rfl⟩
        · obtain ⟨h2, h3⟩ := hD.fresh.2 id h1
          have h4 : id < s.nx := h2
          exact ⟨by show id < s.nx + ops.size; omega, h3⟩
        · exact ⟨by show s.nx + j < s.nx + ops.size; omega, hD.fresh.1 _ (show s.nx ≤ s.nx + j by omega)⟩
      · refine hD.env.2 t v ?_
        have := hT.noWrite (c := 0) (t := t) (v := v) i (by omega) hi (fun j o _ hji hoj hdj => by
          have := (hOk j o hoj hdj).2 hji
          rw [hget0] at this; cases this) hv
        rw [e0] at this
        exact this
      · rw [hget0] at hl; cases hl
  · cases h
/-- what a closed call does -/
theorem closed_call (hN : Named P) (hm : P.follows .mixedOrders = true) {f N : Nat} {v : Value} {s' : S} (h : (ev P N).call f [] ⟨.nil, 0⟩ = some (.val v, s')) (W : World) :
    CallsIn Fence.wide 0 P f #[] W fun e W' => e = .returned v ∧ W.heap.size ≤ W'.heap.size ∧ (∀ b, b < W.heap.size → W'.heap[b]? = W.heap[b]?) ∧ W'.os = W.os ∧ W'.tape = W.tape ∧ W'.output = W.output :=
  calls_of_ev hN hm (fun r hC hY => draw_ok hN hC hY) h W
end
end Go.Proofs.YtmknchdciblfjaaGreat.Ev
