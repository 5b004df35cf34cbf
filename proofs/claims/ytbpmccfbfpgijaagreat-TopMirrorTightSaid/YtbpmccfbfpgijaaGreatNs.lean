/- TopMirrorTight: journey.hops; marks (printed by gen/g22.py) -/
import Derived.BigQuiet
import Derived.BigRegion
import Derived.RangeFuncNested
import Derived.RangeFuncBound
import Derived.RangeFuncCalls
import Derived.RangeFuncLeaves
import Derived.RangeFuncBox
import Derived.RangeFuncFrom
import Derived.Shelf.Abstract
import Derived.Shelf.RegionOpen
import Derived.OwnWalkIn
import Derived.LoopIn
import Derived.LoopNIn
import Derived.TacticsInMore
import Derived.Test.YtbpmccfbfpgijaaGreatNh
import Derived.Test.YtbpmccfbfpgijaaGreatNk
import Derived.Test.YtbpmccfbfpgijaaGreatNo
set_option linter.unusedVariables false
set_option linter.unusedSimpArgs false
namespace Go.Proofs.YtbpmccfbfpgijaaGreat
open Go Go.RowKit Iv
attribute [local go_sem] Oper.semAt_some
attribute [local go_sem] B_getElem B_size B_app B_extract B_get B_toList
open Go.Shelf
theorem plan_skipI {F : Fence} {n : Nat} {P : Program} {Q : Exit → Act → World → Prop} {S : World → Prop} {kd : List Nat} {l rl : List Oper} {i : Nat} {r : List Nat} {o : Oper} {a : Act} {w : World} (hd : l.drop i = o :: rl) (hk : kd.getD i 2 ≤ 1) (hw : Region.wanted o (yielded l.toArray a.tmps) = false)
    (hb : ∀ w, o.about P w a.eval = none) (h : wpPlanIn F n P l.toArray Q S kd r (a.put o.dst undef) w) : wpPlanIn F n P l.toArray Q S kd (i :: r) a w := by
  have ho := drop_get hd
  unfold wpPlanIn
  rw [ho]
  simp only
  rw [if_pos hk]
  exact ⟨undef, ⟨.inr ⟨hw, rfl⟩, hb⟩, h⟩
/-- what hops makes: four boxes -/
def HopsW (pv : Array Value) (node t s : Int) (w w' : World) : Prop := Below w.heap.size w w' ∧ w'.heap.size = w.heap.size + 4 ∧ w'.heap[w.heap.size]? = some (.cells pv 25 (0, 0)) ∧ w'.heap[w.heap.size + 1]? = some (.cells #[.int .i64 node] 3 (0, 0)) ∧ w'.heap[w.heap.size + 2]? = some (.cells #[.int .i64 t] 3 (0, 0)) ∧ w'.heap[w.heap.size + 3]? = some (.cells #[.int .i64 s] 3 (0, 0))
theorem hops_any (u v : Value) (node t s : Int) (w : World) : Calls Tryz.prog 36 #[.agg #[u, v], .int .i64 node, .int .i64 t, .int .i64 s] w fun e w' => e = .returned (.func (.func 73) #[] #[.pointer (some ⟨w.heap.size, 0, none⟩), .pointer (some ⟨w.heap.size + 1, 0, none⟩), .pointer (some ⟨w.heap.size + 2, 0, none⟩), .pointer (some ⟨w.heap.size + 3, 0, none⟩)]) ∧ HopsW #[u, v] node t s w w' := by
  refine (callsIn_wide (n := 12)).1 ?_
  refine callsIn_of_wp Tryz.func36 rfl trivial ?_ rfl
  simp only [Tryz.ntmps36, List.size_toArray, List.length_cons, List.length_nil, Nat.reduceAdd, Nat.reduceSub, Array.replicate_succ, Array.replicate_zero, List.push_toArray, List.append_toArray, List.nil_append, List.cons_append]
  gi_wp2
  refine bodyPost_ret (results_tmp rfl _ _ _) rfl ?_
  refine ⟨rfl, belowA, by simp, ?_, ?_, ?_, ?_⟩
  all_goals exact (by repeat (first | exact heap_new' (by first | rfl | (simp; done)) | refine (Below.heap_alloc _ _ _ (by first | (simp; done) | (simp; omega))).trans ?_))
def Oth2 (gt gl : Nat) (w w' : World) : Prop := w.heap.size ≤ w'.heap.size ∧ ∀ q, q < w.heap.size → q ≠ gt → q ≠ gl → w'.heap[q]? = w.heap[q]?
theorem Oth2.trans {gt gl : Nat} {a b c : World} (h : Oth2 gt gl a b) (k : Oth2 gt gl b c) : Oth2 gt gl a c := ⟨Nat.le_trans h.1 k.1, fun q hq n1 n2 => (k.2 q (by have := h.1; omega) n1 n2).trans (h.2 q hq n1 n2)⟩
/-- the marks that the rounds left: each lies in a block of its own -/
def mark (D : Nat) : Deferred := { target := .collected D, args := #[] }
def MarkOK (B : Nat) (W : World) (ds : List Deferred) : Prop := ∃ Ds : List Nat, ds = Ds.map mark ∧ Ds.Nodup ∧ ∀ D ∈ Ds, B ≤ D ∧ W.heap[D]? = some (.deferred (some []))
/-- only the marks' blocks have turned -/
def Puts (B : Nat) (w w' : World) : Prop := w'.os = w.os ∧ w'.tape = w.tape ∧ w'.output = w.output ∧ w.heap.size ≤ w'.heap.size ∧ ∀ q, q < w.heap.size → (∀ cs t f, w.heap[q]? = some (.cells cs t f) → w'.heap[q]? = w.heap[q]?) ∧ (q < B → w'.heap[q]? = w.heap[q]?)
theorem leave_marks {F : Fence} {n : Nat} {P : Program} {fn : Func} {tmps : Array Value} {R : Ending → World → Prop} {B : Nat} : ∀ (Ds : List Nat) (w0 w : World), Ds.Nodup → (∀ D ∈ Ds, B ≤ D ∧ w.heap[D]? = some (.deferred (some []))) → Puts B w0 w →
    (∀ w', Puts B w0 w' → LeavesInM F n P fn tmps R [] .returning w') → LeavesInM F n P fn tmps R (Ds.map mark) .returning w
  | [], w0, w, _, _, hp, h => h w hp
  | D :: Ds, w0, w, hn, hd, hp, h => by
    obtain ⟨h1, h2⟩ := hd D (by simp)
    have hg := grownBy_putObj' w D
    refine ⟨by simp, .inl ⟨_, _, rfl, run_takeDeferred h2, ?_⟩⟩
    refine leave_marks Ds w0 _ (List.nodup_cons.1 hn).2 (fun D' hD' => ?_) ?_ h
    · obtain ⟨g1, g2⟩ := hd D' (by simp [hD'])
      refine ⟨g1, ((hg _).block D' (Array.getElem?_eq_some_iff.1 g2).1 (fun e => ?_)).trans g2⟩
      injection e with e
      exact (List.nodup_cons.1 hn).1 (e ▸ hD')
    · obtain ⟨p1, p2, p3, p4, p5⟩ := hp
      refine ⟨(hg _).os.trans p1, (hg _).tape.trans p2, (hg _).output.trans p3, Nat.le_trans p4 (hg _).size, fun q hq => ⟨fun cs t f hc => ?_, fun hqB => ?_⟩⟩
      · have e1 := (p5 q hq).1 cs t f hc
        refine ((hg _).block q (by omega) (fun e => ?_)).trans e1
        injection e with e
        subst e
        rw [e1, hc] at h2
        cases h2
      · refine ((hg _).block q (by omega) (fun e => ?_)).trans ((p5 q hq).2 hqB)
        injection e with e
        omega
theorem AInv.bnd {s src : Nat} {rd : Int} {cs : List Con} {n : Nat} {td : Nat → Prop} {F : List Int} {l : List Bool} (h : Mt.AInv (dS s) src rd cs n td F l) (hr : rd ≤ 1099511627776) (hcs : ∀ c ∈ cs, chkCon c = 0) (v : Nat) (h0 : 0 ≤ Mt.at_ F v) : Mt.at_ F v ≤ 1099511627776 := by
  by_cases e : v = src
  · rw [e, h.at0]; exact hr
  · obtain ⟨c, hc, _, _, ha⟩ := h.sup v e h0
    have hf := con_facts (hcs c hc)
    have h1 := hf.en1
    have h2 := hf.rg0
    unfold Mt.arr at ha
    split at ha
    · injection ha with ha
      omega
    · cases ha
/-- how many nodes are not left -/
def cntF (w : World) (gl n : Nat) : Nat := ((List.range n).filter fun i => match w.cell? ⟨gl, i, none⟩ with | some (.bool false) => true | _ => false).length
theorem cntF_eq {w : World} {gl n : Nat} {l : List Bool} (h : w.heap[gl]? = some (.cells (l.map Value.bool).toArray 4 (0, 0))) (hl : l.length = n) : cntF w gl n = ((List.range n).filter fun i => !l.getD i true).length := by
  unfold cntF
  congr 1
  refine List.filter_congr fun i hi => ?_
  rw [cellB h]
  obtain ⟨x, hx⟩ : ∃ x, l[i]? = some x := ⟨_, List.getElem?_eq_getElem (by rw [hl]; exact List.mem_range.1 hi)⟩
  simp only [List.getElem?_toArray, List.getElem?_map, hx, Option.map_some, List.getD_eq_getElem?_getD, Option.getD_some]
  cases x <;> rfl
theorem cntF_set {n : Nat} {l : List Bool} {b : Nat} (hb : b < n) (hl : l.length = n) (hf : l.getD b true = false) : ((List.range n).filter fun i => !(l.set b true).getD i true).length < ((List.range n).filter fun i => !l.getD i true).length := by
  have h1 : ∀ i, (!(l.set b true).getD i true) = (decide (i ≠ b) && !l.getD i true) := fun i => by
    rw [List.getD_eq_getElem?_getD, List.getElem?_set, List.getD_eq_getElem?_getD]
    by_cases e : b = i
    · subst e; simp; split <;> simp
    · rw [if_neg e]; simp [Ne.symm e]
  rw [List.filter_congr (fun i _ => h1 i), ← List.filter_filter]
  have h2 : b ∈ (List.range n).filter fun i => !l.getD i true := List.mem_filter.2 ⟨List.mem_range.2 hb, by rw [hf]; rfl⟩
  exact (List.length_filter_lt_length_iff_exists (p := fun i => decide (i ≠ b))).2 ⟨b, h2, by simp⟩
theorem hop_lit {cs : List Con} {node t : Int} {s : Nat} (x : Hx cs node t s) {c : Con} (hc : cs[x.1]? = some c) : c.fr = node ∧ max t c.st ≤ c.en - durS c s ∧ hopR c x.1 s t = (#[.int .i64 (x.1 : Int), .int .i64 (max t c.st), .int .i64 (max t c.st + durS c s), .int .i64 (max t c.st + durS c s + c.rg)], true) := by
  have h := x.2.2
  unfold hpB at h
  rw [conAt_eq hc, Bool.and_eq_true, decide_eq_true_eq] at h
  refine ⟨h.1, ?_⟩
  have h2 := h.2
  unfold hopR at h2 ⊢
  split at h2
  · rename_i z; exact ⟨z, if_pos z⟩
  · cases h2
/-- where the loop over the hops from the node m stands -/
structure RI (w wR : World) (gt m n src s : Nat) (rd : Int) (cs : List Con) (F : List Int) (l : List Bool) (pre : List Nat) (W : World) : Prop where
  ex : ∃ F', W.heap[gt]? = some (.cells (F'.map (Value.int .i64)).toArray 3 (0, 0)) ∧ Mt.AInv (dS s) src rd cs n (fun j => (∃ c, cs[j]? = some c ∧ Mt.cf c = m) ∧ j ∉ pre) F' l ∧ ∀ u, Mt.lt_ l u = true → Mt.at_ F' u = Mt.at_ F u
  kp : KpX wR.heap.size gt wR W
  bel : Below w.heap.size w W
theorem RI.below {w wR : World} {gt m n src s : Nat} {rd : Int} {cs : List Con} {F : List Int} {l : List Bool} {pre : List Nat} {W W' : World} (h : RI w wR gt m n src s rd cs F l pre W) (hw : w.heap.size ≤ wR.heap.size) (k : Below W.heap.size W W') : RI w wR gt m n src s rd cs F l pre W' := by
  obtain ⟨F', e1, e2, e3⟩ := h.ex
  exact ⟨⟨F', (k.block _ (Array.getElem?_eq_some_iff.1 e1).1).trans e1, e2, e3⟩, h.kp.trans ⟨k.size, fun q hq _ => k.block q (Nat.lt_of_lt_of_le hq h.kp.1)⟩, h.bel.trans (k.mono (Nat.le_trans hw h.kp.1))⟩
theorem RI.own {w wR : World} {gt m n src s : Nat} {rd : Int} {cs : List Con} {F : List Int} {l : List Bool} {α : Type} {f : α → List Nat} (hw : w.heap.size ≤ wR.heap.size) : OwnFrom wR.heap.size (fun (x : α) W => RI w wR gt m n src s rd cs F l (f x) W) := fun x A C row hs hg hr => by
  obtain ⟨F', e1, e2, e3⟩ := hs.ex
  have hA := hs.kp.1
  refine ⟨⟨F', (ownC hg hr _ _ _ _ e1).trans e1, e2, e3⟩, hs.kp.trans ⟨hg.size, fun q hq _ => hg.block q (by omega) (fun e => by have := (hr q e.symm).1; omega)⟩, hs.bel.grown hg (by omega) (fun q e => by have := (hr q e).1; omega)⟩
/-- a hop -/
theorem RI.hop {w wR W W' : World} {gt m n src s : Nat} {rd A : Int} {cs : List Con} {F F' : List Int} {l : List Bool} {pre : List Nat} {i g : Nat} {c : Con} (h : KpX wR.heap.size gt wR W) (hb : Below w.heap.size w W) (hd : Mt.Pos (dS s) cs) (hr : 0 ≤ rd) (hm : Mt.lt_ l m = true) (hmx : ∀ u, Mt.lt_ l u = true → Mt.at_ F u ≤ Mt.at_ F m)
    (e2 : Mt.AInv (dS s) src rd cs n (fun j => (∃ c, cs[j]? = some c ∧ Mt.cf c = m) ∧ j ∉ pre) F' l) (e3 : ∀ u, Mt.lt_ l u = true → Mt.at_ F' u = Mt.at_ F u)
    (hi : cs[i]? = some c) (hc : Mt.cf c = m) (hg : Mt.ct c = g) (hn : g < n) (ht : Mt.arr (dS s) c (Mt.at_ F m) = some A)
    (hW : W'.heap[gt]? = some (.cells ((if Mt.at_ F' g < 0 ∨ A < Mt.at_ F' g then F'.set g A else F').map (Value.int .i64)).toArray 3 (0, 0))) (ho : ∀ q, q ≠ gt → W'.heap[q]? = W.heap[q]?) (hs : W'.heap.size = W.heap.size) (hx : W'.os = W.os ∧ W'.tape = W.tape ∧ W'.output = W.output) (hgt : w.heap.size ≤ gt) :
    RI w wR gt m n src s rd cs F l (pre ++ [i]) W' := by
  subst hg
  have hmx' : ∀ u, Mt.lt_ l u = true → Mt.at_ F' u ≤ Mt.at_ F' m := fun u hu => by rw [e3 u hu, e3 m hm]; exact hmx u hu
  obtain ⟨F'', hF, h1, h2⟩ := e2.hop hd hr hm hmx' hi hc hn (by rw [e3 m hm]; exact ht)
  refine ⟨⟨F'', by rw [hF]; exact hW, ?_, fun u hu => (h2 u hu).trans (e3 u hu)⟩, h.trans ⟨by omega, fun q _ hne => ho q hne⟩, hb.trans ⟨hx.1, hx.2.1, hx.2.2, by omega, fun k hk => ho k (by omega)⟩⟩
  have e : (fun j => ((∃ c, cs[j]? = some c ∧ Mt.cf c = m) ∧ j ∉ pre) ∧ j ≠ i) = (fun j => (∃ c, cs[j]? = some c ∧ Mt.cf c = m) ∧ j ∉ pre ++ [i]) := by
    funext j
    simp [and_assoc]
  rw [← e]
  exact h1
end Go.Proofs.YtbpmccfbfpgijaaGreat
