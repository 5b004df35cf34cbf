/- Joined by port.py: XSh -/
import Derived.Shelf.Abstract
import Derived.Shelf.RegionOpen
import Derived.OwnWalkIn
import Derived.TacticsInMore
import Derived.LoopNIn
import Derived.LoopIn
import Derived.BigRegionIn
import Derived.Test.YtkokiahmgmeokaaGreatSz
import Derived.Test.YtkokiahmgmeokaaGreatJl
import Derived.Deep.AppendLies
import Derived.Laws.OwnMore
set_option linter.unusedVariables false
set_option linter.unusedSimpArgs false
/-! XSh -/
namespace Go.Proofs.YtkokiahmgmeokaaGreat
open Go Go.RowKit Iv
attribute [local go_sem] Oper.semAt_some
attribute [local go_sem] B_getElem B_size B_app B_extract B_get B_toList
open Go.Shelf
def encQ (p : Pt) : Array Value := #[.int .i64 p.1, .agg #[.bool p.2.1, .bool p.2.2]]
def okQ (pre : List Pt) (x : Pt) (W0 W : World) : Prop := pre.length ≤ 10000
def PTS (a b : List Sp) : List Pt := pts (2 * a.length + 2 * b.length) (a, false) (b, false)
theorem RSps.kept {w w' : World} {N : Nat} {v : Value} {l : List Sp} (h : RSps w N v l) (k : ∀ q, q < N → w'.heap[q]? = w.heap[q]?) : RSps w' N v l := h.keep (fun b o hb => World.cell?_of_block (k b hb)) (Nat.le_refl _)
theorem RSps.wide {w : World} {N M : Nat} {v : Value} {l : List Sp} (h : RSps w N v l) (k : N ≤ M) : RSps w M v l := h.keep (fun b o hb => rfl) k
theorem SdOk.wide {w : World} {N M : Nat} {v : Value} {l : List Sp} {k : Nat} {i : Bool} (h : SdOk w N v l k i) (hM : N ≤ M) : SdOk w M v l k i := ⟨h.row.wide hM, h.le, h.lt⟩
theorem SdOk.kept {w w' : World} {N : Nat} {v : Value} {l : List Sp} {k : Nat} {i : Bool} (h : SdOk w N v l k i) (hk : ∀ q, q < N → w'.heap[q]? = w.heap[q]?) : SdOk w' N v l k i := ⟨h.row.kept hk, h.le, h.lt⟩
def wA (n k : Nat) (i : Bool) : Nat := 2 * (n - k) - (if i = true then 1 else 0)
def sdM (W : World) (s n : Nat) : Nat := match W.cell? ⟨s, 1, none⟩, W.cell? ⟨s, 2, none⟩ with
  | some (.int _ k), some (.bool i) => wA n k.toNat i
  | _, _ => 0
theorem wA_pass {l : List Sp} {k : Nat} {i : Bool} {t : Int} (h : nxt (l.drop k, i) = some t) : wA l.length (passA l k i t).1 (passA l k i t).2 < wA l.length k i := by
  have hl := nxt_some_lt h
  unfold passA
  rw [if_pos h]
  cases i <;> simp [wA] <;> omega
theorem wA_le (l : List Sp) (k : Nat) (i : Bool) (t : Int) : wA l.length (passA l k i t).1 (passA l k i t).2 ≤ wA l.length k i := by
  by_cases h : nxt (l.drop k, i) = some t
  · exact Nat.le_of_lt (wA_pass h)
  · unfold passA; rw [if_neg h]; exact Nat.le_refl _
theorem wA_pos {l : List Sp} {k : Nat} {i : Bool} {t : Int} (h : nxt (l.drop k, i) = some t) : 0 < wA l.length k i := by
  have := wA_pass h; omega
theorem pts_none {f : Nat} {a b : Sd} (h : tmin (nxt a) (nxt b) = none) : pts f a b = [] := by
  cases f with
  | zero => rfl
  | succ f => unfold pts; rw [h]
theorem pts_some {f : Nat} {a b : Sd} {t : Int} (h : tmin (nxt a) (nxt b) = some t) : pts (f + 1) a b = (t, (pass a t).2, (pass b t).2) :: pts f (pass a t) (pass b t) := by
  rw [pts]; rw [h]
theorem nxt_val {s : Sd} {V : Int} {E : Bool} (h1 : nxtV s = V) (h2 : nxtB s = E) : nxt s = if E = true then some V else none := by
  rw [← h1, ← h2]
  unfold nxtV nxtB
  cases nxt s <;> rfl
end Go.Proofs.YtkokiahmgmeokaaGreat
/- Joined by port.py: XSi -/
set_option linter.unusedVariables false
set_option linter.unusedSimpArgs false
/-! XSi -/
namespace Go.Proofs.YtkokiahmgmeokaaGreat
open Go Go.RowKit Iv
attribute [local go_sem] Oper.semAt_some
attribute [local go_sem] B_getElem B_size B_app B_extract B_get B_toList
open Go.Shelf
theorem wpListIn_append_lies {F : Fence} {n : Nat} {P : Program} {ops : Array Oper} {rest : List Oper} {o : Oper} {a : Act} {Q : Exit → Act → World → Prop} (w : World) (hgd : o.guard = none) (s x : Operand) (t : TypeId)
    (ho : o.op = .call { callee := .builtin .append, args := #[s, x], argTypes := #[t, t] }) (hb : o.about P w a.eval = none)
    (base : Nat) (e : TypeId) (i : TypeInfo) (z : Value) (size bytes : Nat) (ht : P.underlying t = some (.slice e)) (hi : P.info? e = some i) (hz : i.zero = some z)
    (hsize : i.size = size) (hby : i.bytes = bytes) (hzs : z.cells.size = size) (hsz : 0 < size)
    (v : Value) (m : Nat) (xs : List Value) (hs : a.eval s = v) (hown : w.ownsRow base e size v m xs)
    (ad : Addr) (k c : Nat) (news : List Value) (hx : a.eval x = .slice (some ad) k c) (hl : news.length = k * size) (hnews : ∀ j u, news[j]? = some u → w.cell? (ad.add j) = some u) (h1 : ∀ u ∈ news, u.oneCell' = true)
    (hm : 0 < k) (h63 : m + k ≤ maxLen) (hbytes : (m + k) * bytes ≤ 140737488355328) (hbase : base ≤ w.heap.size) (H : Nat) (hH : w.heap.size = H)
    (h : ∀ g cap w', w'.ownsRow base e size (.slice (some ⟨g, 0, none⟩) (m + k) cap) (m + k) (xs ++ news) → w.grownBy w' v.ownBlock → (v.ownBlock = some g ∨ g = H) → g < w'.heap.size → wpListIn F n P ops Q rest (a.put o.dst (.slice (some ⟨g, 0, none⟩) (m + k) cap)) w') : wpListIn F n P ops Q (o :: rest) a w :=
  wpListIn_plain hgd fun K' hK' => wpIn_append_lies s x t ho hb base e i z size bytes ht hi hz hsize hby hzs hsz v m xs hs hown ad k c news hx hl hnews h1 hm h63 hbytes hbase H hH fun g cap w' h2 h3 h4 h5 => hK' _ _ (h g cap w' h2 h3 h4 h5)
theorem keepsFrom_below {A B' : World} {C : Nat} (h : Below A.heap.size A B') : KeepsFrom C A B' := ⟨h.size, fun k o _ hk _ => by
  have hlt : k < A.heap.size := (Array.getElem?_eq_some_iff.1 hk).1
  rw [h.block k hlt]; exact hk⟩
theorem keepsFrom_set {A : World} {n p q : Nat} (u : Value) {cs : Array Value} {e : TypeId} (h : A.heap[p]? = some (.cells cs e (0, 0))) : KeepsFrom n A (A.setCell ⟨p, q, none⟩ u) := ⟨by simp, fun k o hk hk2 hc => (heap_setCell_other A ⟨p, q, none⟩ k u (by
  intro e
  have e : k = p := e
  subst e
  rw [h] at hk2; cases hk2; cases hc)).trans hk2⟩
theorem turned_keep {w A C : World} {n : Nat} (h : Turned n A C) (h1 : w.heap.size ≤ n) : (∀ (q : Nat) (cs : Array Value) (e : TypeId) (f : Nat × Nat), A.heap[q]? = some (Obj.cells cs e f) → C.heap[q]? = A.heap[q]?) ∧ Below w.heap.size A C := by
  obtain ⟨l, o, o', hl, ho, hc, _, rfl⟩ := h
  refine ⟨fun q cs e f hq => World.putObj_heap_other (fun e' => ?_), (Below.refl _ _).grown (grownBy_putObj' A l o') (by have := (Array.getElem?_eq_some_iff.1 ho).1; omega) (fun q hq => by cases hq; omega)⟩
  subst e'
  rw [hq] at ho; cases ho; cases hc
/-- what lies in the list out, with the interval that is not closed yet -/
def outS (cs : CSt) : List Sp := cs.1 ++ (match cs.2 with
  | some s => [(s, 0)]
  | none => [])
def foldQ (f : Bool → Bool → Bool) (pre : List Pt) : CSt := pre.foldl (stepC f) ([], none)
theorem foldQ_snoc (f : Bool → Bool → Bool) (pre : List Pt) (x : Pt) : foldQ f (pre ++ [x]) = stepC f (foldQ f pre) x := by unfold foldQ; rw [List.foldl_append]; rfl
theorem foldQ_len (f : Bool → Bool → Bool) (pre : List Pt) : (outS (foldQ f pre)).length ≤ pre.length := by
  have h : ∀ (l : List Pt) (st : CSt), (outS (l.foldl (stepC f) st)).length ≤ (outS st).length + l.length := by
    intro l
    induction l with
    | nil => intro st; simp
    | cons x r ih =>
      intro st
      rw [List.foldl_cons]
      refine Nat.le_trans (ih _) ?_
      have : (outS (stepC f st x)).length ≤ (outS st).length + 1 := by
        obtain ⟨L, s⟩ := st
        unfold stepC outS
        cases s <;> cases f x.2.1 x.2.2 <;> simp
      simp; omega
  have := h pre ([], none)
  rw [show (outS (([], none) : CSt)).length = 0 from rfl, Nat.zero_add] at this
  exact this
theorem sps_to (L : List Sp) (s t : Int) : (sps (L ++ [(s, 0)])).set (L.length * 2 + 1) (.int .i64 t) = sps (L ++ [(s, t)]) := by
  rw [sps_append, sps_append, List.set_append_right _ _ (by rw [sps_len]; omega), sps_len, show L.length * 2 + 1 - L.length * 2 = 1 by omega]
  rfl
theorem keepsFrom_grown {m : Nat} {A C : World} {row : Option Nat} (hg : A.grownBy C row) (hr : ∀ q, row = some q → ∃ cur, A.heap[q]? = some (.cells cur 50 (0, 0))) : KeepsFrom m A C :=
  ⟨hg.size, fun k o _ hk ho => (hg.block k (Array.getElem?_eq_some_iff.1 hk).1 (fun e => by
    obtain ⟨cur, h⟩ := hr k e.symm
    rw [h] at hk; cases hk; cases ho)).trans hk⟩
/-- what combine answers -/
def combS (f : Bool → Bool → Bool) (a b : List Sp) : List Sp × Int := if chkSp a ≠ 0 ∨ chkSp b ≠ 0 then ([], 1) else limS (cmb f a b)
def FunB (f : Bool → Bool → Bool) (g : FuncId) : Prop := (∀ args W, (callFunc g args).run Tryz.prog W = .ok (.enter g args) W) ∧ ∀ p q W, Calls Tryz.prog g #[.bool p, .bool q] W fun e W' => e = .returned (.bool (f p q)) ∧ Below W.heap.size W W'
end Go.Proofs.YtkokiahmgmeokaaGreat
/- Joined by port.py: XSj -/
set_option linter.unusedVariables false
set_option linter.unusedSimpArgs false
