/- Joined by port.py: XQg XQh XQi -/
import Derived.Test.YtkokiahmgmeokaaGreatJa
import Derived.Test.YtkokiahmgmeokaaGreatJb
import Derived.Deep.MidRow
set_option linter.unusedVariables false
set_option linter.unusedSimpArgs false
/-! XQg -/
namespace Go.Proofs.YtkokiahmgmeokaaGreat
open Go Go.RowKit
section
variable {P : Program} (w : World)
theorem run_append_F (base : Nat) (t ty e : TypeId) (i : TypeInfo) (z : Value) (size bytes : Nat) (ht : P.underlying t = some (.slice e)) (hi : P.info? e = some i) (hz : i.zero = some z)
    (hsize : i.size = size) (hby : i.bytes = bytes) (hzs : z.cells.size = size) (hsz : 0 < size)
    (v : Value) (n : Nat) (xs : List Value) (hown : w.ownsRow base e size v n xs)
    (a : Addr) (m c : Nat) (news : List Value) (hl : news.length = m * size) (hnews : ∀ j u, news[j]? = some u → w.cell? (a.add j) = some u) (h1 : ∀ u ∈ news, u.oneCell' = true)
    (h63 : n + m ≤ maxLen) (hbytes : (n + m) * bytes ≤ 140737488355328) (hbase : base ≤ w.heap.size) (hm : 0 < m) :
    ∃ v' w', (Builtin.append_ #[t, t] ty #[v, .slice (some a) m c]).run P w = .ok v' w' ∧ w'.ownsRow base e size v' (n + m) (xs ++ news) ∧ w.grownBy w' v.ownBlock ∧ (v'.ownBlock = v.ownBlock ∨ v'.ownBlock = some w.heap.size) := by
  obtain ⟨v', w', hr, h2, h3, _⟩ := run_append_own (P := P) w base t ty e i z size bytes ht hi hz hsize hby hzs hsz v n xs hown a m c news hl hnews h1 h63 hbytes hbase
  refine ⟨v', w', hr, h2, h3, ?_⟩
  subst hsize hby
  have hsmall : n + m ≤ 9223372036854775807 := by simp only [maxLen] at h63; omega
  rcases hown.2 with ⟨rfl, rfl⟩ | ⟨g, cap, cur, rfl, hbg, hg, hnc, hcm, hcs, htake⟩
  · have hr2 := run_append_nil (P := P) w t ty e i z ht hi hz a m c news hl hnews hm (by omega) (by have hb := hbytes; simp only [Nat.zero_add] at hb; omega)
    rw [hr] at hr2
    injection hr2 with e1 e2
    subst e1
    exact .inr rfl
  · by_cases hroom : n + m ≤ cap
    · have hfit : n * i.size + news.length ≤ cur.size := by rw [hl, hcs, ← Nat.add_mul]; exact Nat.mul_le_mul_right _ hroom
      have hr2 := run_append_room (P := P) w t ty e i ht hi g n cap cur hg a m c news hl hnews h1 hroom hfit
      rw [hr] at hr2
      injection hr2 with e1 e2
      subst e1
      exact .inl rfl
    · have holds : ∀ j u, xs[j]? = some u → w.cell? ((⟨g, 0, none⟩ : Addr).add j) = some u := hown.cells (g := g) rfl
      have hr2 := run_append_grow (P := P) w t ty e i z ht hi hz ⟨g, 0, none⟩ n cap xs hown.1 holds a m c news hl hnews (by omega) (by omega) (growslice_fits (by omega) hbytes)
      rw [hr] at hr2
      injection hr2 with e1 e2
      subst e1
      exact .inr rfl
theorem wp_append_F {o : Oper} {a : Act} {K : Act → World → Prop} {Q : Exit → Act → World → Prop} (s x : Operand) (t : TypeId)
    (ho : o.op = .call { callee := .builtin .append, args := #[s, x], argTypes := #[t, t] })
    (base : Nat) (e : TypeId) (i : TypeInfo) (z : Value) (size bytes : Nat) (ht : P.underlying t = some (.slice e)) (hi : P.info? e = some i) (hz : i.zero = some z)
    (hsize : i.size = size) (hby : i.bytes = bytes) (hzs : z.cells.size = size) (hsz : 0 < size)
    (v : Value) (n : Nat) (xs : List Value) (hs : a.eval s = v) (hown : w.ownsRow base e size v n xs)
    (ad : Addr) (m c : Nat) (news : List Value) (hx : a.eval x = .slice (some ad) m c) (hl : news.length = m * size) (hnews : ∀ j u, news[j]? = some u → w.cell? (ad.add j) = some u) (h1 : ∀ u ∈ news, u.oneCell' = true)
    (h63 : n + m ≤ maxLen) (hbytes : (n + m) * bytes ≤ 140737488355328) (hbase : base ≤ w.heap.size) (hm : 0 < m)
    (h : ∀ v' w', w'.ownsRow base e size v' (n + m) (xs ++ news) → w.grownBy w' v.ownBlock → (v'.ownBlock = v.ownBlock ∨ v'.ownBlock = some w.heap.size) → K (a.put o.dst v') w') : o.wp P a w K Q := by
  obtain ⟨v', w', hr, h2, h3, h4⟩ := run_append_F (P := P) w base t o.type e i z size bytes ht hi hz hsize hby hzs hsz v n xs hown ad m c news hl hnews h1 h63 hbytes hbase hm
  unfold Oper.wp execOp
  simp only [ho, resolve, invoke, builtin, Sem.run_bind, Sem.run_pure, Result.andThen_ok, List.map_toArray, List.map_cons, List.map_nil, hs, hx, hr]
  exact h v' w' h2 h3 h4
theorem wpList_append_F {ops : Array Oper} {rest : List Oper} {o : Oper} {a : Act} {Q : Exit → Act → World → Prop} (hgd : o.guard = none) (s x : Operand) (t : TypeId)
    (ho : o.op = .call { callee := .builtin .append, args := #[s, x], argTypes := #[t, t] })
    (base : Nat) (e : TypeId) (i : TypeInfo) (z : Value) (size bytes : Nat) (ht : P.underlying t = some (.slice e)) (hi : P.info? e = some i) (hz : i.zero = some z)
    (hsize : i.size = size) (hby : i.bytes = bytes) (hzs : z.cells.size = size) (hsz : 0 < size)
    (v : Value) (n : Nat) (xs : List Value) (hs : a.eval s = v) (hown : w.ownsRow base e size v n xs)
    (ad : Addr) (m c : Nat) (news : List Value) (hx : a.eval x = .slice (some ad) m c) (hl : news.length = m * size) (hnews : ∀ j u, news[j]? = some u → w.cell? (ad.add j) = some u) (h1 : ∀ u ∈ news, u.oneCell' = true)
    (h63 : n + m ≤ maxLen) (hbytes : (n + m) * bytes ≤ 140737488355328) (hbase : base ≤ w.heap.size) (hm : 0 < m)
    (h : ∀ v' w', w'.ownsRow base e size v' (n + m) (xs ++ news) → w.grownBy w' v.ownBlock → (v'.ownBlock = v.ownBlock ∨ v'.ownBlock = some w.heap.size) → wpList P ops Q rest (a.put o.dst v') w') : wpList P ops Q (o :: rest) a w :=
  wpList_plain hgd fun _ hK => wp_append_F w s x t ho base e i z size bytes ht hi hz hsize hby hzs hsz v n xs hs hown ad m c news hx hl hnews h1 h63 hbytes hbase hm fun v' w' h2 h3 h4 => hK _ _ (h v' w' h2 h3 h4)
end
theorem own_kept1 {w w' : World} {base n size : Nat} {e : TypeId} {v : Value} {xs : List Value} (h : w.ownsRow base e size v n xs) (k : ∀ g, v.ownBlock = some g → w'.heap[g]? = w.heap[g]?) : w'.ownsRow base e size v n xs := by
  refine ⟨h.1, ?_⟩
  rcases h.2 with h0 | ⟨g, cap, cur, rfl, hb, hh, r⟩
  · exact .inl h0
  · exact .inr ⟨g, cap, cur, rfl, hb, by rw [k g rfl]; exact hh, r⟩
theorem own_at {w : World} {base n size : Nat} {e : TypeId} {v : Value} {xs : List Value} (h : w.ownsRow base e size v n xs) {g : Nat} (hg : v.ownBlock = some g) : ∃ cur, w.heap[g]? = some (.cells cur e (0, 0)) := by
  rcases h.2 with ⟨rfl, _⟩ | ⟨g', cap, cur, rfl, hb, hh, _⟩
  · cases hg
  · cases hg; exact ⟨cur, hh⟩
theorem own_nil {w : World} {base size : Nat} {e : TypeId} : w.ownsRow base e size (.slice none 0 0) 0 [] := World.ownsRow_nil _ _ _ _
def OwnV {α : Type} (e f : TypeId) (size : Nat) (enc : List α → List Value) (w : World) (B : Nat) (vo : Value) (gs : List (List α)) (vals : List Value) : Prop :=
  w.ownsRow B f 1 vo gs.length vals ∧ (∀ (k : Nat) x g, vals[k]? = some x → gs[k]? = some g → w.ownsRow B e size x g.length (enc g)) ∧
  (∀ (i j : Nat) x y q, vals[i]? = some x → vals[j]? = some y → x.ownBlock = some q → y.ownBlock = some q → i = j)
section
variable {α : Type} {e f : TypeId} {size : Nat} {enc : List α → List Value} {w w' : World} {B : Nat} {vo : Value} {gs : List (List α)} {vals : List Value}
theorem OwnV.nil : OwnV e f size enc w B (.slice none 0 0) ([] : List (List α)) [] := ⟨own_nil, fun k x g h => by simp at h, fun i j x y q h => by simp at h⟩
theorem OwnV.len (h : OwnV e f size enc w B vo gs vals) : vals.length = gs.length := by have := h.1.1; omega
theorem OwnV.inner (h : OwnV e f size enc w B vo gs vals) {k : Nat} {x : Value} (hx : vals[k]? = some x) : ∃ g, gs[k]? = some g ∧ w.ownsRow B e size x g.length (enc g) := by
  have h1 : k < vals.length := by
    rcases Nat.lt_or_ge k vals.length with z | z
    · exact z
    · rw [List.getElem?_eq_none z] at hx; cases hx
  have h2 : k < gs.length := by rw [← h.len]; exact h1
  exact ⟨gs[k], List.getElem?_eq_getElem h2, h.2.1 k x _ hx (List.getElem?_eq_getElem h2)⟩
theorem OwnV.at (h : OwnV e f size enc w B vo gs vals) {k : Nat} (hk : k < gs.length) : ∃ x g, vals[k]? = some x ∧ gs[k]? = some g ∧ w.ownsRow B e size x g.length (enc g) := by
  have h1 : k < vals.length := by rw [h.len]; exact hk
  exact ⟨vals[k], gs[k], List.getElem?_eq_getElem h1, List.getElem?_eq_getElem hk, h.2.1 k _ _ (List.getElem?_eq_getElem h1) (List.getElem?_eq_getElem hk)⟩
theorem OwnV.keep (h : OwnV e f size enc w B vo gs vals) (h1 : ∀ q, vo.ownBlock = some q → w'.heap[q]? = w.heap[q]?) (h2 : ∀ (k : Nat) x q, vals[k]? = some x → x.ownBlock = some q → w'.heap[q]? = w.heap[q]?) : OwnV e f size enc w' B vo gs vals :=
  ⟨own_kept1 h.1 h1, fun k x g hx hg => own_kept1 (h.2.1 k x g hx hg) fun q hq => h2 k x q hx hq, h.2.2⟩
theorem OwnV.lt (h : OwnV e f size enc w B vo gs vals) {k : Nat} {x : Value} {q : Nat} (hx : vals[k]? = some x) (hq : x.ownBlock = some q) : B ≤ q ∧ q < w.heap.size := by
  obtain ⟨g, _, h1⟩ := h.inner hx
  exact h1.lt q hq
theorem OwnV.below (h : OwnV e f size enc w B vo gs vals) (k : Below w.heap.size w w') : OwnV e f size enc w' B vo gs vals :=
  h.keep (fun q hq => k.block q (h.1.lt q hq).2) (fun j x q hx hq => k.block q (h.lt hx hq).2)
theorem OwnV.other (h : OwnV e f size enc w B vo gs vals) (hef : e ≠ f) {k : Nat} {x : Value} {q : Nat} (hx : vals[k]? = some x) (hq : x.ownBlock = some q) : vo.ownBlock ≠ some q := fun h0 => by
  obtain ⟨g, _, h1⟩ := h.inner hx
  obtain ⟨c1, e1⟩ := own_at h.1 h0
  obtain ⟨c2, e2⟩ := own_at h1 hq
  rw [e1] at e2
  injection e2 with e2
  injection e2 with _ e2 _
  exact hef e2.symm
theorem grown_keep {row : Option Nat} {q : Nat} (hg : w.grownBy w' row) (hq : q < w.heap.size) (hne : row ≠ some q) : w'.heap[q]? = w.heap[q]? := hg.block q hq fun h => hne h.symm
theorem OwnV.push {vo' : Value} (h : OwnV e f size enc w B vo gs vals) (hef : e ≠ f) (ho : w'.ownsRow B f 1 vo' (gs.length + 1) (vals ++ [.slice none 0 0])) (hg : w.grownBy w' vo.ownBlock) (hz : enc [] = []) :
    OwnV e f size enc w' B vo' (gs ++ [[]]) (vals ++ [.slice none 0 0]) := by
  have hl := h.len
  refine ⟨by simpa using ho, fun k x g hx hgk => ?_, fun i j x y q hx hy hqx hqy => ?_⟩
  · rcases Nat.lt_or_ge k gs.length with z | z
    · rw [List.getElem?_append_left (by omega)] at hx
      rw [List.getElem?_append_left z] at hgk
      exact own_kept1 (h.2.1 k x g hx hgk) fun q hq => grown_keep hg (h.lt hx hq).2 (h.other hef hx hq)
    · rw [List.getElem?_append_right (by omega)] at hx
      rw [List.getElem?_append_right z] at hgk
      have : k - gs.length = 0 := by
        rcases Nat.eq_zero_or_pos (k - gs.length) with z | z
        · exact z
        · rw [List.getElem?_eq_none (by simp; omega)] at hgk; cases hgk
      rw [hl, this] at hx
      rw [this] at hgk
      simp at hx hgk
      subst hx hgk
      rw [hz]
      exact own_nil
  · have hi : ∀ (i : Nat) x, (vals ++ [Value.slice none 0 0])[i]? = some x → x.ownBlock = some q → vals[i]? = some x := fun i x hx hq => by
      rcases Nat.lt_or_ge i vals.length with z | z
      · rwa [List.getElem?_append_left z] at hx
      · rw [List.getElem?_append_right z] at hx
        rcases Nat.eq_zero_or_pos (i - vals.length) with z2 | z2
        · rw [z2] at hx; simp at hx; subst hx; cases hq
        · rw [List.getElem?_eq_none (by simp; omega)] at hx; cases hx
    exact h.2.2 i j x y q (hi i x hx hqx) (hi j y hy hqy) hqx hqy
theorem OwnV.put {x x' : Value} {g : List α} {y : α} {k go cap q0 : Nat} (h : OwnV e f size enc w B (.slice (some ⟨go, 0, none⟩) gs.length cap) gs vals) (hef : e ≠ f) (hx : vals[k]? = some x) (hgk : gs[k]? = some g)
    (ho : w'.ownsRow B e size x' (g.length + 1) (enc (g ++ [y]))) (hg : w.grownBy w' x.ownBlock) (hfr : x'.ownBlock = x.ownBlock ∨ x'.ownBlock = some q0) (hq0 : w.heap.size ≤ q0) :
    OwnV e f size enc (w'.setCell ⟨go, k, none⟩ x') B (.slice (some ⟨go, 0, none⟩) gs.length cap) (gs.set k (g ++ [y])) (vals.set k x') := by
  have hl := h.len
  have hkv : k < vals.length := by
    rcases Nat.lt_or_ge k vals.length with z | z
    · exact z
    · rw [List.getElem?_eq_none z] at hx; cases hx
  have hgo : ∀ (j : Nat) y q, vals[j]? = some y → y.ownBlock = some q → go ≠ q := fun j y q hy hq e => h.other hef hy hq (by rw [← e]; rfl)
  have h1 : w'.ownsRow B f 1 (.slice (some ⟨go, 0, none⟩) gs.length cap) gs.length vals := own_kept1 h.1 fun q hq => grown_keep hg (h.1.lt q hq).2 fun e => h.other hef hx e hq
  have hox : ∀ q, x'.ownBlock = some q → go ≠ q := fun q hq e => by
    rcases hfr with z | z
    · exact hgo k x q hx (z ▸ hq) e
    · rw [z] at hq; cases hq
      have := (h.1.lt go rfl).2
      omega
  have hset : ∀ q, go ≠ q → (w'.setCell ⟨go, k, none⟩ x').heap[q]? = w'.heap[q]? := fun q hq => heap_setCell_other w' ⟨go, k, none⟩ q x' (fun e => hq e.symm)
  refine ⟨by simpa using (h1.stored k x').1, fun j z gz hz hgz => ?_, fun i j z u q hz hu hqz hqu => ?_⟩
  · by_cases hj : k = j
    · subst hj
      rw [List.getElem?_set_self hkv] at hz
      rw [List.getElem?_set_self (by omega)] at hgz
      cases hz; cases hgz
      refine own_kept1 (by simpa using ho) fun q hq => hset q (hox q hq)
    · rw [List.getElem?_set_ne hj] at hz hgz
      refine own_kept1 (h.2.1 j z gz hz hgz) fun q hq => ?_
      rw [hset q (hgo j z q hz hq)]
      exact grown_keep hg (h.lt hz hq).2 fun e => hj (h.2.2 k j x z q hx hz e hq)
  · have hb : ∀ (j : Nat) u, k ≠ j → vals[j]? = some u → u.ownBlock = some q → x'.ownBlock = some q → False := fun j u hj hu hqu hqx => by
      rcases hfr with z | z
      · exact hj (h.2.2 k j x u q hx hu (z ▸ hqx) hqu)
      · rw [z] at hqx; cases hqx
        have := (h.lt hu hqu).2
        omega
    by_cases hi : k = i
    · by_cases hj : k = j
      · omega
      · subst hi
        rw [List.getElem?_set_self hkv] at hz
        cases hz
        rw [List.getElem?_set_ne hj] at hu
        exact (hb j u hj hu hqu hqz).elim
    · rw [List.getElem?_set_ne hi] at hz
      by_cases hj : k = j
      · subst hj
        rw [List.getElem?_set_self hkv] at hu
        cases hu
        exact (hb i z hi hz hqz hqu).elim
      · rw [List.getElem?_set_ne hj] at hu
        exact h.2.2 i j z u q hz hu hqz hqu
end
end Go.Proofs.YtkokiahmgmeokaaGreat
/-! XQh -/
namespace Go.Proofs.YtkokiahmgmeokaaGreat
open Go Go.RowKit
attribute [local go_sem] B_getElem B_size B_app B_extract B_get B_toList
theorem own_shape {w : World} {base n size : Nat} {e : TypeId} {v : Value} {xs : List Value} (h : w.ownsRow base e size v n xs) : ∃ a c, v = .slice a n c := by
  rcases h.2 with ⟨rfl, rfl⟩ | ⟨g, cap, cur, rfl, _⟩
  · exact ⟨_, _, rfl⟩
  · exact ⟨_, _, rfl⟩
theorem own_form {w : World} {base n size : Nat} {e : TypeId} {v : Value} {xs : List Value} (h : w.ownsRow base e size v n xs) (hn : 0 < n) : ∃ g c, v = .slice (some ⟨g, 0, none⟩) n c := by
  rcases h.2 with ⟨rfl, rfl⟩ | ⟨g, cap, cur, rfl, _⟩
  · omega
  · exact ⟨_, _, rfl⟩
end Go.Proofs.YtkokiahmgmeokaaGreat
/-! XQi -/
namespace Go.Proofs.YtkokiahmgmeokaaGreat
open Go Go.RowKit
theorem own_le {w : World} {base base' n size : Nat} {e : TypeId} {v : Value} {xs : List Value} (h : w.ownsRow base e size v n xs) (hb : base' ≤ base) : w.ownsRow base' e size v n xs := by
  refine ⟨h.1, ?_⟩
  rcases h.2 with h0 | ⟨g, cap, cur, hv, hg, r⟩
  · exact .inl h0
  · exact .inr ⟨g, cap, cur, hv, by omega, r⟩
section
variable {most : Int} {w : World} {gs : List (List Int)} {ss : List Int} {vals : List Value} {s6 s7 : Value} {wr : World}
end
end Go.Proofs.YtkokiahmgmeokaaGreat
/- Joined by port.py: XSt XSx -/
set_option linter.unusedVariables false
set_option linter.unusedSimpArgs false
/-! XSt -/
namespace Go.Proofs.YtkokiahmgmeokaaGreat
open Go Go.RowKit
def setAll (cs : Array Value) (o : Nat) : List Value → Array Value
  | [] => cs
  | v :: r => setAll (cs.setIfInBounds o v) (o + 1) r
theorem setAll_heap (g : Nat) (t : TypeId) : ∀ (vs : List Value) (o : Nat) (w : World) (cs : Array Value), w.heap[g]? = some (.cells cs t (0, 0)) → (w.setCells g o vs).heap[g]? = some (.cells (setAll cs o vs) t (0, 0))
  | [], o, w, cs, h => h
  | v :: r, o, w, cs, h => by
    rw [World.setCells, setAll]
    exact setAll_heap g t r (o + 1) _ _ (setB h o v)
theorem setAll_size : ∀ (vs : List Value) (o : Nat) (cs : Array Value), (setAll cs o vs).size = cs.size
  | [], _, _ => rfl
  | v :: r, o, cs => by rw [setAll, setAll_size r]; simp
theorem setAll_get : ∀ (vs : List Value) (o : Nat) (cs : Array Value) (j : Nat), o + vs.length ≤ cs.size → (setAll cs o vs)[j]? = if o ≤ j ∧ j < o + vs.length then vs[j - o]? else cs[j]?
  | [], o, cs, j, _ => by rw [setAll, if_neg (by simp only [List.length_nil]; omega)]
  | v :: r, o, cs, j, h => by
    simp only [List.length_cons] at h
    rw [setAll, setAll_get r (o + 1) _ j (by rw [Array.size_setIfInBounds]; omega)]
    by_cases hj : j = o
    · subst hj
      rw [if_neg (by omega), if_pos (by simp only [List.length_cons]; omega), Nat.sub_self, List.getElem?_cons_zero, Array.getElem?_setIfInBounds_self_of_lt (by omega)]
    · by_cases hk : o + 1 ≤ j ∧ j < o + 1 + r.length
      · rw [if_pos hk, if_pos (by simp only [List.length_cons]; omega), show j - o = (j - (o + 1)) + 1 by omega, List.getElem?_cons_succ]
      · rw [if_neg hk, if_neg (by simp only [List.length_cons]; omega)]
        rw [Array.getElem?_setIfInBounds_ne (by omega)]
theorem setAll_all {vs : List Value} {cs : Array Value} (h : vs.length = cs.size) : setAll cs 0 vs = vs.toArray := by
  apply Array.ext_getElem?
  intro j
  rw [setAll_get vs 0 cs j (by omega)]
  by_cases hj : j < vs.length
  · rw [if_pos (by omega)]; simp
  · rw [if_neg (by omega), Array.getElem?_eq_none (by omega), Array.getElem?_eq_none (by simp; omega)]
theorem setCells_below (g : Nat) : ∀ (vs : List Value) (o : Nat) (w : World) (B : Nat), B ≤ g → Below B w (w.setCells g o vs)
  | [], o, w, B, _ => Below.refl _ _
  | v :: r, o, w, B, h => by
    rw [World.setCells]
    exact (bset (Below.refl _ _) (by simpa using h)).trans (setCells_below g r (o + 1) _ B h)
theorem setCells_size (g : Nat) : ∀ (vs : List Value) (o : Nat) (w : World), (w.setCells g o vs).heap.size = w.heap.size
  | [], o, w => rfl
  | v :: r, o, w => by
    rw [World.setCells, setCells_size g r]; simp
theorem setCells_other (g q : Nat) (hq : q ≠ g) : ∀ (vs : List Value) (o : Nat) (w : World), (w.setCells g o vs).heap[q]? = w.heap[q]?
  | [], o, w => rfl
  | v :: r, o, w => by
    rw [World.setCells, setCells_other g q hq r]
    exact heap_setCell_other w _ q v hq
theorem wpList_store_block {P : Program} {ops : Array Oper} {rest : List Oper} {op : Oper} {a : Act} {w : World} {Q : Exit → Act → World → Prop} (hgd : op.guard = none) (ty : TypeId) (x y : Operand) (ho : op.op = .store ty x y)
    (g : Nat) (cells cs : Array Value) (t : TypeId) (hx : a.eval x = .pointer (some ⟨g, 0, none⟩)) (hy : a.eval y = .agg cells) (hg : w.heap[g]? = some (.cells cs t (0, 0))) (hsz : cells.size = cs.size)
    (hi : (P.info? ty).map (·.size) = some cells.size) (h1 : ∀ v ∈ cells.toList, v.oneCell' = true)
    (h : ∀ W, W.heap[g]? = some (.cells cells t (0, 0)) → (∀ B, B ≤ g → Below B w W) → W.heap.size = w.heap.size → (∀ q, q ≠ g → W.heap[q]? = w.heap[q]?) → wpList P ops Q rest (a.put op.dst undef) W) :
    wpList P ops Q (op :: rest) a w := by
  refine wpList_store_mid hgd ty x y ho g 0 cells hx hy (fun j hj => ?_) hi (Array.all_eq_true_iff_forall_mem.2 (fun v hv => h1 v (by simpa using hv))) (h _ ?_ (fun B hB => setCells_below g _ _ _ B hB) (setCells_size g _ _ _) (fun q hq => setCells_other g q hq _ _ _))
  · rw [Nat.zero_add, cellB hg, frozenB hg]
    exact ⟨by rw [Array.getElem?_eq_getElem (by omega)]; rfl, rfl⟩
  · have := setAll_heap g t cells.toList 0 w cs hg
    rw [setAll_all (by simpa using hsz)] at this
    simpa using this
end Go.Proofs.YtkokiahmgmeokaaGreat
/-! XSx -/
namespace Go.Proofs.YtkokiahmgmeokaaGreat
open Go Go.RowKit
theorem wp_store_block {P : Program} {op : Oper} {a : Act} {w : World} {K : Act → World → Prop} {Q : Exit → Act → World → Prop} (ty : TypeId) (x y : Operand) (ho : op.op = .store ty x y)
    (g : Nat) (cells cs : Array Value) (t : TypeId) (hx : a.eval x = .pointer (some ⟨g, 0, none⟩)) (hy : a.eval y = .agg cells) (hg : w.heap[g]? = some (.cells cs t (0, 0))) (hsz : cells.size = cs.size)
    (hi : (P.info? ty).map (·.size) = some cells.size) (h1 : ∀ v ∈ cells.toList, v.oneCell' = true)
    (h : ∀ W, W.heap[g]? = some (.cells cells t (0, 0)) → (∀ B, B ≤ g → Below B w W) → W.heap.size = w.heap.size → (∀ q, q ≠ g → W.heap[q]? = w.heap[q]?) → K (a.put op.dst undef) W) : op.wp P a w K Q := by
  refine wp_store_mid ty x y ho g 0 cells hx hy (fun j hj => ?_) hi (Array.all_eq_true_iff_forall_mem.2 (fun v hv => h1 v (by simpa using hv))) (h _ ?_ (fun B hB => setCells_below g _ _ _ B hB) (setCells_size g _ _ _) (fun q hq => setCells_other g q hq _ _ _))
  · rw [Nat.zero_add, cellB hg, frozenB hg]
    exact ⟨by rw [Array.getElem?_eq_getElem (by omega)]; rfl, rfl⟩
  · have := setAll_heap g t cells.toList 0 w cs hg
    rw [setAll_all (by simpa using hsz)] at this
    simpa using this
end Go.Proofs.YtkokiahmgmeokaaGreat
