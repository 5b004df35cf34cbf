/- Layer 14: a row of ints of one's own, whose block holds nothing but ints. -/
import Derived.Test.YthgokfceakbjlaaIm
import Derived.Test.YthgokfceakbjlaaId
set_option linter.unusedVariables false
set_option linter.unusedSimpArgs false
namespace Go.Proofs.Ythgokfceakbjlaa
open Go Go.RowKit
attribute [local go_sem] B_getElem B_size B_app B_extract B_get B_toList

def AllI (w : World) (v : Value) : Prop := ∀ g o n c, v = .slice (some ⟨g, o, none⟩) n c → ∃ cur, w.heap[g]? = some (.cells cur 3 (0, 0)) ∧ ∀ y ∈ cur.toList, ∃ x, y = .int .i64 x
def OwnI (w : World) (base : Nat) (v : Value) (xs : List Int) : Prop := w.ownsRow base 3 1 v xs.length (ints xs) ∧ AllI w v
theorem OwnI.nil (w : World) (base : Nat) : OwnI w base (.slice none 0 0) [] := ⟨World.ownsRow_nil _ _ _ _, fun g o n c e => by injection e with e; cases e⟩
theorem own_keepI {w w' : World} {base n size : Nat} {e : TypeId} {v : Value} {xs : List Value} (h : w.ownsRow base e size v n xs) (k : ∀ g, base ≤ g → g < w.heap.size → w'.heap[g]? = w.heap[g]?) : w'.ownsRow base e size v n xs := by
  refine ⟨h.1, ?_⟩
  rcases h.2 with h0 | ⟨g, cap, cur, hv, hb, hh, r⟩
  · exact .inl h0
  · have hg : g < w.heap.size := by
      rcases Nat.lt_or_ge g w.heap.size with h1 | h1
      · exact h1
      · rw [Array.getElem?_eq_none h1] at hh; cases hh
    exact .inr ⟨g, cap, cur, hv, hb, by rw [k g hb hg]; exact hh, r⟩
theorem OwnI.keep {w w' : World} {base : Nat} {v : Value} {xs : List Int} (h : OwnI w base v xs) (k : ∀ g, base ≤ g → g < w.heap.size → w'.heap[g]? = w.heap[g]?) : OwnI w' base v xs := by
  refine ⟨own_keepI h.1 k, fun g o n c e => ?_⟩
  obtain ⟨cur, h1, h2⟩ := h.2 g o n c e
  subst e
  have := h.1.lt g rfl
  exact ⟨cur, by rw [k g this.1 this.2]; exact h1, h2⟩
theorem OwnI.ints {w : World} {base : Nat} {v : Value} {xs : List Int} (h : OwnI w base v xs) : RInts w w.heap.size v xs := RInts.of_own h.1
theorem noBlk_ints {cur : Array Value} (h : ∀ y ∈ cur.toList, ∃ x, y = .int .i64 x) : NoBlk cur := fun o x y s _ _ h3 => by
  have : Value.string s ∈ cur.toList := by rw [Array.mem_toList_iff]; exact Array.mem_of_getElem? h3
  obtain ⟨z, hz⟩ := h _ this
  cases hz
theorem mem_ints {xs : List Int} {y : Value} (h : y ∈ ints xs) : ∃ x, y = .int .i64 x := by
  unfold Go.Proofs.Ythgokfceakbjlaa.ints at h
  obtain ⟨x, _, rfl⟩ := List.mem_map.1 h
  exact ⟨x, rfl⟩
theorem mem_zeros {n : Nat} {y : Value} (h : y ∈ (Builtin.zeroCells #[.int .i64 0] n).toList) : ∃ x, y = .int .i64 x := by
  unfold Builtin.zeroCells at h
  simp at h
  obtain ⟨_, _, h⟩ := h
  rw [Nat.mod_one] at h
  exact ⟨0, by simpa using h.symm⟩
theorem own_row {w : World} {base : Nat} {v : Value} {n : Nat} {xs : List Value} {g : Nat} {o : Nat} {m c : Nat} (h : w.ownsRow base 3 1 v n xs) (e : v = .slice (some ⟨g, o, none⟩) m c) : o = 0 ∧ m = n := by
  rcases h.2 with ⟨rfl, _⟩ | ⟨g', cap, cur, rfl, _⟩
  · injection e with e; cases e
  · injection e with e e2 _
    injection e with e
    injection e with _ e3 _
    exact ⟨e3.symm, e2.symm⟩
set_option maxRecDepth 100000 in
theorem run_append_I (w : World) (base : Nat) (ty : TypeId) (v : Value) (xs : List Int) (x : Int) (ad : Addr) (h : OwnI w base v xs) (hx : w.cell? ad = some (.int .i64 x)) (hl : xs.length ≤ 1000) (hb : base ≤ w.heap.size) :
    ∃ v' w', (Builtin.append_ #[36, 36] ty #[v, .slice (some ad) 1 1]).run Try.prog w = .ok v' w' ∧ OwnI w' base v' (xs ++ [x]) ∧ w.grownBy w' v.ownBlock := by
  obtain ⟨i0, hin, hz0, hz1, hz2⟩ := info_parts infoInt
  have hnews : ∀ j u, ([.int .i64 x] : List Value)[j]? = some u → w.cell? (ad.add j) = some u := fun j u hj => by
    rcases j with _ | j
    · simp at hj; subst hj; simpa [Addr.add] using hx
    · simp at hj
  obtain ⟨v', w', hr, h1, h2, _⟩ := run_append_own (P := Try.prog) w base 36 ty 3 i0 (.int .i64 0) 1 8 Try.underlying36 hin hz0 hz1 hz2 rfl (by omega) v xs.length (ints xs) h.1 ad 1 1 [.int .i64 x] rfl hnews (by simp [Value.oneCell']) (by unfold maxLen; omega) (by omega) hb
  refine ⟨v', w', hr, ⟨by simpa [Go.Proofs.Ythgokfceakbjlaa.ints] using h1, ?_⟩, h2⟩
  rcases h.1.2 with ⟨rfl, hz⟩ | ⟨g, cap, cur, rfl, hbg, hg, hnc, hcm, hcs, htake⟩
  · have hr2 := run_append_nil (P := Try.prog) w 36 ty 3 i0 (.int .i64 0) Try.underlying36 hin hz0 ad 1 1 [.int .i64 x] (by rw [hz1]; rfl) hnews (by omega) (by omega) (by rw [hz2]; omega)
    rw [hr] at hr2
    injection hr2 with e1 e2
    subst e1 e2
    intro g o n c e
    injection e with e _ _
    injection e with e
    injection e with e _ _
    subst e
    refine ⟨_, heap_alloc_new w.drew _, fun y hy => ?_⟩
    rw [Array.toList_append, List.mem_append] at hy
    rcases hy with hy | hy
    · simp at hy; exact ⟨x, hy⟩
    · exact mem_zeros hy
  · obtain ⟨cur2, hg2, hall⟩ := h.2 g 0 xs.length cap rfl
    rw [hg] at hg2
    obtain rfl : cur = cur2 := by injection hg2 with e; injection e
    by_cases hroom : xs.length + 1 ≤ cap
    · have hfit : xs.length * i0.size + ([.int .i64 x] : List Value).length ≤ cur.size := by rw [hz1, hcs]; simp; omega
      have hr2 := run_append_room (P := Try.prog) w 36 ty 3 i0 Try.underlying36 hin g xs.length cap cur hg ad 1 1 [.int .i64 x] (by rw [hz1]; rfl) hnews (by simp [Value.oneCell']) hroom hfit
      rw [hr] at hr2
      injection hr2 with e1 e2
      subst e1 e2
      intro g' o n c e
      injection e with e _ _
      injection e with e
      injection e with e _ _
      subst e
      refine ⟨_, setRow_heap w g cur _ 3 _ hg, fun y hy => ?_⟩
      simp only [List.mem_append] at hy
      rcases hy with (hy | hy) | hy
      · exact hall y (List.mem_of_mem_take hy)
      · simp at hy; exact ⟨x, hy⟩
      · exact hall y (List.mem_of_mem_drop hy)
    · have holds : ∀ j u, (ints xs)[j]? = some u → w.cell? ((⟨g, 0, none⟩ : Addr).add j) = some u := h.1.cells (g := g) rfl
      have hr2 := run_append_grow (P := Try.prog) w 36 ty 3 i0 (.int .i64 0) Try.underlying36 hin hz0 ⟨g, 0, none⟩ xs.length cap (ints xs) (by rw [hz1]; simp [Go.Proofs.Ythgokfceakbjlaa.ints]) holds ad 1 1 [.int .i64 x] (by rw [hz1]; rfl) hnews (by omega) (by omega) (growslice_fits (by omega) (by rw [hz2]; omega))
      rw [hr] at hr2
      injection hr2 with e1 e2
      subst e1 e2
      intro g' o n c e
      injection e with e _ _
      injection e with e
      injection e with e _ _
      subst e
      refine ⟨_, heap_alloc_new w.drew _, fun y hy => ?_⟩
      rw [Array.toList_append, Array.toList_append, List.mem_append, List.mem_append] at hy
      rcases hy with (hy | hy) | hy
      · exact mem_ints hy
      · simp at hy; exact ⟨x, hy⟩
      · exact mem_zeros hy
theorem wp_append_I {o : Oper} {a : Act} {K : Act → World → Prop} {Q : Exit → Act → World → Prop} {w : World} (s x : Operand)
    (ho : o.op = .call { callee := .builtin .append, args := #[s, x], argTypes := #[36, 36] })
    (base : Nat) (v : Value) (xs : List Int) (n : Int) (ad : Addr) (hs : a.eval s = v) (h : OwnI w base v xs) (hx : a.eval x = .slice (some ad) 1 1) (hc : w.cell? ad = some (.int .i64 n)) (hl : xs.length ≤ 1000) (hb : base ≤ w.heap.size)
    (hk : ∀ v' w', OwnI w' base v' (xs ++ [n]) → w.grownBy w' v.ownBlock → K (a.put o.dst v') w') : o.wp Try.prog a w K Q := by
  obtain ⟨v', w', hr, h2, h3⟩ := run_append_I w base o.type v xs n ad h hc hl hb
  unfold Oper.wp execOp
  simp only [ho, resolve, invoke, builtin, Sem.run_bind, Sem.run_pure, Result.andThen_ok, List.map_toArray, List.map_cons, List.map_nil, hs, hx, hr]
  exact hk v' w' h2 h3
end Go.Proofs.Ythgokfceakbjlaa
