/- Joined by port.py: XUj XUh XUi XUp XUq XUs XUv XUt XUu XUw -/
import Derived.Test.YtmknchdciblfjaaGreatUaz
import Derived.Test.YtmknchdciblfjaaGreatSm
import Derived.WideShapes
import Derived.ChangeSame
import Derived.Deep.Slices
import Derived.Deep.Fields
import Derived.Lib.SmallJoins
import Derived.ChangeMaps5
import Derived.BigQuiet
import Derived.BigRegion
import Derived.Deep.DeepCutAuto
import Derived.Deep.CutBlock
import Derived.Test.YtmknchdciblfjaaGreatUf
import Derived.Test.YtmknchdciblfjaaGreatUr
import Derived.Laws.OwnMore
import Derived.Laws.AppendOwn
import Derived.Deep.MidRow
import Derived.Lib.MinMax
import Derived.Test.YtmknchdciblfjaaGreatJt
import Derived.Test.YtmknchdciblfjaaGreatJa
import Derived.Test.YtmknchdciblfjaaGreatJb
import Derived.Test.YtmknchdciblfjaaGreatJc
import Derived.Test.YtmknchdciblfjaaGreatJd
import Derived.Test.YtmknchdciblfjaaGreatJe
import Derived.Test.YtmknchdciblfjaaGreatJh
import Derived.Test.YtmknchdciblfjaaGreatJn
import Derived.Test.YtmknchdciblfjaaGreatJo
import Derived.Test.YtmknchdciblfjaaGreatJs
import Derived.Test.YtmknchdciblfjaaGreatJp
import Derived.Test.YtmknchdciblfjaaGreatKaz
import Derived.Test.YtmknchdciblfjaaGreatKd
import Derived.Test.YtmknchdciblfjaaGreatKe
import Derived.Test.YtmknchdciblfjaaGreatSb
import Derived.Test.YtmknchdciblfjaaGreatSz
import Derived.Test.YtmknchdciblfjaaGreatSh
import Derived.Test.YtmknchdciblfjaaGreatSi
import Derived.Test.YtmknchdciblfjaaGreatRT
import Derived.Test.YtmknchdciblfjaaGreatJw
import Derived.Test.YtmknchdciblfjaaGreatJqz
import Derived.Test.YtmknchdciblfjaaGreatKc
set_option linter.unusedVariables false
set_option linter.unusedSimpArgs false
/-! XUh -/
namespace Go.Proofs.YtmknchdciblfjaaGreat
open Go Go.RowKit Go.ChangeShapes Go.WideShapes Go.Deep Go.Joins Iv
theorem qrbuns_nil (w : World) (N : Nat) : RBuns w N (.slice none 0 0) [] := ⟨none, 0, rfl, Nat.le_refl _, by simp, fun _ => rfl, fun h => by simp at h⟩
section
variable {H : Type} {enc : TypeId × Value → H} {w : World} {base : Nat} {spare : Nat → Bool} {held : Bool}
set_option maxRecDepth 100000 in
theorem open_bunC {n : Nat} {cs : List Value} {x : DataW H × List MemPlace} (h : DataW.trod enc Tryz.prog w base spare held n 32 cs = some x) : ∃ (b : Bun) (u : Value), cs = bunC b u ∧ RBlks w w.heap.size u b.blocks ∧ Fits b := by
  obtain ⟨xs, m, rfl, _, hl, hxl, hf⟩ := DataW.trod_struct Tryz.underlying32 h
  obtain ⟨c0, c1, c2, c3, c4, c5, c6, c7, c8, c9, ca, cb, rfl⟩ := list12 (hl.trans (by kernel_rfl))
  obtain ⟨x0, x1, x2, x3, x4, x5, x6, rfl⟩ := list7 hxl
  have k : Tryz.prog.cellsOf 3 = 1 := by kernel_rfl
  obtain ⟨a0, a1, a2, a3, a4, e0⟩ := open_id (fld (k := 5) (i := 0) hf rfl (by kernel_rfl))
  obtain ⟨a5, a6, e1⟩ := open_end (fld (k := 2) (i := 1) hf rfl (by kernel_rfl))
  obtain ⟨a7, e2, _⟩ := DataW.trod_int (k := .i64) (by kernel_rfl) (fld (k := 1) (i := 2) hf rfl (by kernel_rfl))
  obtain ⟨a8, e3, _⟩ := DataW.trod_int (k := .i64) (by kernel_rfl) (fld (k := 1) (i := 3) hf rfl (by kernel_rfl))
  obtain ⟨a9, e4, _⟩ := DataW.trod_int (k := .i64) (by kernel_rfl) (fld (k := 1) (i := 4) hf rfl (by kernel_rfl))
  obtain ⟨u, l, e5, hr, hd⟩ := open_blks (fld (k := 1) (i := 5) hf rfl (by kernel_rfl))
  obtain ⟨s, e6, _, hs⟩ := DataW.trod_string (by kernel_rfl) (fld (k := 1) (i := 6) hf rfl (by kernel_rfl))
  simp at e0 e1 e2 e3 e4 e5 e6
  obtain ⟨rfl, rfl, rfl, rfl, rfl⟩ := e0
  obtain ⟨rfl, rfl⟩ := e1
  subst e2 e3 e4 e5 e6
  exact ⟨⟨a0, a1, a2, a3, a4, a5, a6, a7, a8, a9, l, s.data.toList⟩, _, rfl, hr, by simpa using hs, hd⟩
set_option maxRecDepth 100000 in
theorem open_buns {n : Nat} {cs : List Value} {x : DataW H × List MemPlace} (h : DataW.trod enc Tryz.prog w base spare held n 22 cs = some x) : ∃ (u : Value) (l : List Bun), cs = [u] ∧ RBuns w w.heap.size u l ∧ ∀ b ∈ l, Fits b := by
  rcases open_slice Tryz.underlying22 h with ⟨rfl, _⟩ | ⟨a, len, cap, m, n', D, Pl, rfl, hb, hl, hm, hmm, _, hi⟩
  · exact ⟨_, [], rfl, qrbuns_nil _ _, fun b hb => by simp at hb⟩
  · have hc : Tryz.prog.cellsOf 32 = 12 := by kernel_rfl
    rw [hc] at hi
    obtain ⟨l, hll, hlp⟩ := choose_lt' (α := Bun) (n := len) (p := fun i b => ∃ v, (∀ k u, (bunC b v)[k]? = some u → w.cell? (a.add (i * 12 + k)) = some u) ∧ RBlks w w.heap.size v b.blocks ∧ Fits b) fun i hil => by
      obtain ⟨cs', h1, h2⟩ := hi i (by rw [hmm]; split <;> omega)
      obtain ⟨b, v, rfl, hr, hd⟩ := open_bunC h2
      obtain ⟨_, _, h3⟩ := World.cells?_some h1
      refine ⟨b, v, fun k u hk => ?_, hr, hd⟩
      rw [← Go.Deep.add_add, h3 k (by have := (List.getElem?_eq_some_iff.1 hk).1; simpa [bunC] using this), hk]
    refine ⟨_, l, rfl, ⟨some a, cap, by rw [hll], by omega, hm, (fun h => by cases h), fun hp => ?_⟩, fun b hb => ?_⟩
    · obtain ⟨x, hx⟩ : ∃ x, l[0]? = some x := ⟨_, List.getElem?_eq_getElem hp⟩
      obtain ⟨v, hv0, _⟩ := hlp 0 x hx
      have h0 := hv0 0 _ rfl
      obtain ⟨ab, ao, asp⟩ := a
      have hs : asp = none ∧ ab < w.heap.size := by
        unfold World.cell? at h0
        simp only [Nat.zero_mul, Addr.add, Nat.add_zero] at h0
        have hz : ab < w.heap.size := by
          apply Classical.byContradiction
          intro hn
          have : w.heap[ab]? = none := by simp; omega
          simp [this] at h0
        refine ⟨?_, hz⟩
        cases asp with
        | none => rfl
        | some s =>
          exfalso
          revert h0
          simp
          split <;> simp
      obtain ⟨rfl, hz⟩ := hs
      refine ⟨ab, ao, rfl, hz, fun i x hx => ?_⟩
      obtain ⟨v, hv, hr, _⟩ := hlp i x hx
      refine ⟨v, fun k u hk => ?_, hr⟩
      have := hv k u hk
      rw [addN] at this
      rw [Nat.add_assoc]
      exact this
    · obtain ⟨i, hi'⟩ := List.getElem?_of_mem hb
      obtain ⟨v, _, _, hd⟩ := hlp i b hi'
      exact hd
set_option maxRecDepth 100000 in
theorem open_buns_arg {r : Reach} {b0 : Nat} {v : Value} {d : DataW H} {p : List MemPlace} (hv : Value.okWide Tryz.prog w r b0 22 v) (h : DataW.Trod enc Tryz.prog w base spare held 22 v d p) :
    ∃ l : List Bun, RBuns w w.heap.size v l ∧ ∀ b ∈ l, Fits b := by
  obtain ⟨a, n, c, rfl⟩ := okWide_slice Tryz.underlying22 hv
  obtain ⟨fuel, hf⟩ := h
  obtain ⟨u, l, e, hr, hd⟩ := open_buns hf
  simp [Value.cells] at e
  subst e
  exact ⟨l, hr, hd⟩
end
end Go.Proofs.YtmknchdciblfjaaGreat
/-! XUp -/
namespace Go.Proofs.YtmknchdciblfjaaGreat
open Go Go.RowKit Iv
attribute [local go_sem] Oper.semAt_some
attribute [local go_sem] B_getElem B_size B_app B_extract B_get B_toList
def AddI (w wr : World) (G : Nat) (p : Par) (ub uk : Value) : Prop :=
  wr.heap[G]? = some (.cells (parC p ub uk).toArray 81 (0, 0)) ∧ RBlksD wr (AllD w.heap.size G) ub p.head.blocks ∧ RSps wr wr.heap.size uk p.known ∧ ((RNe G uk ∧ RNe w.heap.size uk) ∨ p.known = []) ∧ (Fits p.head ∧ p.data.length ≤ maxLen) ∧ wr.heap[w.heap.size]? = some (.cells #[.int .i64 0, .int .i64 0, .int .i64 0, .int .i64 0, .int .i64 0, .int .i64 0, .int .i64 0, .int .i64 0, .int .i64 0, .int .i64 0, .slice none 0 0, .string ⟨#[]⟩, .slice none 0 0, .string ⟨#[]⟩] 81 (0, 0)) ∧ w.heap.size < G ∧ Below w.heap.size w wr
theorem AddI.bel {w wr : World} {G : Nat} {p : Par} {ub uk : Value} (h : AddI w wr G p ub uk) : Below w.heap.size w wr := h.2.2.2.2.2.2.2
theorem AddI.step {w wr w' W : World} {G : Nat} {p p' : Par} {ub uk ub' uk' : Value} (h : AddI w wr G p ub uk) (hb : Below wr.heap.size wr w') (hR : RBlksD w' (AllD w.heap.size G) ub' p'.head.blocks) (hK : RSps w' w'.heap.size uk' p'.known) (hN : RNe G uk') (hZ : RNe w.heap.size uk') (hF : Fits p'.head ∧ p'.data.length ≤ maxLen)
    (hW : W.heap[G]? = some (.cells (parC p' ub' uk').toArray 81 (0, 0))) (hbW : ∀ B, B ≤ G → Below B w' W) (hsW : W.heap.size = w'.heap.size) (hoW : ∀ q, q ≠ G → W.heap[q]? = w'.heap[q]?) : AddI w W G p' ub' uk' := by
  obtain ⟨h1, h2, h3, h4, h5, h6, h7, h8⟩ := h
  have hG : G < wr.heap.size := (Array.getElem?_eq_some_iff.1 h1).1
  refine ⟨hW, hR.keep (fun b o hD => World.cell?_of_block (hoW b (by have := hD.2; omega))) (fun _ h => h), hK.keepNe hN hoW (by omega), .inl ⟨hN, hZ⟩, hF, ?_, h7, ?_⟩
  · exact (hoW _ (by omega)).trans ((hb.block _ (by omega)).trans h6)
  · exact (btrans0 h8 hb).trans (hbW _ (by omega))
theorem AddI.below {w wr w' : World} {G : Nat} {p : Par} {ub uk : Value} (h : AddI w wr G p ub uk) (hb : Below wr.heap.size wr w') : AddI w w' G p ub uk := by
  obtain ⟨h1, h2, h3, h4, h5, h6, h7, h8⟩ := h
  have hG : G < wr.heap.size := (Array.getElem?_eq_some_iff.1 h1).1
  exact ⟨(hb.block _ hG).trans h1, h2.keep (fun b o hD => hb.cell (p := ⟨b, o, none⟩) (by have := hD.2; show b < wr.heap.size; omega)) (fun _ h => h), h3.below' hb, h4, h5, (hb.block _ (by omega)).trans h6, h7, btrans0 h8 hb⟩
end Go.Proofs.YtmknchdciblfjaaGreat
/-! XUq -/
namespace Go.Proofs.YtmknchdciblfjaaGreat
open Go Go.RowKit Go.ChangeShapes Go.WideShapes Go.Deep Go.Joins Iv
attribute [local go_sem] Oper.semAt_some
theorem RBuns.below' {w w' : World} {v : Value} {l : List Bun} (h : RBuns w w.heap.size v l) (k : Below w.heap.size w w') : RBuns w' w'.heap.size v l := h.below k (Nat.le_refl _) k.size
/-- a row of numbers of 8 bits -/
def RU8s (w : World) (N : Nat) (v : Value) (l : List Int) : Prop :=
  ∃ a c, v = .slice a l.length c ∧ l.length ≤ c ∧ c ≤ maxLen ∧ (a = none → c = 0) ∧ (0 < l.length → ∃ b o, a = some ⟨b, o, none⟩ ∧ b < N ∧ ∀ (i : Nat) (x : Int), l[i]? = some x → w.cell? ⟨b, o + i, none⟩ = some (.int .u8 x))
section
variable {H : Type} {enc : TypeId × Value → H} {w : World} {base : Nat} {spare : Nat → Bool} {held : Bool}
set_option maxRecDepth 100000 in
theorem open_u8s_arg {r : Reach} {b0 : Nat} {v : Value} {d : DataW H} {p : List MemPlace} (hv : Value.okWide Tryz.prog w r b0 23 v) (h : DataW.Trod enc Tryz.prog w base spare held 23 v d p) :
    ∃ l : List Int, RU8s w w.heap.size v l ∧ ∀ x ∈ l, 0 ≤ x ∧ x < 256 := by
  obtain ⟨a', n', c', rfl⟩ := okWide_slice Tryz.underlying23 hv
  obtain ⟨fuel, hf⟩ := h
  rcases Go.Deep.open_slice Tryz.underlying23 hf with ⟨e, _⟩ | ⟨a, len, cap, m, n, D, Pl, e, hb, hl, hm, hmm, _, hi⟩
  · simp [Value.cells] at e
    obtain ⟨rfl, rfl, rfl⟩ := e
    exact ⟨[], ⟨none, 0, rfl, Nat.le_refl _, by simp, fun _ => rfl, fun h => by simp at h⟩, fun x hx => by cases hx⟩
  · simp [Value.cells] at e
    obtain ⟨rfl, rfl, rfl⟩ := e
    have hc : Tryz.prog.cellsOf 5 = 1 := by kernel_rfl
    rw [hc] at hi
    obtain ⟨l, hll, hlp⟩ := choose_lt' (α := Int) (n := n') (p := fun i x => w.cell? (a.add i) = some (.int .u8 x) ∧ (0 ≤ x ∧ x < 256)) fun i hil => by
      obtain ⟨cs', h1, h2⟩ := hi i (by rw [hmm]; split <;> omega)
      obtain ⟨x, rfl, hx⟩ := DataW.trod_int Tryz.underlying5 h2
      obtain ⟨_, _, h3⟩ := World.cells?_some h1
      refine ⟨x, ?_, ?_⟩
      rotate_left
      · have := hx.2; simp [Lit.wf, IntKind.min, IntKind.max, IntKind.signed, IntKind.bits] at this; omega
      have := h3 0 (by omega)
      rw [Go.Deep.add_add, Nat.mul_one, Nat.add_zero] at this
      simpa using this
    refine ⟨l, ⟨some a, c', by rw [hll], by omega, hm, (fun h => by cases h), fun hp => ?_⟩, fun y hy => by obtain ⟨i, hi'⟩ := List.getElem?_of_mem hy; exact (hlp i y hi').2⟩
    obtain ⟨x, hx⟩ : ∃ x, l[0]? = some x := ⟨_, List.getElem?_eq_getElem hp⟩
    have h0 := (hlp 0 x hx).1
    obtain ⟨ab, ao, asp⟩ := a
    have hs : asp = none ∧ ab < w.heap.size := by
      unfold World.cell? at h0
      simp only [Addr.add, Nat.add_zero] at h0
      have hz : ab < w.heap.size := by
        apply Classical.byContradiction
        intro hn
        have : w.heap[ab]? = none := by simp; omega
        simp [this] at h0
      refine ⟨?_, hz⟩
      cases asp with
      | none => rfl
      | some s =>
        exfalso
        revert h0
        simp
        split <;> simp
    obtain ⟨rfl, hz⟩ := hs
    refine ⟨ab, ao, rfl, hz, fun i x hx => ?_⟩
    have := (hlp i x hx).1
    rwa [addN] at this
end
abbrev BV := Bun × Value
def sflatU (us : List BV) : List Value := us.flatMap fun r => bunC r.1 r.2
theorem flatU_len : ∀ us : List BV, (sflatU us).length = us.length * 12
  | [] => rfl
  | r :: s => by
    have := flatU_len s
    unfold sflatU at this ⊢
    rw [List.flatMap_cons, List.length_append, this, bunC_len, List.length_cons]
    omega
theorem flatU_app (a b : List BV) : sflatU (a ++ b) = sflatU a ++ sflatU b := by unfold sflatU; rw [List.flatMap_append]
theorem flatU_split {us : List BV} {i : Nat} {r : BV} (h : us[i]? = some r) : sflatU us = sflatU (us.take i) ++ (bunC r.1 r.2 ++ sflatU (us.drop (i + 1))) := by
  obtain ⟨hi, hx⟩ := List.getElem?_eq_some_iff.1 h
  have e : us = us.take i ++ r :: us.drop (i + 1) := by rw [← hx, List.getElem_cons_drop, List.take_append_drop]
  conv => lhs; rw [e]
  rw [flatU_app]
  rfl
theorem flatU_at {us : List BV} {i d : Nat} {r : BV} {v : Value} (h : us[i]? = some r) (hv : (bunC r.1 r.2)[d]? = some v) : (sflatU us)[i * 12 + d]? = some v := by
  have hi := (List.getElem?_eq_some_iff.1 h).1
  have hd := (List.getElem?_eq_some_iff.1 hv).1
  rw [flatU_split h, List.getElem?_append_right (by rw [flatU_len, List.length_take]; omega), flatU_len, List.length_take, Nat.min_eq_left (by omega), Nat.add_sub_cancel_left, List.getElem?_append_left hd]
  exact hv
/-- stores behind each other, in a list -/
def setL : List Value → Nat → List Value → List Value
  | xs, _, [] => xs
  | xs, o, v :: r => setL (xs.set o v) (o + 1) r
theorem setL_mid (C : List Value) : ∀ (vs A B : List Value), B.length = vs.length → setL (A ++ (B ++ C)) A.length vs = A ++ (vs ++ C)
  | [], A, B, h => by
    rw [List.eq_nil_of_length_eq_zero h]
    rfl
  | v :: r, A, B, h => by
    match B, h with
    | x :: B', h =>
      have ih := setL_mid C r (A ++ [v]) B' (by simpa using h)
      unfold setL
      rw [List.cons_append, List.set_append_right _ _ (Nat.le_refl _), Nat.sub_self, List.set_cons_zero]
      simpa using ih
theorem flatU_set {us : List BV} {i : Nat} {r s : BV} (h : us[i]? = some r) : setL (sflatU us) (i * 12) (bunC s.1 s.2) = sflatU (us.set i s) := by
  have hi := (List.getElem?_eq_some_iff.1 h).1
  have hl : (sflatU (us.take i)).length = i * 12 := by rw [flatU_len, List.length_take]; omega
  have e2 : us.set i s = us.take i ++ s :: us.drop (i + 1) := by rw [List.set_eq_take_append_cons_drop, if_pos hi]
  rw [flatU_split h, e2, flatU_app]
  have := setL_mid (sflatU (us.drop (i + 1))) (bunC s.1 s.2) (sflatU (us.take i)) (bunC r.1 r.2) (by rw [bunC_len, bunC_len])
  rw [hl] at this
  rw [this]
  rfl
theorem own_setCells {base : Nat} {e : TypeId} {size g n cap : Nat} : ∀ (vs : List Value) (o : Nat) (w : World) (xs : List Value), w.ownsRow base e size (.slice (some ⟨g, 0, none⟩) n cap) n xs → (w.setCells g o vs).ownsRow base e size (.slice (some ⟨g, 0, none⟩) n cap) n (setL xs o vs)
  | [], o, w, xs, h => h
  | v :: r, o, w, xs, h => by
    rw [World.setCells]
    exact own_setCells r (o + 1) _ _ (h.stored o v).1
/-- a row of bundles of one's own, whose blocks are older -/
def OwnBV (w : World) (base N : Nat) (v : Value) (us : List BV) : Prop := w.ownsRow base 32 12 v us.length (sflatU us) ∧ ∀ r ∈ us, RBlks w N r.2 r.1.blocks
theorem OwnBV.buns {w : World} {base N : Nat} {v : Value} {us : List BV} (h : OwnBV w base N v us) (hN : N ≤ w.heap.size) : RBuns w w.heap.size v (us.map (·.1)) := RBuns.of_own h.1 (fun r hr => (h.2 r hr).wide hN)
theorem OwnBV.below {w w' : World} {base N : Nat} {v : Value} {us : List BV} (h : OwnBV w base N v us) (k : Below w.heap.size w w') (hN : N ≤ w.heap.size) : OwnBV w' base N v us := by
  refine ⟨⟨h.1.1, ?_⟩, fun r hr => (h.2 r hr).below k hN (Nat.le_refl _)⟩
  rcases h.1.2 with ⟨e1, e2⟩ | ⟨g, cap, cur, e1, e2, e3, e4⟩
  · exact .inl ⟨e1, e2⟩
  · exact .inr ⟨g, cap, cur, e1, e2, (k.block _ (Array.getElem?_eq_some_iff.1 e3).1).trans e3, e4⟩
theorem OwnBV.store {w : World} {base N g n cap i : Nat} {us : List BV} {r s : BV} (h : OwnBV w base N (.slice (some ⟨g, 0, none⟩) n cap) us) (hn : us.length = n) (hi : us[i]? = some r) (hs : RBlks w N s.2 s.1.blocks) (hN : N ≤ g) :
    OwnBV (w.setCells g (i * 12) (bunC s.1 s.2)) base N (.slice (some ⟨g, 0, none⟩) n cap) (us.set i s) := by
  subst hn
  have hk : ∀ b o, b < N → (w.setCells g (i * 12) (bunC s.1 s.2)).cell? ⟨b, o, none⟩ = w.cell? ⟨b, o, none⟩ := fun b o hb => World.cell?_of_block (setCells_other g b (by omega) _ _ _)
  refine ⟨?_, fun t ht => ?_⟩
  · have := own_setCells (bunC s.1 s.2) (i * 12) w _ h.1
    rw [flatU_set hi] at this
    rw [List.length_set]
    exact this
  · rcases List.mem_or_eq_of_mem_set ht with ht | rfl
    · exact (h.2 t ht).keep hk (Nat.le_refl _)
    · exact hs.keep hk (Nat.le_refl _)
theorem OwnBV.cell {w : World} {base N g n cap i d : Nat} {us : List BV} {r : BV} {v : Value} (h : OwnBV w base N (.slice (some ⟨g, 0, none⟩) n cap) us) (hn : us.length = n) (hi : us[i]? = some r) (hv : (bunC r.1 r.2)[d]? = some v) : w.cell? ⟨g, i * 12 + d, none⟩ = some v := by
  subst hn
  have h1 := (List.getElem?_eq_some_iff.1 hi).1
  have h2 := (List.getElem?_eq_some_iff.1 hv).1
  rw [bunC_len] at h2
  rw [h.1.cellAt _ (by omega)]
  exact flatU_at hi hv
theorem OwnBV.there {w : World} {base N g n cap i : Nat} {us : List BV} {r : BV} (h : OwnBV w base N (.slice (some ⟨g, 0, none⟩) n cap) us) (hn : us.length = n) (hi : us[i]? = some r) : w.there g (i * 12) 12 := fun j hj => by
  obtain ⟨v, hv⟩ : ∃ v, (bunC r.1 r.2)[j]? = some v := ⟨_, List.getElem?_eq_getElem (by rw [bunC_len]; exact hj)⟩
  refine ⟨by rw [h.cell hn hi hv]; rfl, ?_⟩
  subst hn
  exact h.1.frozenAt _
theorem mod_nat (x : Int) {n : Nat} (h : 0 < n) : ∃ j : Nat, x % (n : Int) = (j : Int) ∧ j < n := by
  have h1 := Int.emod_nonneg x (b := (n : Int)) (by omega)
  have h2 := Int.emod_lt_of_pos x (b := (n : Int)) (by omega)
  obtain ⟨j, hj⟩ := Int.eq_ofNat_of_zero_le h1
  exact ⟨j, hj, by rw [hj] at h2; omega⟩
theorem mem_swap {α : Type} {l : List α} {j k : Nat} {A B : α} (hj : l[j]? = some A) (hk : l[k]? = some B) (x : α) : x ∈ (l.set j B).set k A ↔ x ∈ l := by
  have h1 := (List.getElem?_eq_some_iff.1 hj).1
  have h2 := (List.getElem?_eq_some_iff.1 hk).1
  constructor
  · intro h
    rcases List.mem_or_eq_of_mem_set h with h | rfl
    · rcases List.mem_or_eq_of_mem_set h with h | rfl
      · exact h
      · exact List.mem_of_getElem? hk
    · exact List.mem_of_getElem? hj
  · intro h
    obtain ⟨i, hi⟩ := List.getElem?_of_mem h
    by_cases c1 : i = k
    · subst c1
      rw [hk] at hi
      cases hi
      by_cases c2 : j = i
      · subst c2
        rw [hj] at hk
        cases hk
        exact List.mem_of_getElem? (i := j) (by rw [List.getElem?_set_self (by rw [List.length_set]; exact h1)])
      · exact List.mem_of_getElem? (i := j) (by rw [List.getElem?_set_ne (Ne.symm c2), List.getElem?_set_self h1])
    · by_cases c2 : i = j
      · subst c2
        rw [hj] at hi
        cases hi
        exact List.mem_of_getElem? (i := k) (by rw [List.getElem?_set_self (by rw [List.length_set]; exact h2)])
      · exact List.mem_of_getElem? (i := i) (by rw [List.getElem?_set_ne (Ne.symm c1), List.getElem?_set_ne (Ne.symm c2), hi])
end Go.Proofs.YtmknchdciblfjaaGreat
/-! XUs -/
namespace Go.Proofs.YtmknchdciblfjaaGreat
open Go Go.RowKit Go.ChangeShapes Go.WideShapes Go.Deep Go.Joins Iv
/-- a part that is cut out -/
structure Pt5 where
  f : Int
  t : Int
  ag : Bool
  i : Int
  o : Int
def Pt5.ok (x : Pt5) : Prop := (0 ≤ x.f ∧ x.f < 256) ∧ (0 ≤ x.t ∧ x.t < 256) ∧ (0 ≤ x.i ∧ x.i < 256) ∧ (0 ≤ x.o ∧ x.o < 256)
def ptC (x : Pt5) : List Value := [.int .u8 x.f, .int .u8 x.t, .bool x.ag, .int .u8 x.i, .int .u8 x.o]
def RPts (w : World) (N : Nat) (v : Value) (l : List Pt5) : Prop :=
  ∃ a c, v = .slice a l.length c ∧ l.length ≤ c ∧ c ≤ maxLen ∧ (a = none → c = 0) ∧ (0 < l.length → ∃ b o, a = some ⟨b, o, none⟩ ∧ b < N ∧ ∀ (i : Nat) (x : Pt5), l[i]? = some x → ∀ (k : Nat) (u : Value), (ptC x)[k]? = some u → w.cell? ⟨b, o + i * 5 + k, none⟩ = some u)
theorem RPts.nil (w : World) (N : Nat) : RPts w N (.slice none 0 0) [] := ⟨none, 0, rfl, Nat.le_refl _, by simp, fun _ => rfl, fun h => by simp at h⟩
section
variable {H : Type} {enc : TypeId × Value → H} {w : World} {base : Nat} {spare : Nat → Bool} {held : Bool}
end
end Go.Proofs.YtmknchdciblfjaaGreat
/-! XUw -/
namespace Go.Proofs.YtmknchdciblfjaaGreat
open Go Go.RowKit Iv
/-- a row of bundles of one's own, whose blocks lie anywhere but in the row -/
def OwnX (w : World) (base : Nat) (v : Value) (us : List BV) : Prop := w.ownsRow base 32 12 v us.length (sflatU us) ∧ ∀ r ∈ us, RBlksD w (fun q => q < w.heap.size ∧ v.ownBlock ≠ some q) r.2 r.1.blocks
theorem OwnX.buns {w : World} {base : Nat} {v : Value} {us : List BV} (h : OwnX w base v us) : RBuns w w.heap.size v (us.map (·.1)) := RBuns.of_own h.1 (fun r hr => (h.2 r hr).to fun q hq => hq.1)
theorem OwnX.below {w w' : World} {base : Nat} {v : Value} {us : List BV} (h : OwnX w base v us) (k : Below w.heap.size w w') : OwnX w' base v us := by
  refine ⟨⟨h.1.1, ?_⟩, fun r hr => (h.2 r hr).keep (fun q o hq => k.cell (p := ⟨q, o, none⟩) hq.1) (fun q hq => ⟨by have := hq.1; have := k.size; omega, hq.2⟩)⟩
  rcases h.1.2 with ⟨e1, e2⟩ | ⟨g, cap, cur, e1, e2, e3, e4⟩
  · exact .inl ⟨e1, e2⟩
  · exact .inr ⟨g, cap, cur, e1, e2, (k.block _ (Array.getElem?_eq_some_iff.1 e3).1).trans e3, e4⟩
theorem OwnX.lt {w : World} {base g n cap : Nat} {us : List BV} (h : OwnX w base (.slice (some ⟨g, 0, none⟩) n cap) us) : g < w.heap.size := by
  rcases h.1.2 with ⟨e1, e2⟩ | ⟨g', cap', cur, e1, e2, e3, e4⟩
  · cases e1
  · cases e1; exact (Array.getElem?_eq_some_iff.1 e3).1
theorem OwnX.ge {w : World} {base g n cap : Nat} {us : List BV} (h : OwnX w base (.slice (some ⟨g, 0, none⟩) n cap) us) : base ≤ g := by
  rcases h.1.2 with ⟨e1, e2⟩ | ⟨g', cap', cur, e1, e2, e3, e4⟩
  · cases e1
  · cases e1; exact e2
theorem OwnX.row {w : World} {base g n cap : Nat} {us : List BV} {r : BV} (h : OwnX w base (.slice (some ⟨g, 0, none⟩) n cap) us) (hr : r ∈ us) : RBlksD w (fun q => q < w.heap.size ∧ q ≠ g) r.2 r.1.blocks :=
  (h.2 r hr).keep (fun _ _ _ => rfl) (fun q hq => ⟨hq.1, fun e => hq.2 (by rw [e]; rfl)⟩)
theorem OwnX.store {w : World} {base g n cap i : Nat} {us : List BV} {r s : BV} (h : OwnX w base (.slice (some ⟨g, 0, none⟩) n cap) us) (hn : us.length = n) (hi : us[i]? = some r) (hs : RBlksD w (fun q => q < w.heap.size ∧ q ≠ g) s.2 s.1.blocks) :
    OwnX (w.setCells g (i * 12) (bunC s.1 s.2)) base (.slice (some ⟨g, 0, none⟩) n cap) (us.set i s) := by
  subst hn
  have hk : ∀ b o, (b < w.heap.size ∧ b ≠ g) → (w.setCells g (i * 12) (bunC s.1 s.2)).cell? ⟨b, o, none⟩ = w.cell? ⟨b, o, none⟩ := fun b o hb => World.cell?_of_block (setCells_other g b hb.2 _ _ _)
  have hD : ∀ q, (q < w.heap.size ∧ q ≠ g) → (q < (w.setCells g (i * 12) (bunC s.1 s.2)).heap.size ∧ (Value.slice (some ⟨g, 0, none⟩) us.length cap).ownBlock ≠ some q) := fun q hq => ⟨by rw [setCells_size]; exact hq.1, fun e => hq.2 (Option.some.inj e).symm⟩
  refine ⟨?_, fun t ht => ?_⟩
  · have := own_setCells (bunC s.1 s.2) (i * 12) w _ h.1
    rw [flatU_set hi] at this
    rw [List.length_set]
    exact this
  · rcases List.mem_or_eq_of_mem_set ht with ht | rfl
    · exact (h.row ht).keep hk hD
    · exact hs.keep hk hD
theorem OwnX.cell {w : World} {base g n cap i d : Nat} {us : List BV} {r : BV} {v : Value} (h : OwnX w base (.slice (some ⟨g, 0, none⟩) n cap) us) (hn : us.length = n) (hi : us[i]? = some r) (hv : (bunC r.1 r.2)[d]? = some v) : w.cell? ⟨g, i * 12 + d, none⟩ = some v := by
  subst hn
  have h1 := (List.getElem?_eq_some_iff.1 hi).1
  have h2 := (List.getElem?_eq_some_iff.1 hv).1
  rw [bunC_len] at h2
  rw [h.1.cellAt _ (by omega)]
  exact flatU_at hi hv
theorem OwnX.there {w : World} {base g n cap i : Nat} {us : List BV} {r : BV} (h : OwnX w base (.slice (some ⟨g, 0, none⟩) n cap) us) (hn : us.length = n) (hi : us[i]? = some r) : w.there g (i * 12) 12 := fun j hj => by
  obtain ⟨v, hv⟩ : ∃ v, (bunC r.1 r.2)[j]? = some v := ⟨_, List.getElem?_eq_getElem (by rw [bunC_len]; exact hj)⟩
  refine ⟨by rw [h.cell hn hi hv]; rfl, ?_⟩
  subst hn
  exact h.1.frozenAt _
theorem OwnX.append {w w' : World} {base g cap : Nat} {v uc : Value} {us : List BV} {c : Bun} (h : OwnX w base v us) (ho : w'.ownsRow base 32 12 (.slice (some ⟨g, 0, none⟩) (us.length + 1) cap) (us.length + 1) (sflatU us ++ bunC c uc)) (hg : w.grownBy w' v.ownBlock)
    (hat : v.ownBlock = some g ∨ g = w.heap.size) (hc : RBlksD w (fun q => q < w.heap.size ∧ v.ownBlock ≠ some q) uc c.blocks) : OwnX w' base (.slice (some ⟨g, 0, none⟩) (us.length + 1) cap) (us ++ [(c, uc)]) := by
  have hk : ∀ b o, (b < w.heap.size ∧ v.ownBlock ≠ some b) → w'.cell? ⟨b, o, none⟩ = w.cell? ⟨b, o, none⟩ := fun b o hb => World.cell?_of_block (hg.block b hb.1 (fun e => hb.2 e.symm))
  have hD : ∀ q, (q < w.heap.size ∧ v.ownBlock ≠ some q) → (q < w'.heap.size ∧ (Value.slice (some ⟨g, 0, none⟩) (us.length + 1) cap).ownBlock ≠ some q) := fun q hq => ⟨by have := hq.1; have := hg.size; omega, fun e => by
    have e' : g = q := Option.some.inj e
    subst e'
    rcases hat with hat | hat
    · exact hq.2 hat
    · have := hq.1; omega⟩
  refine ⟨?_, fun t ht => ?_⟩
  · rw [List.length_append, flatU_app]
    have e : sflatU [(c, uc)] = bunC c uc := by unfold sflatU; simp
    rw [e]
    exact ho
  · rcases List.mem_append.1 ht with ht | ht
    · exact (h.2 t ht).keep hk hD
    · have : t = (c, uc) := by simpa using ht
      subst this
      exact hc.keep hk hD
theorem FragOf.fits {b x : Bun} (h : FragOf b x) (hf : Fits b) : Fits x := by
  refine ⟨by have := h.bnd; have := h.off; have := hf.1; omega, fun y hy => ?_⟩
  rw [h.blk] at hy
  split at hy
  · exact hf.2 y (List.mem_filter.1 hy).1
  · exact hf.2 y hy
end Go.Proofs.YtmknchdciblfjaaGreat
/- TopAggregates: plain: the parts of a joined bundle are fragments of it, and adjoin; rows of bundles. -/
set_option linter.unusedVariables false
set_option linter.unusedSimpArgs false
namespace Go.Proofs.YtmknchdciblfjaaGreat
open Go Go.RowKit Iv
/-- bundles that adjoin, from f to t -/
def Adj (f : Int) : List Bun → Int → Prop
  | [], t => f = t
  | y :: r, t => y.off = f ∧ Adj (y.off + y.payload.length) r t
/-- every place lies in one of them -/
theorem Adj.cover {l : List Bun} {f g : Int} (h : Adj f l g) : ∀ t : Int, f ≤ t → t < g → ∃ y ∈ l, y.off ≤ t ∧ t < y.off + y.payload.length := by
  induction l generalizing f with
  | nil => intro t h1 h2; have e : f = g := h; omega
  | cons y r ih =>
    intro t h1 h2
    have e := h.1
    by_cases c : t < y.off + y.payload.length
    · exact ⟨y, by simp, by omega, c⟩
    · obtain ⟨z, hz, z1, z2⟩ := ih h.2 t (by omega) h2
      exact ⟨z, List.mem_cons_of_mem _ hz, z1, z2⟩
/-- the cuts of x, from the k-th on, adjoin -/
theorem parts_adj {x : Bun} {Ff : Nat → Nat} {K : Nat} (hc : Cuts Ff K x.payload.length) : ∀ (n k : Nat), k + n = K → Adj (x.off + (Ff k : Int)) ((List.range' k n).map (partC x Ff)) (x.off + x.payload.length)
  | 0, k, h => by
    obtain rfl : k = K := by omega
    show x.off + (Ff k : Int) = _
    rw [hc.top]
  | n + 1, k, h => by
    have h1 := hc.step k (by omega)
    have h2 := part_len hc (show k < K by omega)
    refine ⟨rfl, ?_⟩
    have e : (partC x Ff k).off + ((partC x Ff k).payload.length : Int) = x.off + (Ff (k + 1) : Int) := by
      show x.off + (Ff k : Int) + ((partC x Ff k).payload.length : Int) = _
      omega
    rw [e]
    exact parts_adj hc n (k + 1) (by omega)
theorem partsOf_adj {x : Bun} {Ff : Nat → Nat} {K : Nat} (hc : Cuts Ff K x.payload.length) : Adj x.off (partsOf x Ff K) (x.off + x.payload.length) := by
  have := parts_adj hc K 0 (by omega)
  rw [hc.zero] at this
  rw [partsOf_eq, List.range_eq_range']
  simpa using this
theorem OwnX.base {w : World} {b b' : Nat} {v : Value} {us : List BV} (h : OwnX w b v us) (k : b' ≤ b) : OwnX w b' v us :=
  ⟨⟨h.1.1, h.1.2.imp id fun ⟨g, cap, cur, e1, e2, e3⟩ => ⟨g, cap, cur, e1, Nat.le_trans k e2, e3⟩⟩, h.2⟩
theorem OwnX.own_lt {w : World} {base : Nat} {v : Value} {us : List BV} (h : OwnX w base v us) : ∀ q, v.ownBlock = some q → base ≤ q ∧ q < w.heap.size := fun q hq => h.1.lt q hq
/-- a row of bundles that is read: cells in g, blocks in D -/
def PRow (W : World) (D : Nat → Prop) (g : Nat) (rs : List BV) : Prop :=
  D g ∧ (∀ (i : Nat) (r : BV), rs[i]? = some r → ∀ (d : Nat) (v : Value), (bunC r.1 r.2)[d]? = some v → W.cell? ⟨g, i * 12 + d, none⟩ = some v) ∧ ∀ r ∈ rs, RBlksD W D r.2 r.1.blocks
theorem PRow.keep {W W' : World} {D : Nat → Prop} {g : Nat} {rs : List BV} (h : PRow W D g rs) (k : ∀ q o, D q → W'.cell? ⟨q, o, none⟩ = W.cell? ⟨q, o, none⟩) : PRow W' D g rs :=
  ⟨h.1, fun i r hr d v hv => (k _ _ h.1).trans (h.2.1 i r hr d v hv), fun r hr => (h.2.2 r hr).keep k (fun _ hq => hq)⟩
theorem PRow.to {W : World} {D D' : Nat → Prop} {g : Nat} {rs : List BV} (h : PRow W D g rs) (k : ∀ q, D q → D' q) : PRow W D' g rs :=
  ⟨k _ h.1, h.2.1, fun r hr => (h.2.2 r hr).keep (fun _ _ _ => rfl) k⟩
theorem OutB.prow {W : World} {N n₀ : Nat} {v : Value} {l : List Bun} (h : OutB W N n₀ v l) (hl : 0 < l.length) : ∃ (g cap : Nat) (rs : List BV), v = .slice (some ⟨g, 0, none⟩) l.length cap ∧ rs.map (·.1) = l ∧ PRow W (fun q => q < N ∨ (n₀ ≤ q ∧ q < W.heap.size)) g rs := by
  obtain ⟨rs, rfl, h2, h3⟩ := h
  have h2' := h2
  rcases h2.2 with ⟨rfl, e⟩ | ⟨g, cap, cur, rfl, e2, e3, e4⟩
  · omega
  · refine ⟨g, cap, rs, rfl, rfl, .inr ⟨e2, (Array.getElem?_eq_some_iff.1 e3).1⟩, fun i r hr d x hx => ?_, fun r hr => (h3 r hr).keep (fun _ _ _ => rfl) fun q hq => hq.2.2.imp id fun z => ⟨z, hq.1⟩⟩
    have i1 := (List.getElem?_eq_some_iff.1 hr).1
    have i2 := (List.getElem?_eq_some_iff.1 hx).1
    rw [bunC_len] at i2
    rw [h2'.cellAt _ (by rw [List.length_map]; omega)]
    exact flatU_at hr hx
theorem joinF_two (l : List Bun) : hasF (joinF l) 2 = false := by unfold joinF; split <;> decide
theorem join_split {l : List Bun} {seq n : Int} {b : Bun} (h : joinS l seq = (b, 0)) (hn : 20 ≤ n) : b.blocks = [] ∧ chkE b = 0 ∧ b.tot = 0 ∧ b.payload.length ≤ 4096 ∧ ∃ ps, splitR b n = (ps, 0) ∧ (ps = [b] ∨ (2 ≤ ps.length ∧ ps.length ≤ 300 ∧ (∀ z ∈ ps, FragOf b z) ∧ Adj 0 ps b.payload.length)) := by
  have hv := (join_valid h).1
  obtain ⟨y, r, -, -, -, -, -, -, -, hp, rfl⟩ := join_facts h
  refine ⟨rfl, hv, rfl, hp, ?_⟩
  obtain ⟨b, hb⟩ : ∃ b : Bun, (⟨y.src, crtS l, seq, 0, 0, y.dk, y.dn, endS l - crtS l, y.prio, joinF l, [], payS l⟩ : Bun) = b := ⟨_, rfl⟩
  have e1 : b.tot = 0 := by rw [← hb]
  have e2 : b.off = 0 := by rw [← hb]
  have e3 : b.flags = joinF l := by rw [← hb]
  have e4 : b.payload.length ≤ 4096 := by rw [← hb]; exact hp
  rw [hb] at hv ⊢
  clear hb hp
  obtain ⟨k, rfl⟩ := Int.eq_ofNat_of_zero_le (show 0 ≤ n by omega)
  unfold splitR
  rw [if_neg (by rw [hv]; simp), if_neg (by omega)]
  by_cases hl : (b.payload.length : Int) ≤ (k : Int)
  · rw [if_pos hl]
    exact ⟨_, rfl, .inl rfl⟩
  · have hc : cutE b = 0 := by
      unfold cutE
      rw [e3, joinF_two, if_neg (by simp), if_neg (by intro e; rw [e] at hl; simp at hl)]
    have hC : Cuts (sF k b.payload.length) (sK k b.payload.length) b.payload.length := sCuts (by omega)
    rw [if_neg hl, if_neg (by rw [hc]; simp), Int.toNat_natCast]
    refine ⟨_, rfl, .inr ⟨?_, ?_, fun z hz => ?_, ?_⟩⟩
    · rw [partsOf_length]; exact sK_two (by omega) (by omega)
    · rw [partsOf_length]
      unfold sK
      have : (b.payload.length + k - 1) / k < 301 := (Nat.div_lt_iff_lt_mul (by omega)).2 (by omega)
      omega
    · rw [partsOf_eq] at hz
      obtain ⟨i, hi, rfl⟩ := List.mem_map.1 hz
      have hi' := List.mem_range.1 hi
      have a1 := hC.step i hi'
      have a2 := hC.le (show i + 1 ≤ _ from hi')
      exact frag_cut hv e1 hc (by omega) (by omega) (by omega)
    · have := partsOf_adj hC
      rw [e2] at this
      simpa using this
/-- arrived fragments, and all of them: the bundle again -/
theorem all_again {b : Bun} {us ps : List Bun} (hv : chkE b = 0) (ht : b.tot = 0) (h2 : 2 ≤ ps.length) (hp : ps.length ≤ 300) (hf : ∀ z ∈ ps, FragOf b z) (ha : Adj 0 ps b.payload.length) (hu : ∀ z ∈ us, z ∈ ps) (hl : us.length ≤ 40) : allP (us ++ ps) = (b, 0) := by
  obtain ⟨x, r, e⟩ : ∃ x r, us ++ ps = x :: r := by
    cases h : us ++ ps with
    | nil => have := congrArg List.length h; rw [List.length_append] at this; simp only [List.length_nil] at this; omega
    | cons x r => exact ⟨x, r, rfl⟩
  have hlen : r.length + 1 = us.length + ps.length := by have := congrArg List.length e; rw [List.length_append, List.length_cons] at this; omega
  rw [e]
  refine frag_whole_all hv ht (fun y hy => ?_) (by omega) (fun t t0 t1 => ?_)
  · rw [← e] at hy
    rcases List.mem_append.1 hy with h | h
    · exact hf y (hu y h)
    · exact hf y h
  · obtain ⟨y, hy, k⟩ := ha.cover t t0 t1
    exact ⟨y, by rw [← e]; exact List.mem_append_right _ hy, k⟩
theorem OutB.flat {W : World} {N n₀ : Nat} {v : Value} {l : List Bun} (h : OutB W N n₀ v l) (hl : 0 < l.length) : ∃ (g cap : Nat) (rs : List BV), v = .slice (some ⟨g, 0, none⟩) l.length cap ∧ rs.map (·.1) = l ∧ PRow W (fun q => q < W.heap.size) g rs ∧ (∀ (j : Nat) u, (sflatU rs)[j]? = some u → W.cell? ((⟨g, 0, none⟩ : Addr).add j) = some u) := by
  have h0 := h
  obtain ⟨rs, rfl, h2, h3⟩ := h
  have hc := fun g (hg : v.ownBlock = some g) => h2.cells (g := g) hg
  have hlt := h2.lt
  have h2' := h2
  rcases h2.2 with ⟨rfl, e⟩ | ⟨g, cap, cur, rfl, e2, e3, e4⟩
  · omega
  · refine ⟨g, cap, rs, rfl, rfl, ⟨(hlt g rfl).2, fun i r hr d x hx => ?_, fun r hr => (h3 r hr).keep (fun _ _ _ => rfl) fun q hq => hq.1⟩, hc g rfl⟩
    have := hc g rfl (i * 12 + d) x (flatU_at hr hx)
    rwa [addN, Nat.zero_add] at this
theorem OwnX.appendAll {w w' : World} {base g cap : Nat} {v : Value} {us rs : List BV} (h : OwnX w base v us) (ho : w'.ownsRow base 32 12 (.slice (some ⟨g, 0, none⟩) (us.length + rs.length) cap) (us.length + rs.length) (sflatU us ++ sflatU rs)) (hg : w.grownBy w' v.ownBlock)
    (hat : v.ownBlock = some g ∨ g = w.heap.size) (hc : ∀ r ∈ rs, RBlksD w (fun q => q < w.heap.size ∧ v.ownBlock ≠ some q) r.2 r.1.blocks) : OwnX w' base (.slice (some ⟨g, 0, none⟩) (us.length + rs.length) cap) (us ++ rs) := by
  have hk : ∀ b o, (b < w.heap.size ∧ v.ownBlock ≠ some b) → w'.cell? ⟨b, o, none⟩ = w.cell? ⟨b, o, none⟩ := fun b o hb => World.cell?_of_block (hg.block b hb.1 (fun e => hb.2 e.symm))
  have hD : ∀ q, (q < w.heap.size ∧ v.ownBlock ≠ some q) → (q < w'.heap.size ∧ (Value.slice (some ⟨g, 0, none⟩) (us.length + rs.length) cap).ownBlock ≠ some q) := fun q hq => ⟨by have := hq.1; have := hg.size; omega, fun e => by
    have e' : g = q := Option.some.inj e
    subst e'
    rcases hat with hat | hat
    · exact hq.2 hat
    · have := hq.1; omega⟩
  refine ⟨?_, fun t ht => ?_⟩
  · rw [List.length_append, flatU_app]
    exact ho
  · rcases List.mem_append.1 ht with ht | ht
    · exact (h.2 t ht).keep hk hD
    · exact (hc t ht).keep hk hD
theorem rblks_none {w w' : World} {N M : Nat} {v : Value} {l : List Blk} (h : RBlks w N v l) (hb : l = []) : RBlks w' M v l := by
  obtain ⟨a, c, e, h1, h2, h3, _⟩ := h
  exact ⟨a, c, e, h1, h2, h3, fun hp => absurd hp (by rw [hb]; simp)⟩
theorem sflat_len (us : List BV) : (sflatU us).length = us.length * 12 := by
  unfold sflatU
  induction us with
  | nil => rfl
  | cons r us ih => rw [List.flatMap_cons, List.length_append, bunC_len, ih, List.length_cons]; omega
theorem sflat_one {us : List BV} (hs : ∀ r ∈ us, r.2.oneCell' = true) : ∀ u ∈ sflatU us, u.oneCell' = true := by
  intro u hu
  unfold sflatU at hu
  obtain ⟨r, hr, h⟩ := List.mem_flatMap.1 hu
  exact bunC_one (hs r hr) u h
theorem PRow.ones {W : World} {D : Nat → Prop} {g : Nat} {rs : List BV} (h : PRow W D g rs) : ∀ r ∈ rs, r.2.oneCell' = true := fun r hr => by
  obtain ⟨a, c, e, _⟩ := h.2.2 r hr
  rw [e]
  rfl
end Go.Proofs.YtmknchdciblfjaaGreat
