/- Joined by port.py: XUj XUh XUi XUp XUq XUs XUv XUt XUu XUw -/
import Derived.Test.YthlbddcllikolaaGreatUe
import Derived.Test.YthlbddcllikolaaGreatSm
import Derived.WideShapes
import Derived.ChangeSame
import Derived.Deep.Slices
import Derived.Deep.Fields
import Derived.Lib.SmallJoins
import Derived.ChangeMaps5
import Derived.BigQuiet
import Derived.BigRegion
import Derived.Deep.DeepCutAuto
import Derived.Deep.CutBlock
import Derived.Test.YthlbddcllikolaaGreatUf
import Derived.Test.YthlbddcllikolaaGreatUr
import Derived.Laws.OwnMore
import Derived.Laws.AppendOwn
import Derived.Deep.MidRow
import Derived.Lib.MinMax
import Derived.Test.YthlbddcllikolaaGreatJt
import Derived.Test.YthlbddcllikolaaGreatJa
import Derived.Test.YthlbddcllikolaaGreatJb
import Derived.Test.YthlbddcllikolaaGreatJc
import Derived.Test.YthlbddcllikolaaGreatJd
import Derived.Test.YthlbddcllikolaaGreatJe
import Derived.Test.YthlbddcllikolaaGreatJh
import Derived.Test.YthlbddcllikolaaGreatJn
import Derived.Test.YthlbddcllikolaaGreatJo
import Derived.Test.YthlbddcllikolaaGreatJs
import Derived.Test.YthlbddcllikolaaGreatJp
import Derived.Test.YthlbddcllikolaaGreatJu
import Derived.Test.YthlbddcllikolaaGreatSb
import Derived.Test.YthlbddcllikolaaGreatSg
import Derived.Test.YthlbddcllikolaaGreatSh
import Derived.Test.YthlbddcllikolaaGreatSi
import Derived.Test.YthlbddcllikolaaGreatRT
set_option linter.unusedVariables false
set_option linter.unusedSimpArgs false
/-! XUp -/
namespace Go.Proofs.YthlbddcllikolaaGreat
open Go Go.RowKit Iv
attribute [local go_sem] Oper.semAt_some
attribute [local go_sem] B_getElem B_size B_app B_extract B_get B_toList
def AddI (w wr : World) (G : Nat) (p : Par) (ub uk : Value) : Prop :=
  wr.heap[G]? = some (.cells (parC p ub uk).toArray 45 (0, 0)) ∧ RBlksD wr (AllD w.heap.size G) ub p.head.blocks ∧ RSps wr wr.heap.size uk p.known ∧ ((RNe G uk ∧ RNe w.heap.size uk) ∨ p.known = []) ∧ (Fits p.head ∧ p.data.length ≤ maxLen) ∧ wr.heap[w.heap.size]? = some (.cells #[.int .i64 0, .int .i64 0, .int .i64 0, .int .i64 0, .int .i64 0, .int .i64 0, .int .i64 0, .int .i64 0, .int .i64 0, .int .i64 0, .slice none 0 0, .string ⟨#[]⟩, .slice none 0 0, .string ⟨#[]⟩] 45 (0, 0)) ∧ w.heap.size < G ∧ Below w.heap.size w wr
theorem AddI.bel {w wr : World} {G : Nat} {p : Par} {ub uk : Value} (h : AddI w wr G p ub uk) : Below w.heap.size w wr := h.2.2.2.2.2.2.2
theorem AddI.step {w wr w' W : World} {G : Nat} {p p' : Par} {ub uk ub' uk' : Value} (h : AddI w wr G p ub uk) (hb : Below wr.heap.size wr w') (hR : RBlksD w' (AllD w.heap.size G) ub' p'.head.blocks) (hK : RSps w' w'.heap.size uk' p'.known) (hN : RNe G uk') (hZ : RNe w.heap.size uk') (hF : Fits p'.head ∧ p'.data.length ≤ maxLen)
    (hW : W.heap[G]? = some (.cells (parC p' ub' uk').toArray 45 (0, 0))) (hbW : ∀ B, B ≤ G → Below B w' W) (hsW : W.heap.size = w'.heap.size) (hoW : ∀ q, q ≠ G → W.heap[q]? = w'.heap[q]?) : AddI w W G p' ub' uk' := by
  obtain ⟨h1, h2, h3, h4, h5, h6, h7, h8⟩ := h
  have hG : G < wr.heap.size := (Array.getElem?_eq_some_iff.1 h1).1
  refine ⟨hW, hR.keep (fun b o hD => World.cell?_of_block (hoW b (by have := hD.2; omega))) (fun _ h => h), hK.keepNe hN hoW (by omega), .inl ⟨hN, hZ⟩, hF, ?_, h7, ?_⟩
  · exact (hoW _ (by omega)).trans ((hb.block _ (by omega)).trans h6)
  · exact (btrans0 h8 hb).trans (hbW _ (by omega))
theorem AddI.below {w wr w' : World} {G : Nat} {p : Par} {ub uk : Value} (h : AddI w wr G p ub uk) (hb : Below wr.heap.size wr w') : AddI w w' G p ub uk := by
  obtain ⟨h1, h2, h3, h4, h5, h6, h7, h8⟩ := h
  have hG : G < wr.heap.size := (Array.getElem?_eq_some_iff.1 h1).1
  exact ⟨(hb.block _ hG).trans h1, h2.keep (fun b o hD => hb.cell (p := ⟨b, o, none⟩) (by have := hD.2; show b < wr.heap.size; omega)) (fun _ h => h), h3.below' hb, h4, h5, (hb.block _ (by omega)).trans h6, h7, btrans0 h8 hb⟩
end Go.Proofs.YthlbddcllikolaaGreat
/-! XUq -/
namespace Go.Proofs.YthlbddcllikolaaGreat
open Go Go.RowKit Go.ChangeShapes Go.WideShapes Go.Deep Go.Joins Iv
attribute [local go_sem] Oper.semAt_some
theorem RBlks.below' {w w' : World} {v : Value} {l : List Blk} (h : RBlks w w.heap.size v l) (k : Below w.heap.size w w') : RBlks w' w'.heap.size v l := h.below k (Nat.le_refl _) k.size
theorem RBuns.below' {w w' : World} {v : Value} {l : List Bun} (h : RBuns w w.heap.size v l) (k : Below w.heap.size w w') : RBuns w' w'.heap.size v l := h.below k (Nat.le_refl _) k.size
/-- a row of numbers of 8 bits -/
def RU8s (w : World) (N : Nat) (v : Value) (l : List Int) : Prop :=
  ∃ a c, v = .slice a l.length c ∧ l.length ≤ c ∧ c ≤ maxLen ∧ (a = none → c = 0) ∧ (0 < l.length → ∃ b o, a = some ⟨b, o, none⟩ ∧ b < N ∧ ∀ (i : Nat) (x : Int), l[i]? = some x → w.cell? ⟨b, o + i, none⟩ = some (.int .u8 x))
section
variable {H : Type} {enc : TypeId × Value → H} {w : World} {base : Nat} {spare : Nat → Bool} {held : Bool}
set_option maxRecDepth 100000 in
theorem open_u8s_arg {r : Reach} {b0 : Nat} {v : Value} {d : DataW H} {p : List MemPlace} (hv : Value.okWide Tryz.prog w r b0 30 v) (h : DataW.Trod enc Tryz.prog w base spare held 30 v d p) :
    ∃ l : List Int, RU8s w w.heap.size v l ∧ ∀ x ∈ l, 0 ≤ x ∧ x < 256 := by
  obtain ⟨a', n', c', rfl⟩ := okWide_slice Tryz.underlying30 hv
  obtain ⟨fuel, hf⟩ := h
  rcases Go.Deep.open_slice Tryz.underlying30 hf with ⟨e, _⟩ | ⟨a, len, cap, m, n, D, Pl, e, hb, hl, hm, hmm, _, hi⟩
  · simp [Value.cells] at e
    obtain ⟨rfl, rfl, rfl⟩ := e
    exact ⟨[], ⟨none, 0, rfl, Nat.le_refl _, by simp, fun _ => rfl, fun h => by simp at h⟩, fun x hx => by cases hx⟩
  · simp [Value.cells] at e
    obtain ⟨rfl, rfl, rfl⟩ := e
    have hc : Tryz.prog.cellsOf 5 = 1 := by kernel_rfl
    rw [hc] at hi
    obtain ⟨l, hll, hlp⟩ := choose_lt' (α := Int) (n := n') (p := fun i x => w.cell? (a.add i) = some (.int .u8 x) ∧ (0 ≤ x ∧ x < 256)) fun i hil => by
      obtain ⟨cs', h1, h2⟩ := hi i (by rw [hmm]; split <;> omega)
      obtain ⟨x, rfl, hx⟩ := DataW.trod_int Tryz.underlying5 h2
      obtain ⟨_, _, h3⟩ := World.cells?_some h1
      refine ⟨x, ?_, ?_⟩
      rotate_left
      · have := hx.2; simp [Lit.wf, IntKind.min, IntKind.max, IntKind.signed, IntKind.bits] at this; omega
      have := h3 0 (by omega)
      rw [Go.Deep.add_add, Nat.mul_one, Nat.add_zero] at this
      simpa using this
    refine ⟨l, ⟨some a, c', by rw [hll], by omega, hm, (fun h => by cases h), fun hp => ?_⟩, fun y hy => by obtain ⟨i, hi'⟩ := List.getElem?_of_mem hy; exact (hlp i y hi').2⟩
    obtain ⟨x, hx⟩ : ∃ x, l[0]? = some x := ⟨_, List.getElem?_eq_getElem hp⟩
    have h0 := (hlp 0 x hx).1
    obtain ⟨ab, ao, asp⟩ := a
    have hs : asp = none ∧ ab < w.heap.size := by
      unfold World.cell? at h0
      simp only [Addr.add, Nat.add_zero] at h0
      have hz : ab < w.heap.size := by
        apply Classical.byContradiction
        intro hn
        have : w.heap[ab]? = none := by simp; omega
        simp [this] at h0
      refine ⟨?_, hz⟩
      cases asp with
      | none => rfl
      | some s =>
        exfalso
        revert h0
        simp
        split <;> simp
    obtain ⟨rfl, hz⟩ := hs
    refine ⟨ab, ao, rfl, hz, fun i x hx => ?_⟩
    have := (hlp i x hx).1
    rwa [addN] at this
end
abbrev BV := Bun × Value
def sflatU (us : List BV) : List Value := us.flatMap fun r => bunC r.1 r.2
theorem flatU_len : ∀ us : List BV, (sflatU us).length = us.length * 12
  | [] => rfl
  | r :: s => by
    have := flatU_len s
    unfold sflatU at this ⊢
    rw [List.flatMap_cons, List.length_append, this, bunC_len, List.length_cons]
    omega
theorem flatU_app (a b : List BV) : sflatU (a ++ b) = sflatU a ++ sflatU b := by unfold sflatU; rw [List.flatMap_append]
theorem flatU_split {us : List BV} {i : Nat} {r : BV} (h : us[i]? = some r) : sflatU us = sflatU (us.take i) ++ (bunC r.1 r.2 ++ sflatU (us.drop (i + 1))) := by
  obtain ⟨hi, hx⟩ := List.getElem?_eq_some_iff.1 h
  have e : us = us.take i ++ r :: us.drop (i + 1) := by rw [← hx, List.getElem_cons_drop, List.take_append_drop]
  conv => lhs; rw [e]
  rw [flatU_app]
  rfl
theorem flatU_at {us : List BV} {i d : Nat} {r : BV} {v : Value} (h : us[i]? = some r) (hv : (bunC r.1 r.2)[d]? = some v) : (sflatU us)[i * 12 + d]? = some v := by
  have hi := (List.getElem?_eq_some_iff.1 h).1
  have hd := (List.getElem?_eq_some_iff.1 hv).1
  rw [flatU_split h, List.getElem?_append_right (by rw [flatU_len, List.length_take]; omega), flatU_len, List.length_take, Nat.min_eq_left (by omega), Nat.add_sub_cancel_left, List.getElem?_append_left hd]
  exact hv
theorem flatU_one (us : List BV) (hs : ∀ r ∈ us, ∃ a n c, r.2 = .slice a n c) : ∀ v ∈ sflatU us, v.oneCell' = true := fun v hv => by
  obtain ⟨r, hr, hv⟩ := List.mem_flatMap.1 hv
  obtain ⟨a, n, c, e⟩ := hs r hr
  rw [e] at hv
  simp only [bunC, List.mem_cons, List.mem_nil_iff, or_false] at hv
  rcases hv with rfl | rfl | rfl | rfl | rfl | rfl | rfl | rfl | rfl | rfl | rfl | rfl <;> rfl
/-- stores behind each other, in a list -/
def setL : List Value → Nat → List Value → List Value
  | xs, _, [] => xs
  | xs, o, v :: r => setL (xs.set o v) (o + 1) r
theorem setL_mid (C : List Value) : ∀ (vs A B : List Value), B.length = vs.length → setL (A ++ (B ++ C)) A.length vs = A ++ (vs ++ C)
  | [], A, B, h => by
    rw [List.eq_nil_of_length_eq_zero h]
    rfl
  | v :: r, A, B, h => by
    match B, h with
    | x :: B', h =>
      have ih := setL_mid C r (A ++ [v]) B' (by simpa using h)
      unfold setL
      rw [List.cons_append, List.set_append_right _ _ (Nat.le_refl _), Nat.sub_self, List.set_cons_zero]
      simpa using ih
theorem flatU_set {us : List BV} {i : Nat} {r s : BV} (h : us[i]? = some r) : setL (sflatU us) (i * 12) (bunC s.1 s.2) = sflatU (us.set i s) := by
  have hi := (List.getElem?_eq_some_iff.1 h).1
  have hl : (sflatU (us.take i)).length = i * 12 := by rw [flatU_len, List.length_take]; omega
  have e2 : us.set i s = us.take i ++ s :: us.drop (i + 1) := by rw [List.set_eq_take_append_cons_drop, if_pos hi]
  rw [flatU_split h, e2, flatU_app]
  have := setL_mid (sflatU (us.drop (i + 1))) (bunC s.1 s.2) (sflatU (us.take i)) (bunC r.1 r.2) (by rw [bunC_len, bunC_len])
  rw [hl] at this
  rw [this]
  rfl
theorem own_setCells {base : Nat} {e : TypeId} {size g n cap : Nat} : ∀ (vs : List Value) (o : Nat) (w : World) (xs : List Value), w.ownsRow base e size (.slice (some ⟨g, 0, none⟩) n cap) n xs → (w.setCells g o vs).ownsRow base e size (.slice (some ⟨g, 0, none⟩) n cap) n (setL xs o vs)
  | [], o, w, xs, h => h
  | v :: r, o, w, xs, h => by
    rw [World.setCells]
    exact own_setCells r (o + 1) _ _ (h.stored o v).1
/-- a row of bundles of one's own, whose blocks are older -/
def OwnBV (w : World) (base N : Nat) (v : Value) (us : List BV) : Prop := w.ownsRow base 28 12 v us.length (sflatU us) ∧ ∀ r ∈ us, RBlks w N r.2 r.1.blocks
theorem OwnBV.buns {w : World} {base N : Nat} {v : Value} {us : List BV} (h : OwnBV w base N v us) (hN : N ≤ w.heap.size) : RBuns w w.heap.size v (us.map (·.1)) := RBuns.of_own h.1 (fun r hr => (h.2 r hr).wide hN)
theorem OwnBV.below {w w' : World} {base N : Nat} {v : Value} {us : List BV} (h : OwnBV w base N v us) (k : Below w.heap.size w w') (hN : N ≤ w.heap.size) : OwnBV w' base N v us := by
  refine ⟨⟨h.1.1, ?_⟩, fun r hr => (h.2 r hr).below k hN (Nat.le_refl _)⟩
  rcases h.1.2 with ⟨e1, e2⟩ | ⟨g, cap, cur, e1, e2, e3, e4⟩
  · exact .inl ⟨e1, e2⟩
  · exact .inr ⟨g, cap, cur, e1, e2, (k.block _ (Array.getElem?_eq_some_iff.1 e3).1).trans e3, e4⟩
theorem OwnBV.store {w : World} {base N g n cap i : Nat} {us : List BV} {r s : BV} (h : OwnBV w base N (.slice (some ⟨g, 0, none⟩) n cap) us) (hn : us.length = n) (hi : us[i]? = some r) (hs : RBlks w N s.2 s.1.blocks) (hN : N ≤ g) :
    OwnBV (w.setCells g (i * 12) (bunC s.1 s.2)) base N (.slice (some ⟨g, 0, none⟩) n cap) (us.set i s) := by
  subst hn
  have hk : ∀ b o, b < N → (w.setCells g (i * 12) (bunC s.1 s.2)).cell? ⟨b, o, none⟩ = w.cell? ⟨b, o, none⟩ := fun b o hb => World.cell?_of_block (setCells_other g b (by omega) _ _ _)
  refine ⟨?_, fun t ht => ?_⟩
  · have := own_setCells (bunC s.1 s.2) (i * 12) w _ h.1
    rw [flatU_set hi] at this
    rw [List.length_set]
    exact this
  · rcases List.mem_or_eq_of_mem_set ht with ht | rfl
    · exact (h.2 t ht).keep hk (Nat.le_refl _)
    · exact hs.keep hk (Nat.le_refl _)
theorem OwnBV.cell {w : World} {base N g n cap i d : Nat} {us : List BV} {r : BV} {v : Value} (h : OwnBV w base N (.slice (some ⟨g, 0, none⟩) n cap) us) (hn : us.length = n) (hi : us[i]? = some r) (hv : (bunC r.1 r.2)[d]? = some v) : w.cell? ⟨g, i * 12 + d, none⟩ = some v := by
  subst hn
  have h1 := (List.getElem?_eq_some_iff.1 hi).1
  have h2 := (List.getElem?_eq_some_iff.1 hv).1
  rw [bunC_len] at h2
  rw [h.1.cellAt _ (by omega)]
  exact flatU_at hi hv
theorem OwnBV.there {w : World} {base N g n cap i : Nat} {us : List BV} {r : BV} (h : OwnBV w base N (.slice (some ⟨g, 0, none⟩) n cap) us) (hn : us.length = n) (hi : us[i]? = some r) : w.there g (i * 12) 12 := fun j hj => by
  obtain ⟨v, hv⟩ : ∃ v, (bunC r.1 r.2)[j]? = some v := ⟨_, List.getElem?_eq_getElem (by rw [bunC_len]; exact hj)⟩
  refine ⟨by rw [h.cell hn hi hv]; rfl, ?_⟩
  subst hn
  exact h.1.frozenAt _
theorem mod_nat (x : Int) {n : Nat} (h : 0 < n) : ∃ j : Nat, x % (n : Int) = (j : Int) ∧ j < n := by
  have h1 := Int.emod_nonneg x (b := (n : Int)) (by omega)
  have h2 := Int.emod_lt_of_pos x (b := (n : Int)) (by omega)
  obtain ⟨j, hj⟩ := Int.eq_ofNat_of_zero_le h1
  exact ⟨j, hj, by rw [hj] at h2; omega⟩
theorem mem_swap {α : Type} {l : List α} {j k : Nat} {A B : α} (hj : l[j]? = some A) (hk : l[k]? = some B) (x : α) : x ∈ (l.set j B).set k A ↔ x ∈ l := by
  have h1 := (List.getElem?_eq_some_iff.1 hj).1
  have h2 := (List.getElem?_eq_some_iff.1 hk).1
  constructor
  · intro h
    rcases List.mem_or_eq_of_mem_set h with h | rfl
    · rcases List.mem_or_eq_of_mem_set h with h | rfl
      · exact h
      · exact List.mem_of_getElem? hk
    · exact List.mem_of_getElem? hj
  · intro h
    obtain ⟨i, hi⟩ := List.getElem?_of_mem h
    by_cases c1 : i = k
    · subst c1
      rw [hk] at hi
      cases hi
      by_cases c2 : j = i
      · subst c2
        rw [hj] at hk
        cases hk
        exact List.mem_of_getElem? (i := j) (by rw [List.getElem?_set_self (by rw [List.length_set]; exact h1)])
      · exact List.mem_of_getElem? (i := j) (by rw [List.getElem?_set_ne (Ne.symm c2), List.getElem?_set_self h1])
    · by_cases c2 : i = j
      · subst c2
        rw [hj] at hi
        cases hi
        exact List.mem_of_getElem? (i := k) (by rw [List.getElem?_set_self (by rw [List.length_set]; exact h2)])
      · exact List.mem_of_getElem? (i := i) (by rw [List.getElem?_set_ne (Ne.symm c1), List.getElem?_set_ne (Ne.symm c2), hi])
theorem runs_open {w : World} {N bb : Nat} : ∀ {l : List Bun} {o : Nat}, (∀ (i : Nat) (x : Bun), l[i]? = some x → CBun w N bb (o + i * 12) x) → ∃ us : List BV, us.map (·.1) = l ∧ (∀ r ∈ us, RBlks w N r.2 r.1.blocks) ∧ ∀ j u, (sflatU us)[j]? = some u → w.cell? ⟨bb, o + j, none⟩ = some u
  | [], o, _ => ⟨[], rfl, (fun r hr => by cases hr), (fun j u hu => by simp [sflatU] at hu)⟩
  | x :: s, o, h => by
    obtain ⟨ux, cx, rx⟩ := h 0 x rfl
    obtain ⟨us, e1, e2, e3⟩ := runs_open (l := s) (o := o + 12) (fun i y hy => by
      have := h (i + 1) y (by simpa using hy)
      rw [show o + (i + 1) * 12 = o + 12 + i * 12 by omega] at this
      exact this)
    refine ⟨(x, ux) :: us, by simp [e1], fun r hr => ?_, fun j u hu => ?_⟩
    · rcases List.mem_cons.1 hr with rfl | hr
      · exact rx
      · exact e2 r hr
    · have e : sflatU ((x, ux) :: us) = bunC x ux ++ sflatU us := rfl
      have hbl : (bunC x ux).length = 12 := rfl
      rw [e] at hu
      rcases Nat.lt_or_ge j 12 with z | z
      · rw [List.getElem?_append_left (by rw [hbl]; exact z)] at hu
        have := cx j u hu
        simpa using this
      · rw [List.getElem?_append_right (by rw [hbl]; exact z), hbl] at hu
        have := e3 _ _ hu
        rw [show o + 12 + (j - 12) = o + j by omega] at this
        exact this
theorem runs_slices {w : World} {N : Nat} {us : List BV} (h : ∀ r ∈ us, RBlks w N r.2 r.1.blocks) : ∀ r ∈ us, ∃ a n c, r.2 = .slice a n c := fun r hr => by
  obtain ⟨a, c, e, _⟩ := h r hr
  exact ⟨a, _, c, e⟩
theorem sinfoBun : (Tryz.prog.info? 28).map (fun i => (i.zero, i.size, i.bytes)) = some (some (.agg #[.int .i64 0, .int .i64 0, .int .i64 0, .int .i64 0, .int .i64 0, .int .i64 0, .int .i64 0, .int .i64 0, .int .i64 0, .int .i64 0, .slice none 0 0, .string ⟨#[]⟩]), 12, 120) := by kernel_rfl
def ClonePostB (l : List Bun) (N : Nat) (w : World) (e : Ending) (w' : World) : Prop := ∃ g cap us, e = .returned (.slice (some ⟨g, 0, none⟩) l.length cap) ∧ us.map (·.1) = l ∧ w.heap.size ≤ g ∧ OwnBV w' w.heap.size N (.slice (some ⟨g, 0, none⟩) l.length cap) us ∧ Below w.heap.size w w'
set_option maxRecDepth 100000 in
set_option maxHeartbeats 2000000 in
theorem clone_buns (l : List Bun) (u : Value) (w : World) (h : RBuns w w.heap.size u l) (h0 : 0 < l.length) (hl : l.length ≤ 1000) :
    Calls Tryz.prog 11 #[u] w (ClonePostB l w.heap.size w) := by
  obtain ⟨a, c, rfl, h1, h2, h3, h4⟩ := h
  obtain ⟨bb, o, rfl, hbn, hcell⟩ := h4 h0
  obtain ⟨us, e1, e2, e3⟩ := runs_open hcell
  have hul : us.length = l.length := by rw [← e1, List.length_map]
  have hq : ∀ W : World, (binOp .eql 33 (.slice (some ⟨bb, o, none⟩) l.length c) (.slice none 0 0)).run Tryz.prog W = .ok (.bool false) W := fun W => Lib.run_eql_slice_nil W _ _ (some _) _ _ _ _ Tryz.underlying33
  obtain ⟨i0, hi, hz0, hz1, hz2⟩ := info_parts sinfoBun
  have hn : ∀ j u, (sflatU us)[j]? = some u → (w.alloc (.cells #[] 28)).cell? ((⟨bb, o, none⟩ : Addr).add j) = some u := by
    intro j u hu
    rw [← e3 j u hu, addN]
    exact World.cell?_alloc_lt _ _ _ (by simpa using hbn)
  have hown : (w.alloc (.cells #[] 28)).ownsRow w.heap.size 28 12 (.slice (some ⟨w.heap.size, 0, none⟩) 0 0) 0 [] := World.ownsRow_made w #[] 0 (Nat.le_refl _) (by simp) rfl
  have HN := Lib.hid hn
  have HO1 := Lib.hid (flatU_one us (runs_slices e2))
  have HFL : Hid ((sflatU us).length = l.length * 12) := Lib.hid (by rw [flatU_len, hul])
  have HE1 := Lib.hid e1
  have HE2 := Lib.hid e2
  have HUL := Lib.hid hul
  have hlm : l.length ≤ 1000 := hl
  clear hn h1 h2 h3 h4 hcell e1 e2 e3 hul
  go_enter Tryz.func11, Tryz.ntmps11
  go_wp2_with (at_builtin; refine wpList_append_own_at _ rfl _ _ _ rfl w.heap.size 28 i0 _ 12 120 Tryz.underlying33 hi hz0 hz1 hz2 rfl (by omega) _ _ _ rfl hown ⟨bb, o, none⟩ l.length c (sflatU us) rfl HFL.out HN.out HO1.out (by simp only [maxLen]; omega) (by omega) (by simp) ?_; intro v' w1 hown1 hg1 _ hat)
  go_ret
  have hb1 : Below w.heap.size w w1 := ((Below.refl _ _).alloc (Nat.le_refl _) _).grown hg1 (by simp) (fun k hk => by have : w.heap.size = k := Option.some.inj hk; omega)
  simp only [Nat.zero_add, List.nil_append] at hown1
  have hown2 := hown1
  obtain ⟨_, hh⟩ := hown2
  rcases hh with ⟨_, hz⟩ | ⟨g, cap, cur, rfl, hbg, _⟩
  · omega
  · refine ⟨g, cap, us, rfl, HE1.out, hbg, ⟨by rw [HUL.out]; exact hown1, fun r hr => (HE2.out r hr).below hb1 (Nat.le_refl _) (Nat.le_refl _)⟩, hb1⟩
end Go.Proofs.YthlbddcllikolaaGreat
/-! XUs -/
namespace Go.Proofs.YthlbddcllikolaaGreat
open Go Go.RowKit Go.ChangeShapes Go.WideShapes Go.Deep Go.Joins Iv
/-- a part that is cut out -/
structure Pt5 where
  f : Int
  t : Int
  ag : Bool
  i : Int
  o : Int
def Pt5.ok (x : Pt5) : Prop := (0 ≤ x.f ∧ x.f < 256) ∧ (0 ≤ x.t ∧ x.t < 256) ∧ (0 ≤ x.i ∧ x.i < 256) ∧ (0 ≤ x.o ∧ x.o < 256)
def ptC (x : Pt5) : List Value := [.int .u8 x.f, .int .u8 x.t, .bool x.ag, .int .u8 x.i, .int .u8 x.o]
def RPts (w : World) (N : Nat) (v : Value) (l : List Pt5) : Prop :=
  ∃ a c, v = .slice a l.length c ∧ l.length ≤ c ∧ c ≤ maxLen ∧ (a = none → c = 0) ∧ (0 < l.length → ∃ b o, a = some ⟨b, o, none⟩ ∧ b < N ∧ ∀ (i : Nat) (x : Pt5), l[i]? = some x → ∀ (k : Nat) (u : Value), (ptC x)[k]? = some u → w.cell? ⟨b, o + i * 5 + k, none⟩ = some u)
theorem RPts.nil (w : World) (N : Nat) : RPts w N (.slice none 0 0) [] := ⟨none, 0, rfl, Nat.le_refl _, by simp, fun _ => rfl, fun h => by simp at h⟩
section
variable {H : Type} {enc : TypeId × Value → H} {w : World} {base : Nat} {spare : Nat → Bool} {held : Bool}
end
end Go.Proofs.YthlbddcllikolaaGreat
/-! XUw -/
namespace Go.Proofs.YthlbddcllikolaaGreat
open Go Go.RowKit Iv
/-- a row of bundles of one's own, whose blocks lie anywhere but in the row -/
def OwnX (w : World) (base : Nat) (v : Value) (us : List BV) : Prop := w.ownsRow base 28 12 v us.length (sflatU us) ∧ ∀ r ∈ us, RBlksD w (fun q => q < w.heap.size ∧ v.ownBlock ≠ some q) r.2 r.1.blocks
theorem OwnX.buns {w : World} {base : Nat} {v : Value} {us : List BV} (h : OwnX w base v us) : RBuns w w.heap.size v (us.map (·.1)) := RBuns.of_own h.1 (fun r hr => (h.2 r hr).to fun q hq => hq.1)
theorem OwnX.below {w w' : World} {base : Nat} {v : Value} {us : List BV} (h : OwnX w base v us) (k : Below w.heap.size w w') : OwnX w' base v us := by
  refine ⟨⟨h.1.1, ?_⟩, fun r hr => (h.2 r hr).keep (fun q o hq => k.cell (p := ⟨q, o, none⟩) hq.1) (fun q hq => ⟨by have := hq.1; have := k.size; omega, hq.2⟩)⟩
  rcases h.1.2 with ⟨e1, e2⟩ | ⟨g, cap, cur, e1, e2, e3, e4⟩
  · exact .inl ⟨e1, e2⟩
  · exact .inr ⟨g, cap, cur, e1, e2, (k.block _ (Array.getElem?_eq_some_iff.1 e3).1).trans e3, e4⟩
theorem OwnX.lt {w : World} {base g n cap : Nat} {us : List BV} (h : OwnX w base (.slice (some ⟨g, 0, none⟩) n cap) us) : g < w.heap.size := by
  rcases h.1.2 with ⟨e1, e2⟩ | ⟨g', cap', cur, e1, e2, e3, e4⟩
  · cases e1
  · cases e1; exact (Array.getElem?_eq_some_iff.1 e3).1
theorem OwnX.ge {w : World} {base g n cap : Nat} {us : List BV} (h : OwnX w base (.slice (some ⟨g, 0, none⟩) n cap) us) : base ≤ g := by
  rcases h.1.2 with ⟨e1, e2⟩ | ⟨g', cap', cur, e1, e2, e3, e4⟩
  · cases e1
  · cases e1; exact e2
theorem OwnX.row {w : World} {base g n cap : Nat} {us : List BV} {r : BV} (h : OwnX w base (.slice (some ⟨g, 0, none⟩) n cap) us) (hr : r ∈ us) : RBlksD w (fun q => q < w.heap.size ∧ q ≠ g) r.2 r.1.blocks :=
  (h.2 r hr).keep (fun _ _ _ => rfl) (fun q hq => ⟨hq.1, fun e => hq.2 (by rw [e]; rfl)⟩)
theorem OwnX.store {w : World} {base g n cap i : Nat} {us : List BV} {r s : BV} (h : OwnX w base (.slice (some ⟨g, 0, none⟩) n cap) us) (hn : us.length = n) (hi : us[i]? = some r) (hs : RBlksD w (fun q => q < w.heap.size ∧ q ≠ g) s.2 s.1.blocks) :
    OwnX (w.setCells g (i * 12) (bunC s.1 s.2)) base (.slice (some ⟨g, 0, none⟩) n cap) (us.set i s) := by
  subst hn
  have hk : ∀ b o, (b < w.heap.size ∧ b ≠ g) → (w.setCells g (i * 12) (bunC s.1 s.2)).cell? ⟨b, o, none⟩ = w.cell? ⟨b, o, none⟩ := fun b o hb => World.cell?_of_block (setCells_other g b hb.2 _ _ _)
  have hD : ∀ q, (q < w.heap.size ∧ q ≠ g) → (q < (w.setCells g (i * 12) (bunC s.1 s.2)).heap.size ∧ (Value.slice (some ⟨g, 0, none⟩) us.length cap).ownBlock ≠ some q) := fun q hq => ⟨by rw [setCells_size]; exact hq.1, fun e => hq.2 (Option.some.inj e).symm⟩
  refine ⟨?_, fun t ht => ?_⟩
  · have := own_setCells (bunC s.1 s.2) (i * 12) w _ h.1
    rw [flatU_set hi] at this
    rw [List.length_set]
    exact this
  · rcases List.mem_or_eq_of_mem_set ht with ht | rfl
    · exact (h.row ht).keep hk hD
    · exact hs.keep hk hD
theorem OwnX.cell {w : World} {base g n cap i d : Nat} {us : List BV} {r : BV} {v : Value} (h : OwnX w base (.slice (some ⟨g, 0, none⟩) n cap) us) (hn : us.length = n) (hi : us[i]? = some r) (hv : (bunC r.1 r.2)[d]? = some v) : w.cell? ⟨g, i * 12 + d, none⟩ = some v := by
  subst hn
  have h1 := (List.getElem?_eq_some_iff.1 hi).1
  have h2 := (List.getElem?_eq_some_iff.1 hv).1
  rw [bunC_len] at h2
  rw [h.1.cellAt _ (by omega)]
  exact flatU_at hi hv
theorem OwnX.there {w : World} {base g n cap i : Nat} {us : List BV} {r : BV} (h : OwnX w base (.slice (some ⟨g, 0, none⟩) n cap) us) (hn : us.length = n) (hi : us[i]? = some r) : w.there g (i * 12) 12 := fun j hj => by
  obtain ⟨v, hv⟩ : ∃ v, (bunC r.1 r.2)[j]? = some v := ⟨_, List.getElem?_eq_getElem (by rw [bunC_len]; exact hj)⟩
  refine ⟨by rw [h.cell hn hi hv]; rfl, ?_⟩
  subst hn
  exact h.1.frozenAt _
theorem OwnX.append {w w' : World} {base g cap : Nat} {v uc : Value} {us : List BV} {c : Bun} (h : OwnX w base v us) (ho : w'.ownsRow base 28 12 (.slice (some ⟨g, 0, none⟩) (us.length + 1) cap) (us.length + 1) (sflatU us ++ bunC c uc)) (hg : w.grownBy w' v.ownBlock)
    (hat : v.ownBlock = some g ∨ g = w.heap.size) (hc : RBlksD w (fun q => q < w.heap.size ∧ v.ownBlock ≠ some q) uc c.blocks) : OwnX w' base (.slice (some ⟨g, 0, none⟩) (us.length + 1) cap) (us ++ [(c, uc)]) := by
  have hk : ∀ b o, (b < w.heap.size ∧ v.ownBlock ≠ some b) → w'.cell? ⟨b, o, none⟩ = w.cell? ⟨b, o, none⟩ := fun b o hb => World.cell?_of_block (hg.block b hb.1 (fun e => hb.2 e.symm))
  have hD : ∀ q, (q < w.heap.size ∧ v.ownBlock ≠ some q) → (q < w'.heap.size ∧ (Value.slice (some ⟨g, 0, none⟩) (us.length + 1) cap).ownBlock ≠ some q) := fun q hq => ⟨by have := hq.1; have := hg.size; omega, fun e => by
    have e' : g = q := Option.some.inj e
    subst e'
    rcases hat with hat | hat
    · exact hq.2 hat
    · have := hq.1; omega⟩
  refine ⟨?_, fun t ht => ?_⟩
  · rw [List.length_append, flatU_app]
    have e : sflatU [(c, uc)] = bunC c uc := by unfold sflatU; simp
    rw [e]
    exact ho
  · rcases List.mem_append.1 ht with ht | ht
    · exact (h.2 t ht).keep hk hD
    · have : t = (c, uc) := by simpa using ht
      subst this
      exact hc.keep hk hD
theorem FragOf.fits {b x : Bun} (h : FragOf b x) (hf : Fits b) : Fits x := by
  refine ⟨by have := h.bnd; have := h.off; have := hf.1; omega, fun y hy => ?_⟩
  rw [h.blk] at hy
  split at hy
  · exact hf.2 y (List.mem_filter.1 hy).1
  · exact hf.2 y hy
end Go.Proofs.YthlbddcllikolaaGreat
