/- Chapter 18: what the laws of orders share: a row of numbers of 8 bits, rows of bundles of one's own, the copy of a row, the swap of two. -/
import Derived.Test.YtpnfkmlgelcbgaaUk
import Derived.Test.YtpnfkmlgelcbgaaUi
import Derived.Test.YtpnfkmlgelcbgaaUh
import Derived.Test.YtpnfkmlgelcbgaaUm
import Derived.Test.YtpnfkmlgelcbgaaUp
import Derived.Laws.OwnMore
import Derived.Laws.AppendOwn
import Derived.Deep.MidRow
set_option linter.unusedVariables false
set_option linter.unusedSimpArgs false
namespace Go.Proofs.Ytpnfkmlgelcbgaa
open Go Go.RowKit Go.ChangeShapes Go.WideShapes Go.Deep Go.Joins Iv
attribute [local go_sem] Oper.semAt_some
theorem RBlks.below' {w w' : World} {v : Value} {l : List Blk} (h : RBlks w w.heap.size v l) (k : Below w.heap.size w w') : RBlks w' w'.heap.size v l := h.below k (Nat.le_refl _) k.size
theorem RBuns.below' {w w' : World} {v : Value} {l : List Bun} (h : RBuns w w.heap.size v l) (k : Below w.heap.size w w') : RBuns w' w'.heap.size v l := h.below k (Nat.le_refl _) k.size
theorem runs1 {w : World} {g : Nat} {x : Bun} {ux : Value} (hg : w.heap[g]? = some (.cells (bunC x ux).toArray 28 (0, 0))) (hx : RBlks w w.heap.size ux x.blocks) : RBuns w w.heap.size (.slice (some ⟨g, 0, none⟩) 1 1) [x] :=
  RBuns.of_own (base := 0) (rs := [(x, ux)]) (own_lit (n := 1) (size := 12) (by simpa using hg) (Nat.zero_le _) (by rfl) (by simp [maxLen])) (fun r hr => by
    have : r = (x, ux) := by simpa using hr
    subst this
    exact hx)
/-- a row of numbers of 8 bits -/
def RU8s (w : World) (N : Nat) (v : Value) (l : List Int) : Prop :=
  ∃ a c, v = .slice a l.length c ∧ l.length ≤ c ∧ c ≤ maxLen ∧ (a = none → c = 0) ∧ (0 < l.length → ∃ b o, a = some ⟨b, o, none⟩ ∧ b < N ∧ ∀ (i : Nat) (x : Int), l[i]? = some x → w.cell? ⟨b, o + i, none⟩ = some (.int .u8 x))
section
variable {H : Type} {enc : TypeId × Value → H} {w : World} {base : Nat} {spare : Nat → Bool} {held : Bool}
set_option maxRecDepth 100000 in
theorem open_u8s_arg {r : Reach} {b0 : Nat} {v : Value} {d : DataW H} {p : List MemPlace} (hv : Value.okWide Try.prog w r b0 53 v) (h : DataW.Trod enc Try.prog w base spare held 53 v d p) :
    ∃ l : List Int, RU8s w w.heap.size v l ∧ ∀ x ∈ l, 0 ≤ x ∧ x < 256 := by
  obtain ⟨a', n', c', rfl⟩ := okWide_slice Try.underlying53 hv
  obtain ⟨fuel, hf⟩ := h
  rcases Go.Deep.open_slice Try.underlying53 hf with ⟨e, _⟩ | ⟨a, len, cap, m, n, D, Pl, e, hb, hl, hm, hmm, _, hi⟩
  · simp [Value.cells] at e
    obtain ⟨rfl, rfl, rfl⟩ := e
    exact ⟨[], ⟨none, 0, rfl, Nat.le_refl _, by simp, fun _ => rfl, fun h => by simp at h⟩, fun x hx => by cases hx⟩
  · simp [Value.cells] at e
    obtain ⟨rfl, rfl, rfl⟩ := e
    have hc : Try.prog.cellsOf 5 = 1 := by kernel_rfl
    rw [hc] at hi
    obtain ⟨l, hll, hlp⟩ := choose_lt' (α := Int) (n := n') (p := fun i x => w.cell? (a.add i) = some (.int .u8 x) ∧ (0 ≤ x ∧ x < 256)) fun i hil => by
      obtain ⟨cs', h1, h2⟩ := hi i (by rw [hmm]; split <;> omega)
      obtain ⟨x, rfl, hx⟩ := DataW.trod_int Try.underlying5 h2
      obtain ⟨_, _, h3⟩ := World.cells?_some h1
      refine ⟨x, ?_, ?_⟩
      rotate_left
      · have := hx.2; simp [Lit.wf, IntKind.min, IntKind.max, IntKind.signed, IntKind.bits] at this; omega
      have := h3 0 (by omega)
      rw [Go.Deep.add_add, Nat.mul_one, Nat.add_zero] at this
      simpa using this
    refine ⟨l, ⟨some a, c', by rw [hll], by omega, hm, (fun h => by cases h), fun hp => ?_⟩, fun y hy => by obtain ⟨i, hi'⟩ := List.getElem?_of_mem hy; exact (hlp i y hi').2⟩
    obtain ⟨x, hx⟩ : ∃ x, l[0]? = some x := ⟨_, List.getElem?_eq_getElem hp⟩
    have h0 := (hlp 0 x hx).1
    obtain ⟨ab, ao, asp⟩ := a
    have hs : asp = none ∧ ab < w.heap.size := by
      unfold World.cell? at h0
      simp only [Addr.add, Nat.add_zero] at h0
      have hz : ab < w.heap.size := by
        apply Classical.byContradiction
        intro hn
        have : w.heap[ab]? = none := by simp; omega
        simp [this] at h0
      refine ⟨?_, hz⟩
      cases asp with
      | none => rfl
      | some s =>
        exfalso
        revert h0
        simp
        split <;> simp
    obtain ⟨rfl, hz⟩ := hs
    refine ⟨ab, ao, rfl, hz, fun i x hx => ?_⟩
    have := (hlp i x hx).1
    rwa [addN] at this

end
abbrev BV := Bun × Value
def flatU (us : List BV) : List Value := us.flatMap fun r => bunC r.1 r.2
theorem flatU_len : ∀ us : List BV, (flatU us).length = us.length * 12
  | [] => rfl
  | r :: s => by
    have := flatU_len s
    unfold flatU at this ⊢
    rw [List.flatMap_cons, List.length_append, this, bunC_len, List.length_cons]
    omega
theorem flatU_app (a b : List BV) : flatU (a ++ b) = flatU a ++ flatU b := by unfold flatU; rw [List.flatMap_append]
theorem flatU_split {us : List BV} {i : Nat} {r : BV} (h : us[i]? = some r) : flatU us = flatU (us.take i) ++ (bunC r.1 r.2 ++ flatU (us.drop (i + 1))) := by
  obtain ⟨hi, hx⟩ := List.getElem?_eq_some_iff.1 h
  have e : us = us.take i ++ r :: us.drop (i + 1) := by rw [← hx, List.getElem_cons_drop, List.take_append_drop]
  conv => lhs; rw [e]
  rw [flatU_app]
  rfl
theorem flatU_at {us : List BV} {i d : Nat} {r : BV} {v : Value} (h : us[i]? = some r) (hv : (bunC r.1 r.2)[d]? = some v) : (flatU us)[i * 12 + d]? = some v := by
  have hi := (List.getElem?_eq_some_iff.1 h).1
  have hd := (List.getElem?_eq_some_iff.1 hv).1
  rw [flatU_split h, List.getElem?_append_right (by rw [flatU_len, List.length_take]; omega), flatU_len, List.length_take, Nat.min_eq_left (by omega), Nat.add_sub_cancel_left, List.getElem?_append_left hd]
  exact hv
theorem flatU_one (us : List BV) (hs : ∀ r ∈ us, ∃ a n c, r.2 = .slice a n c) : ∀ v ∈ flatU us, v.oneCell' = true := fun v hv => by
  obtain ⟨r, hr, hv⟩ := List.mem_flatMap.1 hv
  obtain ⟨a, n, c, e⟩ := hs r hr
  rw [e] at hv
  simp only [bunC, List.mem_cons, List.mem_nil_iff, or_false] at hv
  rcases hv with rfl | rfl | rfl | rfl | rfl | rfl | rfl | rfl | rfl | rfl | rfl | rfl <;> rfl
/-- stores behind each other, in a list -/
def setL : List Value → Nat → List Value → List Value
  | xs, _, [] => xs
  | xs, o, v :: r => setL (xs.set o v) (o + 1) r
theorem setL_mid (C : List Value) : ∀ (vs A B : List Value), B.length = vs.length → setL (A ++ (B ++ C)) A.length vs = A ++ (vs ++ C)
  | [], A, B, h => by
    rw [List.eq_nil_of_length_eq_zero h]
    rfl
  | v :: r, A, B, h => by
    match B, h with
    | x :: B', h =>
      have ih := setL_mid C r (A ++ [v]) B' (by simpa using h)
      unfold setL
      rw [List.cons_append, List.set_append_right _ _ (Nat.le_refl _), Nat.sub_self, List.set_cons_zero]
      simpa using ih
theorem flatU_set {us : List BV} {i : Nat} {r s : BV} (h : us[i]? = some r) : setL (flatU us) (i * 12) (bunC s.1 s.2) = flatU (us.set i s) := by
  have hi := (List.getElem?_eq_some_iff.1 h).1
  have hl : (flatU (us.take i)).length = i * 12 := by rw [flatU_len, List.length_take]; omega
  have e2 : us.set i s = us.take i ++ s :: us.drop (i + 1) := by rw [List.set_eq_take_append_cons_drop, if_pos hi]
  rw [flatU_split h, e2, flatU_app]
  have := setL_mid (flatU (us.drop (i + 1))) (bunC s.1 s.2) (flatU (us.take i)) (bunC r.1 r.2) (by rw [bunC_len, bunC_len])
  rw [hl] at this
  rw [this]
  rfl
theorem own_setCells {base : Nat} {e : TypeId} {size g n cap : Nat} : ∀ (vs : List Value) (o : Nat) (w : World) (xs : List Value), w.ownsRow base e size (.slice (some ⟨g, 0, none⟩) n cap) n xs → (w.setCells g o vs).ownsRow base e size (.slice (some ⟨g, 0, none⟩) n cap) n (setL xs o vs)
  | [], o, w, xs, h => h
  | v :: r, o, w, xs, h => by
    rw [World.setCells]
    exact own_setCells r (o + 1) _ _ (h.stored o v).1
/-- a row of bundles of one's own, whose blocks are older -/
def OwnBV (w : World) (base N : Nat) (v : Value) (us : List BV) : Prop := w.ownsRow base 28 12 v us.length (flatU us) ∧ ∀ r ∈ us, RBlks w N r.2 r.1.blocks
theorem OwnBV.buns {w : World} {base N : Nat} {v : Value} {us : List BV} (h : OwnBV w base N v us) (hN : N ≤ w.heap.size) : RBuns w w.heap.size v (us.map (·.1)) := RBuns.of_own h.1 (fun r hr => (h.2 r hr).wide hN)
theorem OwnBV.below {w w' : World} {base N : Nat} {v : Value} {us : List BV} (h : OwnBV w base N v us) (k : Below w.heap.size w w') (hN : N ≤ w.heap.size) : OwnBV w' base N v us := by
  refine ⟨⟨h.1.1, ?_⟩, fun r hr => (h.2 r hr).below k hN (Nat.le_refl _)⟩
  rcases h.1.2 with ⟨e1, e2⟩ | ⟨g, cap, cur, e1, e2, e3, e4⟩
  · exact .inl ⟨e1, e2⟩
  · exact .inr ⟨g, cap, cur, e1, e2, (k.block _ (Array.getElem?_eq_some_iff.1 e3).1).trans e3, e4⟩
theorem OwnBV.store {w : World} {base N g n cap i : Nat} {us : List BV} {r s : BV} (h : OwnBV w base N (.slice (some ⟨g, 0, none⟩) n cap) us) (hn : us.length = n) (hi : us[i]? = some r) (hs : RBlks w N s.2 s.1.blocks) (hN : N ≤ g) :
    OwnBV (w.setCells g (i * 12) (bunC s.1 s.2)) base N (.slice (some ⟨g, 0, none⟩) n cap) (us.set i s) := by
  subst hn
  have hk : ∀ b o, b < N → (w.setCells g (i * 12) (bunC s.1 s.2)).cell? ⟨b, o, none⟩ = w.cell? ⟨b, o, none⟩ := fun b o hb => World.cell?_of_block (setCells_other g b (by omega) _ _ _)
  refine ⟨?_, fun t ht => ?_⟩
  · have := own_setCells (bunC s.1 s.2) (i * 12) w _ h.1
    rw [flatU_set hi] at this
    rw [List.length_set]
    exact this
  · rcases List.mem_or_eq_of_mem_set ht with ht | rfl
    · exact (h.2 t ht).keep hk (Nat.le_refl _)
    · exact hs.keep hk (Nat.le_refl _)
theorem OwnBV.cell {w : World} {base N g n cap i d : Nat} {us : List BV} {r : BV} {v : Value} (h : OwnBV w base N (.slice (some ⟨g, 0, none⟩) n cap) us) (hn : us.length = n) (hi : us[i]? = some r) (hv : (bunC r.1 r.2)[d]? = some v) : w.cell? ⟨g, i * 12 + d, none⟩ = some v := by
  subst hn
  have h1 := (List.getElem?_eq_some_iff.1 hi).1
  have h2 := (List.getElem?_eq_some_iff.1 hv).1
  rw [bunC_len] at h2
  rw [h.1.cellAt _ (by omega)]
  exact flatU_at hi hv
theorem OwnBV.there {w : World} {base N g n cap i : Nat} {us : List BV} {r : BV} (h : OwnBV w base N (.slice (some ⟨g, 0, none⟩) n cap) us) (hn : us.length = n) (hi : us[i]? = some r) : w.there g (i * 12) 12 := fun j hj => by
  obtain ⟨v, hv⟩ : ∃ v, (bunC r.1 r.2)[j]? = some v := ⟨_, List.getElem?_eq_getElem (by rw [bunC_len]; exact hj)⟩
  refine ⟨by rw [h.cell hn hi hv]; rfl, ?_⟩
  subst hn
  exact h.1.frozenAt _
theorem mod_nat (x : Int) {n : Nat} (h : 0 < n) : ∃ j : Nat, x % (n : Int) = (j : Int) ∧ j < n := by
  have h1 := Int.emod_nonneg x (b := (n : Int)) (by omega)
  have h2 := Int.emod_lt_of_pos x (b := (n : Int)) (by omega)
  obtain ⟨j, hj⟩ := Int.eq_ofNat_of_zero_le h1
  exact ⟨j, hj, by rw [hj] at h2; omega⟩
theorem mem_swap {α : Type} {l : List α} {j k : Nat} {A B : α} (hj : l[j]? = some A) (hk : l[k]? = some B) (x : α) : x ∈ (l.set j B).set k A ↔ x ∈ l := by
  have h1 := (List.getElem?_eq_some_iff.1 hj).1
  have h2 := (List.getElem?_eq_some_iff.1 hk).1
  constructor
  · intro h
    rcases List.mem_or_eq_of_mem_set h with h | rfl
    · rcases List.mem_or_eq_of_mem_set h with h | rfl
      · exact h
      · exact List.mem_of_getElem? hk
    · exact List.mem_of_getElem? hj
  · intro h
    obtain ⟨i, hi⟩ := List.getElem?_of_mem h
    by_cases c1 : i = k
    · subst c1
      rw [hk] at hi
      cases hi
      by_cases c2 : j = i
      · subst c2
        rw [hj] at hk
        cases hk
        exact List.mem_of_getElem? (i := j) (by rw [List.getElem?_set_self (by rw [List.length_set]; exact h1)])
      · exact List.mem_of_getElem? (i := j) (by rw [List.getElem?_set_ne (Ne.symm c2), List.getElem?_set_self h1])
    · by_cases c2 : i = j
      · subst c2
        rw [hj] at hi
        cases hi
        exact List.mem_of_getElem? (i := k) (by rw [List.getElem?_set_self (by rw [List.length_set]; exact h2)])
      · exact List.mem_of_getElem? (i := i) (by rw [List.getElem?_set_ne (Ne.symm c1), List.getElem?_set_ne (Ne.symm c2), hi])
theorem runs_open {w : World} {N bb : Nat} : ∀ {l : List Bun} {o : Nat}, (∀ (i : Nat) (x : Bun), l[i]? = some x → CBun w N bb (o + i * 12) x) → ∃ us : List BV, us.map (·.1) = l ∧ (∀ r ∈ us, RBlks w N r.2 r.1.blocks) ∧ ∀ j u, (flatU us)[j]? = some u → w.cell? ⟨bb, o + j, none⟩ = some u
  | [], o, _ => ⟨[], rfl, (fun r hr => by cases hr), (fun j u hu => by simp [flatU] at hu)⟩
  | x :: s, o, h => by
    obtain ⟨ux, cx, rx⟩ := h 0 x rfl
    obtain ⟨us, e1, e2, e3⟩ := runs_open (l := s) (o := o + 12) (fun i y hy => by
      have := h (i + 1) y (by simpa using hy)
      rw [show o + (i + 1) * 12 = o + 12 + i * 12 by omega] at this
      exact this)
    refine ⟨(x, ux) :: us, by simp [e1], fun r hr => ?_, fun j u hu => ?_⟩
    · rcases List.mem_cons.1 hr with rfl | hr
      · exact rx
      · exact e2 r hr
    · have e : flatU ((x, ux) :: us) = bunC x ux ++ flatU us := rfl
      have hbl : (bunC x ux).length = 12 := rfl
      rw [e] at hu
      rcases Nat.lt_or_ge j 12 with z | z
      · rw [List.getElem?_append_left (by rw [hbl]; exact z)] at hu
        have := cx j u hu
        simpa using this
      · rw [List.getElem?_append_right (by rw [hbl]; exact z), hbl] at hu
        have := e3 _ _ hu
        rw [show o + 12 + (j - 12) = o + j by omega] at this
        exact this
theorem runs_slices {w : World} {N : Nat} {us : List BV} (h : ∀ r ∈ us, RBlks w N r.2 r.1.blocks) : ∀ r ∈ us, ∃ a n c, r.2 = .slice a n c := fun r hr => by
  obtain ⟨a, c, e, _⟩ := h r hr
  exact ⟨a, _, c, e⟩
theorem infoBun : (Try.prog.info? 28).map (fun i => (i.zero, i.size, i.bytes)) = some (some (.agg #[.int .i64 0, .int .i64 0, .int .i64 0, .int .i64 0, .int .i64 0, .int .i64 0, .int .i64 0, .int .i64 0, .int .i64 0, .int .i64 0, .slice none 0 0, .string ⟨#[]⟩]), 12, 120) := by kernel_rfl
def ClonePostB (l : List Bun) (N : Nat) (w : World) (e : Ending) (w' : World) : Prop := ∃ g cap us, e = .returned (.slice (some ⟨g, 0, none⟩) l.length cap) ∧ us.map (·.1) = l ∧ w.heap.size ≤ g ∧ OwnBV w' w.heap.size N (.slice (some ⟨g, 0, none⟩) l.length cap) us ∧ Below w.heap.size w w'
set_option maxRecDepth 100000 in
set_option maxHeartbeats 2000000 in
theorem clone_buns (l : List Bun) (u : Value) (w : World) (h : RBuns w w.heap.size u l) (h0 : 0 < l.length) (hl : l.length ≤ 1000) :
    Calls Try.prog 28 #[u] w (ClonePostB l w.heap.size w) := by
  obtain ⟨a, c, rfl, h1, h2, h3, h4⟩ := h
  obtain ⟨bb, o, rfl, hbn, hcell⟩ := h4 h0
  obtain ⟨us, e1, e2, e3⟩ := runs_open hcell
  have hul : us.length = l.length := by rw [← e1, List.length_map]
  have hq : ∀ W : World, (binOp .eql 50 (.slice (some ⟨bb, o, none⟩) l.length c) (.slice none 0 0)).run Try.prog W = .ok (.bool false) W := fun W => Lib.run_eql_slice_nil W _ _ (some _) _ _ _ _ Try.underlying50
  obtain ⟨i0, hi, hz0, hz1, hz2⟩ := info_parts infoBun
  have hn : ∀ j u, (flatU us)[j]? = some u → (w.alloc (.cells #[] 28)).cell? ((⟨bb, o, none⟩ : Addr).add j) = some u := by
    intro j u hu
    rw [← e3 j u hu, addN]
    exact World.cell?_alloc_lt _ _ _ (by simpa using hbn)
  have hown : (w.alloc (.cells #[] 28)).ownsRow w.heap.size 28 12 (.slice (some ⟨w.heap.size, 0, none⟩) 0 0) 0 [] := World.ownsRow_made w #[] 0 (Nat.le_refl _) (by simp) rfl
  have HN := Lib.hid hn
  have HO1 := Lib.hid (flatU_one us (runs_slices e2))
  have HFL : Hid ((flatU us).length = l.length * 12) := Lib.hid (by rw [flatU_len, hul])
  have HE1 := Lib.hid e1
  have HE2 := Lib.hid e2
  have HUL := Lib.hid hul
  have hlm : l.length ≤ 1000 := hl
  clear hn h1 h2 h3 h4 hcell e1 e2 e3 hul
  go_enter Try.func28, Try.ntmps28
  go_wp2_with (at_builtin; refine wpList_append_own_at _ rfl _ _ _ rfl w.heap.size 28 i0 _ 12 120 Try.underlying50 hi hz0 hz1 hz2 rfl (by omega) _ _ _ rfl hown ⟨bb, o, none⟩ l.length c (flatU us) rfl HFL.out HN.out HO1.out (by simp only [maxLen]; omega) (by omega) (by simp) ?_; intro v' w1 hown1 hg1 _ hat)
  go_ret
  have hb1 : Below w.heap.size w w1 := ((Below.refl _ _).alloc (Nat.le_refl _) _).grown hg1 (by simp) (fun k hk => by have : w.heap.size = k := Option.some.inj hk; omega)
  simp only [Nat.zero_add, List.nil_append] at hown1
  have hown2 := hown1
  obtain ⟨_, hh⟩ := hown2
  rcases hh with ⟨_, hz⟩ | ⟨g, cap, cur, rfl, hbg, _⟩
  · omega
  · refine ⟨g, cap, us, rfl, HE1.out, hbg, ⟨by rw [HUL.out]; exact hown1, fun r hr => (HE2.out r hr).below hb1 (Nat.le_refl _) (Nat.le_refl _)⟩, hb1⟩
end Go.Proofs.Ytpnfkmlgelcbgaa
