/- labels: plain. -/
import Derived.Test.YtkokiahmgmeokaaGreatKfc
import Derived.Test.YtkokiahmgmeokaaGreatKfg
set_option linter.unusedVariables false
set_option linter.unusedSimpArgs false
namespace Go.Proofs.YtkokiahmgmeokaaGreat
open Go Go.RowKit Iv
attribute [local go_sem] Oper.semAt_some
attribute [local go_sem] B_getElem B_size B_app B_extract B_get B_toList
theorem nodup_sub_len {α : Type} [DecidableEq α] : ∀ (a b : List α), a.Nodup → (∀ x ∈ a, x ∈ b) → a.length ≤ b.length
  | [], b, _, _ => Nat.zero_le _
  | x :: a, b, hn, hs => by
    have hx := hs x (by simp)
    obtain ⟨h1, h2⟩ := List.nodup_cons.1 hn
    have := nodup_sub_len a (b.erase x) h2 (fun y hy => (List.mem_erase_of_ne (fun e => h1 (by rw [← e]; exact hy))).2 (hs y (by simp [hy])))
    rw [List.length_erase_of_mem hx] at this
    have : 0 < b.length := List.length_pos_of_mem hx
    simp only [List.length_cons]
    omega
def keyL (x : Lbl) : Int × Int := (x.nd, x.fr)
theorem sameL_iff {x y : Lbl} : sameL x y = true ↔ keyL x = keyL y := by unfold sameL keyL; simp
/-- a label of a room -/
def VL (g : Gp) (x : Lbl) : Prop := ∃ n : Nat, x.nd = n ∧ n < g.R.length ∧ (x.fr, x.tt) ∈ g.R.getD n [] ∧ 0 ≤ x.tm ∧ x.tm ≤ g.D
def rowU (R : List (List Sp)) (n : Nat) : List (Int × Int) := (R.getD n []).map fun s => ((n : Int), s.1)
def univ (g : Gp) : List (Int × Int) := (List.range g.R.length).flatMap (rowU g.R)
theorem VL.univ {g : Gp} {x : Lbl} (h : VL g x) : keyL x ∈ univ g := by
  obtain ⟨n, h1, h2, h3, _⟩ := h
  unfold Go.Proofs.YtkokiahmgmeokaaGreat.univ
  rw [List.mem_flatMap]
  refine ⟨n, List.mem_range.2 h2, ?_⟩
  unfold rowU
  rw [List.mem_map]
  exact ⟨_, h3, by unfold keyL; rw [h1]⟩
theorem flatMap_len_le {α β : Type} (f : α → List β) (b : Nat) : ∀ l : List α, (∀ x ∈ l, (f x).length ≤ b) → (l.flatMap f).length ≤ l.length * b
  | [], _ => by simp
  | x :: l, h => by
    have h1 := flatMap_len_le f b l (fun y hy => h y (by simp [hy]))
    have h2 := h x (by simp)
    rw [List.flatMap_cons, List.length_append, List.length_cons, Nat.succ_mul]
    omega
theorem roomsP_len {g : Gp} (hg : GOK g) (n : Nat) : (roomsP g n).length ≤ 1100 := by
  unfold roomsP
  split
  · simp
  · rw [List.getD_eq_getElem?_getD]
    cases h : g.R[n]? with
    | none => simp
    | some l => exact (hg.rs l (List.mem_of_getElem? h)).1
theorem univ_len {g : Gp} (hg : GOK g) : (univ g).length ≤ 17600 := by
  have h := flatMap_len_le (rowU g.R) 1100 (List.range g.R.length) (fun n hn => by
    have hl := List.mem_range.1 hn
    unfold rowU
    rw [List.length_map, List.getD_eq_getElem?_getD, List.getElem?_eq_getElem hl]
    exact (hg.rs _ (List.getElem_mem hl)).1)
  rw [List.length_range] at h
  have := hg.r16
  unfold univ
  omega
theorem movesL_len {g : Gp} (hg : GOK g) (x : Lbl) : (movesL g x).length ≤ 70400 := by
  have h := flatMap_len_le (movesI g x) 1100 (List.range g.cs.length) (fun i _ => by
    unfold movesI
    split
    · exact Nat.le_trans (List.length_filterMap_le _ _) (roomsP_len hg _)
    · simp)
  rw [List.length_range] at h
  have := hg.c64
  unfold movesL movesP
  omega
/-- what a move is -/
theorem moves_mem {g : Gp} {x : Lbl} {m : Mv} (hm : m ∈ movesL g x) : ∃ (i : Nat) (r : Sp), i < g.cs.length ∧ (conA g i).fr = x.nd ∧ r ∈ roomsA g i ∧ moveOf g x i r = some m := by
  unfold movesL movesP at hm
  obtain ⟨i, hi, h⟩ := List.mem_flatMap.1 hm
  unfold movesI at h
  split at h
  · rename_i hf
    obtain ⟨r, hr, hm⟩ := List.mem_filterMap.1 h
    exact ⟨i, r, List.mem_range.1 hi, hf, hr, hm⟩
  · cases h
theorem mem_moves {g : Gp} {x : Lbl} {m : Mv} {i : Nat} {r : Sp} (hi : i < g.cs.length) (hf : (conA g i).fr = x.nd) (hr : r ∈ roomsA g i) (h : moveOf g x i r = some m) : m ∈ movesL g x := by
  unfold movesL movesP
  refine List.mem_flatMap.2 ⟨i, List.mem_range.2 hi, ?_⟩
  unfold movesI
  rw [if_pos hf]
  exact List.mem_filterMap.2 ⟨r, hr, h⟩
/-- the parts of a move -/
theorem moveOf_some {g : Gp} {x : Lbl} {i : Nat} {r : Sp} {m : Mv} (h : moveOf g x i r = some m) : ∃ b, hopG (gapA g i) (durA g i) (max x.tm r.1) = some b ∧ mvOK g x (conA g i) r (b + durA g i) (b + durA g i + (conA g i).rg) ∧ m.1 = ⟨(conA g i).tt, r.1, r.2, b + durA g i + (conA g i).rg⟩ := by
  unfold moveOf at h
  cases hb : hopG (gapA g i) (durA g i) (max x.tm r.1) with
  | none => rw [hb] at h; cases h
  | some b =>
    rw [hb] at h
    simp only at h
    split at h
    · rename_i hk
      injection h with h
      exact ⟨b, rfl, hk, by rw [← h]⟩
    · cases h
theorem conA_mem {g : Gp} {i : Nat} (hi : i < g.cs.length) : conA g i ∈ g.cs := by
  unfold conA
  rw [List.getD_eq_getElem?_getD, List.getElem?_eq_getElem hi]
  exact List.getElem_mem hi
theorem durA_mem {g : Gp} (hg : GOK g) {i : Nat} (hi : i < g.cs.length) : durA g i ∈ g.Ds := by
  unfold durA
  rw [List.getD_eq_getElem?_getD, List.getElem?_eq_getElem (by rw [hg.dl]; exact hi)]
  exact List.getElem_mem _
theorem move_facts {g : Gp} (hg : GOK g) {x : Lbl} {m : Mv} (hm : m ∈ movesL g x) : x.tm < m.1.tm ∧ m.1.tm ≤ g.D ∧ (m.1.nd ≠ g.dst → 0 ≤ x.tm → VL g m.1) := by
  obtain ⟨i, r, hi, hf, hr, h⟩ := moves_mem hm
  obtain ⟨b, hb, hk, e⟩ := moveOf_some h
  obtain ⟨s, _, e2, _⟩ := hopG_some hb
  have hd := hg.ds _ (durA_mem hg hi)
  have hc := hg.con _ (conA_mem hi)
  have hcf := con_facts hc.1
  have hrg := hcf.rg0
  have htt := hcf.tt0
  rw [e]
  refine ⟨by show x.tm < b + durA g i + (conA g i).rg; omega, hk.2.1, fun hne h0 => ?_⟩
  obtain ⟨t, ht⟩ := Int.eq_ofNat_of_zero_le htt
  refine ⟨t, ht, by have := hc.2.2; omega, ?_, by show 0 ≤ b + durA g i + (conA g i).rg; omega, hk.2.1⟩
  have : roomsA g i = g.R.getD t [] := by
    unfold roomsA roomsP
    rw [ht, Int.toNat_natCast, if_neg (by rw [← ht]; exact hne)]
  rw [← this]
  exact hr
/-- the labels with which the search begins -/
def SrcL (g : Gp) (x : Lbl) : Prop := x.nd = g.src ∧ x.tm = g.rd ∧ x.fr ≤ g.rd ∧ g.rd < x.tt ∧ (x.fr, x.tt) ∈ g.R.getD g.src.toNat []
/-- where the search stands: D done, O open -/
structure LI (g : Gp) (D O : List Lbl) : Prop where
  nod : (D.map keyL).Nodup
  vd : ∀ x ∈ D, VL g x
  vo : ∀ x ∈ O, VL g x
  dis : ∀ x ∈ O, ∀ y ∈ D, keyL x ≠ keyL y
  sup : ∀ x, x ∈ D ∨ x ∈ O → SrcL g x ∨ ∃ y ∈ D, ∃ m ∈ movesL g y, m.1 = x ∧ m.1.nd ≠ g.dst
  beg : ∀ r ∈ g.R.getD g.src.toNat [], r.1 ≤ g.rd → g.rd < r.2 → ∃ y, (y ∈ D ∨ y ∈ O) ∧ keyL y = (g.src, r.1) ∧ y.tm ≤ g.rd
  cls : ∀ x ∈ D, ∀ m ∈ movesL g x, m.1.nd ≠ g.dst → ∃ y, (y ∈ D ∨ y ∈ O) ∧ keyL y = keyL m.1 ∧ y.tm ≤ m.1.tm
  ord : ∀ x ∈ D, ∀ y ∈ O, x.tm ≤ y.tm
  len : O.length ≤ (D.length + 1) * 70400
theorem LI.dlen {g : Gp} (hg : GOK g) {D O : List Lbl} (h : LI g D O) : D.length ≤ (univ g).length := by
  have := nodup_sub_len _ (univ g) h.nod (fun k hk => by
    obtain ⟨x, hx, rfl⟩ := List.mem_map.1 hk
    exact (h.vd x hx).univ)
  simpa using this
theorem LI.dlen' {g : Gp} (hg : GOK g) {D O : List Lbl} (h : LI g D O) (hp : 0 < O.length) : D.length < (univ g).length := by
  obtain ⟨x, hx⟩ : ∃ x, x ∈ O := ⟨O[0], List.getElem_mem hp⟩
  have := nodup_sub_len ((x :: D).map keyL) (univ g) (by
    rw [List.map_cons]
    refine List.nodup_cons.2 ⟨fun hm => ?_, h.nod⟩
    obtain ⟨y, hy, e⟩ := List.mem_map.1 hm
    exact h.dis x hx y hy e.symm) (fun k hk => by
    obtain ⟨y, hy, rfl⟩ := List.mem_map.1 hk
    rcases List.mem_cons.1 hy with rfl | hy
    · exact (h.vo _ hx).univ
    · exact (h.vd y hy).univ)
  simp at this
  omega
theorem LI.olen {g : Gp} (hg : GOK g) {D O : List Lbl} (h : LI g D O) : O.length ≤ 2000000000 := by
  have h1 := h.dlen hg
  have h2 := univ_len hg
  have h3 := h.len
  have : (D.length + 1) * 70400 ≤ 17601 * 70400 := Nat.mul_le_mul_right _ (by omega)
  omega
/-- of the moves those which the round appends -/
def newB (g : Gp) (D : List Lbl) (m : Mv) : Bool := (m.1.nd != g.dst) && !(D.any (fun y => sameL m.1 y))
def newL (g : Gp) (D : List Lbl) (ms : List Mv) : List Lbl := (ms.filter (newB g D)).map (·.1)
theorem newL_snoc (g : Gp) (D : List Lbl) (ms : List Mv) (m : Mv) : newL g D (ms ++ [m]) = if newB g D m then newL g D ms ++ [m.1] else newL g D ms := by
  unfold newL
  rw [List.filter_append, List.map_append]
  cases h : newB g D m <;> simp [h]
theorem newB_iff {g : Gp} {D : List Lbl} {m : Mv} : newB g D m = true ↔ m.1.nd ≠ g.dst ∧ ∀ y ∈ D, keyL m.1 ≠ keyL y := by
  unfold newB
  rw [Bool.and_eq_true, bne_iff_ne, Bool.not_eq_true', List.any_eq_false]
  refine and_congr Iff.rfl (forall_congr' fun y => forall_congr' fun _ => ?_)
  rw [sameL_iff]
theorem LI.step {g : Gp} (hg : GOK g) {D O : List Lbl} (h : LI g D O) {x : Lbl} (hx : x ∈ O) (hmin : ∀ y ∈ O, x.tm ≤ y.tm) : LI g (D ++ [x]) (O.filter (fun y => !sameL x y) ++ newL g (D ++ [x]) (movesL g x)) := by
  obtain ⟨nod, vd, vo, dis, sup, beg, cls, ord, len⟩ := h
  have hnew : ∀ z, z ∈ newL g (D ++ [x]) (movesL g x) ↔ ∃ m ∈ movesL g x, m.1 = z ∧ m.1.nd ≠ g.dst ∧ ∀ y ∈ D ++ [x], keyL m.1 ≠ keyL y := by
    intro z
    unfold newL
    rw [List.mem_map]
    constructor
    · rintro ⟨m, hm, rfl⟩
      obtain ⟨h1, h2⟩ := List.mem_filter.1 hm
      obtain ⟨h3, h4⟩ := newB_iff.1 h2
      exact ⟨m, h1, rfl, h3, h4⟩
    · rintro ⟨m, h1, rfl, h3, h4⟩
      exact ⟨m, List.mem_filter.2 ⟨h1, newB_iff.2 ⟨h3, h4⟩⟩, rfl⟩
  have hfil : ∀ z, z ∈ O.filter (fun y => !sameL x y) ↔ z ∈ O ∧ keyL x ≠ keyL z := by
    intro z
    rw [List.mem_filter, Bool.not_eq_true']
    refine and_congr Iff.rfl ?_
    rw [← Bool.not_eq_true, sameL_iff]
  have hxv := vo x hx
  have h0 : 0 ≤ x.tm := by obtain ⟨n, _, _, _, h, _⟩ := hxv; exact h
  -- a label of the old row of open ones is covered
  have hcov : ∀ y, y ∈ D ∨ y ∈ O → ∃ z, (z ∈ D ++ [x] ∨ z ∈ O.filter (fun y => !sameL x y) ++ newL g (D ++ [x]) (movesL g x)) ∧ keyL z = keyL y ∧ z.tm ≤ y.tm := by
    rintro y (hy | hy)
    · exact ⟨y, .inl (by simp [hy]), rfl, Int.le_refl _⟩
    · by_cases e : keyL x = keyL y
      · exact ⟨x, .inl (by simp), e, hmin y hy⟩
      · exact ⟨y, .inr (List.mem_append.2 (.inl ((hfil y).2 ⟨hy, e⟩))), rfl, Int.le_refl _⟩
  refine ⟨?_, ?_, ?_, ?_, ?_, ?_, ?_, ?_, ?_⟩
  · rw [List.map_append, List.nodup_append]
    refine ⟨nod, by simp, fun a ha b hb e => ?_⟩
    obtain ⟨y, hy, rfl⟩ := List.mem_map.1 ha
    simp at hb
    subst hb
    exact dis x hx y hy e.symm
  · intro y hy
    rcases List.mem_append.1 hy with hy | hy
    · exact vd y hy
    · rw [List.mem_singleton.1 hy]; exact hxv
  · intro y hy
    rcases List.mem_append.1 hy with hy | hy
    · exact vo y ((hfil y).1 hy).1
    · obtain ⟨m, hm, rfl, hne, _⟩ := (hnew y).1 hy
      exact (move_facts hg hm).2.2 hne h0
  · intro y hy z hz
    rcases List.mem_append.1 hy with hy | hy
    · obtain ⟨h1, h2⟩ := (hfil y).1 hy
      rcases List.mem_append.1 hz with hz | hz
      · exact dis y h1 z hz
      · rw [List.mem_singleton.1 hz]; exact fun e => h2 e.symm
    · obtain ⟨m, hm, rfl, _, h2⟩ := (hnew y).1 hy
      exact h2 z hz
  · intro y hy
    have hold : ∀ y, y ∈ D ∨ y ∈ O → SrcL g y ∨ ∃ z ∈ D ++ [x], ∃ m ∈ movesL g z, m.1 = y ∧ m.1.nd ≠ g.dst := fun y hy => by
      rcases sup y hy with h | ⟨z, hz, m, hm⟩
      · exact .inl h
      · exact .inr ⟨z, by simp [hz], m, hm⟩
    rcases hy with hy | hy
    · rcases List.mem_append.1 hy with hy | hy
      · exact hold y (.inl hy)
      · rw [List.mem_singleton.1 hy]; exact hold x (.inr hx)
    · rcases List.mem_append.1 hy with hy | hy
      · exact hold y (.inr ((hfil y).1 hy).1)
      · obtain ⟨m, hm, e, hne, _⟩ := (hnew y).1 hy
        exact .inr ⟨x, by simp, m, hm, e, hne⟩
  · intro r hr h1 h2
    obtain ⟨y, hy, e, ht⟩ := beg r hr h1 h2
    obtain ⟨z, hz, e2, ht2⟩ := hcov y hy
    exact ⟨z, hz, e2.trans e, Int.le_trans ht2 ht⟩
  · intro y hy m hm hne
    rcases List.mem_append.1 hy with hy | hy
    · obtain ⟨z, hz, e, ht⟩ := cls y hy m hm hne
      obtain ⟨z2, hz2, e2, ht2⟩ := hcov z hz
      exact ⟨z2, hz2, e2.trans e, Int.le_trans ht2 ht⟩
    · rw [List.mem_singleton.1 hy] at hm
      by_cases hk : ∀ z ∈ D ++ [x], keyL m.1 ≠ keyL z
      · exact ⟨m.1, .inr (List.mem_append.2 (.inr ((hnew m.1).2 ⟨m, hm, rfl, hne, hk⟩))), rfl, Int.le_refl _⟩
      · obtain ⟨z, hk⟩ := Classical.not_forall.1 hk
        obtain ⟨hz, hk⟩ := Classical.not_imp.1 hk
        have e := Classical.not_not.1 hk
        have ht : z.tm ≤ x.tm := by
          rcases List.mem_append.1 hz with hz | hz
          · exact ord z hz x hx
          · rw [List.mem_singleton.1 hz]; exact Int.le_refl _
        have := (move_facts hg hm).1
        exact ⟨z, .inl hz, e.symm, by omega⟩
  · intro y hy z hz
    have hyx : y.tm ≤ x.tm := by
      rcases List.mem_append.1 hy with hy | hy
      · exact ord y hy x hx
      · rw [List.mem_singleton.1 hy]; exact Int.le_refl _
    rcases List.mem_append.1 hz with hz | hz
    · exact Int.le_trans hyx (hmin z ((hfil z).1 hz).1)
    · obtain ⟨m, hm, rfl, _⟩ := (hnew z).1 hz
      have := (move_facts hg hm).1
      omega
  · rw [List.length_append, List.length_append]
    have h1 : (O.filter (fun y => !sameL x y)).length ≤ O.length := List.length_filter_le _ _
    have h2 : (newL g (D ++ [x]) (movesL g x)).length ≤ (movesL g x).length := by
      unfold newL
      rw [List.length_map]
      exact List.length_filter_le _ _
    have h3 := movesL_len hg x
    simp only [List.length_singleton]
    have h4 : (D.length + 1 + 1) * 70400 = (D.length + 1) * 70400 + 70400 := by omega
    omega
/-- what labels answers, as a set -/
structure LabOK (g : Gp) (D : List Lbl) : Prop where
  vd : ∀ x ∈ D, VL g x
  sup : ∀ x ∈ D, SrcL g x ∨ ∃ y ∈ D, ∃ m ∈ movesL g y, m.1 = x ∧ m.1.nd ≠ g.dst
  beg : ∀ r ∈ g.R.getD g.src.toNat [], r.1 ≤ g.rd → g.rd < r.2 → ∃ y ∈ D, keyL y = (g.src, r.1) ∧ y.tm ≤ g.rd
  cls : ∀ x ∈ D, ∀ m ∈ movesL g x, m.1.nd ≠ g.dst → ∃ y ∈ D, keyL y = keyL m.1 ∧ y.tm ≤ m.1.tm
theorem LI.done {g : Gp} {D : List Lbl} (h : LI g D []) : LabOK g D := by
  refine ⟨h.vd, fun x hx => h.sup x (.inl hx), fun r hr h1 h2 => ?_, fun x hx m hm hne => ?_⟩
  · obtain ⟨y, hy, e⟩ := h.beg r hr h1 h2
    exact ⟨y, hy.elim id (fun h => by cases h), e⟩
  · obtain ⟨y, hy, e⟩ := h.cls x hx m hm hne
    exact ⟨y, hy.elim id (fun h => by cases h), e⟩
theorem LabOK.perm {g : Gp} {D D' : List Lbl} (h : LabOK g D) (hp : ∀ x, x ∈ D' ↔ x ∈ D) : LabOK g D' := by
  obtain ⟨h1, h2, h3, h4⟩ := h
  refine ⟨fun x hx => h1 x ((hp x).1 hx), fun x hx => ?_, fun r hr a b => ?_, fun x hx m hm hne => ?_⟩
  · rcases h2 x ((hp x).1 hx) with h | ⟨y, hy, h⟩
    · exact .inl h
    · exact .inr ⟨y, (hp y).2 hy, h⟩
  · obtain ⟨y, hy, e⟩ := h3 r hr a b
    exact ⟨y, (hp y).2 hy, e⟩
  · obtain ⟨y, hy, e⟩ := h4 x ((hp x).1 hx) m hm hne
    exact ⟨y, (hp y).2 hy, e⟩
/-- the open labels at the start -/
def begB (g : Gp) (r : Sp) : Bool := decide (r.1 ≤ g.rd) && decide (g.rd < r.2)
def begL (g : Gp) (l : List Sp) : List Lbl := (l.filter (begB g)).map fun r => ⟨g.src, r.1, r.2, g.rd⟩
theorem begL_snoc (g : Gp) (l : List Sp) (r : Sp) : begL g (l ++ [r]) = if begB g r then begL g l ++ [⟨g.src, r.1, r.2, g.rd⟩] else begL g l := by
  unfold begL
  rw [List.filter_append, List.map_append]
  cases h : begB g r <;> simp [h]
theorem LI.start {g : Gp} (hg : GOK g) : LI g [] (begL g (g.R.getD g.src.toNat [])) := by
  have hmem : ∀ x, x ∈ begL g (g.R.getD g.src.toNat []) → ∃ r ∈ g.R.getD g.src.toNat [], r.1 ≤ g.rd ∧ g.rd < r.2 ∧ x = ⟨g.src, r.1, r.2, g.rd⟩ := by
    intro x hx
    unfold begL at hx
    obtain ⟨r, hr, rfl⟩ := List.mem_map.1 hx
    obtain ⟨h1, h2⟩ := List.mem_filter.1 hr
    unfold begB at h2
    rw [Bool.and_eq_true] at h2
    exact ⟨r, h1, of_decide_eq_true h2.1, of_decide_eq_true h2.2, rfl⟩
  obtain ⟨n, hn⟩ := Int.eq_ofNat_of_zero_le hg.s0.1
  have hnl : n < g.R.length := by have := hg.s0.2; omega
  refine ⟨List.nodup_nil, fun x h => (by cases h), fun x hx => ?_, fun x _ y h => (by cases h), fun x hx => ?_, fun r hr h1 h2 => ?_, fun x h => (by cases h), fun x h => (by cases h), ?_⟩
  · obtain ⟨r, hr, h1, h2, rfl⟩ := hmem x hx
    rw [hn, Int.toNat_natCast] at hr
    exact ⟨n, hn, hnl, hr, hg.r0.1, hg.r0.2⟩
  · rcases hx with h | hx
    · cases h
    · obtain ⟨r, hr, h1, h2, rfl⟩ := hmem x hx
      exact .inl ⟨rfl, rfl, h1, h2, hr⟩
  · refine ⟨⟨g.src, r.1, r.2, g.rd⟩, .inr ?_, rfl, Int.le_refl _⟩
    unfold begL
    refine List.mem_map.2 ⟨r, List.mem_filter.2 ⟨hr, ?_⟩, rfl⟩
    unfold begB
    rw [decide_eq_true h1, decide_eq_true h2]
    rfl
  · unfold begL
    rw [List.length_map]
    refine Nat.le_trans (List.length_filter_le _ _) ?_
    rw [hn, Int.toNat_natCast, List.getD_eq_getElem?_getD, List.getElem?_eq_getElem hnl]
    have := (hg.rs _ (List.getElem_mem hnl)).1
    show (g.R[n]).length ≤ _
    simp only [List.length_nil]
    omega
end Go.Proofs.YtkokiahmgmeokaaGreat
/- An earlier bundle arrives no later. -/
set_option linter.unusedVariables false
set_option linter.unusedSimpArgs false
namespace Go.Proofs.YtkokiahmgmeokaaGreat
open Go Go.RowKit Iv
attribute [local go_sem] Oper.semAt_some
attribute [local go_sem] B_getElem B_size B_app B_extract B_get B_toList
theorem fold_spec (g : Gp) : ∀ (ms : List Mv) (p : Int × Bool),
    ((ms.foldl (stepA g) p).2 = true ↔ p.2 = true ∨ ∃ m ∈ ms, m.1.nd = g.dst) ∧ ((ms.foldl (stepA g) p).2 = true → (p.2 = true ∧ (ms.foldl (stepA g) p).1 = p.1) ∨ ∃ m ∈ ms, m.1.nd = g.dst ∧ (ms.foldl (stepA g) p).1 = m.1.tm) ∧
    (∀ m ∈ ms, m.1.nd = g.dst → (ms.foldl (stepA g) p).1 ≤ m.1.tm) ∧ (p.2 = true → (ms.foldl (stepA g) p).1 ≤ p.1)
  | [], p => ⟨by simp, fun h => .inl ⟨h, rfl⟩, fun m h => (by cases h), fun _ => Int.le_refl _⟩
  | m :: ms, p => by
    obtain ⟨h1, h2, h3, h4⟩ := fold_spec g ms (stepA g p m)
    rw [List.foldl_cons]
    by_cases hm : m.1.nd = g.dst ∧ (p.2 = false ∨ m.1.tm < p.1)
    · have e : stepA g p m = (m.1.tm, true) := if_pos hm
      rw [e] at h1 h2 h3 h4 ⊢
      refine ⟨⟨fun _ => .inr ⟨m, by simp, hm.1⟩, fun _ => h1.2 (.inl rfl)⟩, fun h => ?_, fun m' hm' hd => ?_, fun hp => ?_⟩
      · rcases h2 h with h | ⟨m', hm', h⟩
        · exact .inr ⟨m, by simp, hm.1, h.2⟩
        · exact .inr ⟨m', by simp [hm'], h⟩
      · rcases List.mem_cons.1 hm' with rfl | hm'
        · exact h4 rfl
        · exact h3 m' hm' hd
      · have := h4 rfl
        rcases hm.2 with h | h
        · rw [hp] at h; cases h
        · simp only at this; omega
    · have e : stepA g p m = p := if_neg hm
      rw [e] at h1 h2 h3 h4 ⊢
      refine ⟨h1.trans ⟨fun h => h.elim .inl (fun ⟨m', hm', h⟩ => .inr ⟨m', by simp [hm'], h⟩), fun h => ?_⟩, fun h => ?_, fun m' hm' hd => ?_, h4⟩
      · rcases h with h | ⟨m', hm', h⟩
        · exact .inl h
        · rcases List.mem_cons.1 hm' with rfl | hm'
          · left
            cases hp : p.2 with
            | true => rfl
            | false => exact absurd ⟨h, .inl hp⟩ hm
          · exact .inr ⟨m', hm', h⟩
      · rcases h2 h with h | ⟨m', hm', h⟩
        · exact .inl h
        · exact .inr ⟨m', by simp [hm'], h⟩
      · rcases List.mem_cons.1 hm' with rfl | hm'
        · have hp : p.2 = true := by
            cases hp : p.2 with
            | true => rfl
            | false => exact absurd ⟨hd, .inl hp⟩ hm
          have h5 := h4 hp
          have h6 : ¬ m'.1.tm < p.1 := fun h => hm ⟨hd, .inr h⟩
          omega
        · exact h3 m' hm' hd
theorem hopG_mono {d f f' b' : Int} (hf : f ≤ f') : ∀ {l : List Sp}, l.Pairwise (fun x y => x.1 ≤ y.1) → hopG l d f' = some b' → ∃ b, hopG l d f = some b ∧ b ≤ b'
  | [], _, h => by cases h
  | x :: l, hs, h => by
    obtain ⟨s1, s2⟩ := List.pairwise_cons.1 hs
    unfold hopG at h ⊢
    by_cases hx : max x.1 f + d ≤ x.2
    · rw [if_pos hx]
      refine ⟨_, rfl, ?_⟩
      split at h
      · injection h with h; omega
      · obtain ⟨y, hy, e1, _⟩ := hopG_some h
        have := s1 y hy
        omega
    · rw [if_neg hx]
      rw [if_neg (by omega)] at h
      exact hopG_mono hf s2 h
/-- all rooms are the whole time -/
def Wide (g : Gp) : Prop := ∀ n, ∀ s ∈ g.R.getD n [], s = (0, 1099511627776)
def Gsort (g : Gp) : Prop := ∀ l ∈ g.G, l.Pairwise (fun x y => x.1 ≤ y.1)
theorem gapA_sort {g : Gp} (h : Gsort g) (i : Nat) : (gapA g i).Pairwise (fun x y => x.1 ≤ y.1) := by
  unfold gapA
  rw [List.getD_eq_getElem?_getD]
  cases e : g.G[i]? with
  | none => simp
  | some l => exact h l (List.mem_of_getElem? e)
theorem move_mono {g : Gp} (hs : Gsort g) {x y : Lbl} (h1 : x.nd = y.nd) (h2 : x.tt = y.tt) (h3 : x.tm ≤ y.tm) {m : Mv} (hm : m ∈ movesL g y) : ∃ m' ∈ movesL g x, m'.1.nd = m.1.nd ∧ m'.1.fr = m.1.fr ∧ m'.1.tt = m.1.tt ∧ m'.1.tm ≤ m.1.tm := by
  obtain ⟨i, r, hi, hf, hr, h⟩ := moves_mem hm
  obtain ⟨b', hb', hk, e⟩ := moveOf_some h
  obtain ⟨b, hb, hbb⟩ := hopG_mono (f := max x.tm r.1) (by omega) (gapA_sort hs i) hb'
  have hk2 : mvOK g x (conA g i) r (b + durA g i) (b + durA g i + (conA g i).rg) := by
    unfold mvOK leaveS at *
    split at hk
    · rename_i hc
      rw [if_pos hc]
      rw [h2]
      omega
    · rename_i hc
      rw [if_neg hc]
      rw [h2]
      omega
  have hmo : moveOf g x i r = some (⟨(conA g i).tt, r.1, r.2, b + durA g i + (conA g i).rg⟩, ((i : Int), b, b + durA g i, b + durA g i + (conA g i).rg)) := by
    unfold moveOf
    rw [hb]
    simp only
    rw [if_pos hk2]
  refine ⟨_, mem_moves hi (hf.trans h1.symm) hr hmo, ?_⟩
  rw [e]
  exact ⟨rfl, rfl, rfl, by show b + durA g i + (conA g i).rg ≤ b' + durA g i + (conA g i).rg; omega⟩
theorem VL.wide {g : Gp} (hw : Wide g) {x : Lbl} (h : VL g x) : x.fr = 0 ∧ x.tt = 1099511627776 := by
  obtain ⟨n, _, _, h3, _⟩ := h
  have := hw n _ h3
  injection this with e1 e2
  exact ⟨e1, e2⟩
theorem lab_mono {g : Gp} (hg : GOK g) (hw : Wide g) (hs : Gsort g) {r2 : Int} (hr : g.rd ≤ r2) {D1 D2 : List Lbl} (h1 : LabOK g D1) (h2 : LabOK { g with rd := r2 } D2) : ∀ (n : Nat) (y : Lbl), y ∈ D2 → y.tm < n → ∃ x ∈ D1, x.nd = y.nd ∧ x.fr = y.fr ∧ x.tt = y.tt ∧ x.tm ≤ y.tm
  | 0, y, hy, hn => by
    obtain ⟨_, _, _, _, h, _⟩ := h2.vd y hy
    omega
  | n + 1, y, hy, hn => by
    have hyv : VL g y := by
      obtain ⟨k, a, b, c, d, e⟩ := h2.vd y hy
      exact ⟨k, a, b, c, d, e⟩
    obtain ⟨y1, y2⟩ := hyv.wide hw
    rcases h2.sup y hy with ⟨a, b, c, d, e⟩ | ⟨y0, hy0, m, hm, rfl, hne⟩
    · have a' : y.nd = g.src := a
      have b' : y.tm = r2 := b
      have d' : r2 < y.tt := d
      have e' : (y.fr, y.tt) ∈ g.R.getD g.src.toNat [] := e
      have h0 := hg.r0
      obtain ⟨x, hx, k, t⟩ := h1.beg _ e' (by show y.fr ≤ g.rd; omega) (by show g.rd < y.tt; omega)
      obtain ⟨x1, x2⟩ := (h1.vd x hx).wide hw
      unfold keyL at k
      injection k with k1 k2
      exact ⟨x, hx, by rw [k1, a'], by omega, by omega, by omega⟩
    · have hm' : m ∈ movesL g y0 := hm
      have hlt := (move_facts hg hm').1
      obtain ⟨x0, hx0, e1, e2, e3, e4⟩ := lab_mono hg hw hs hr h1 h2 n y0 hy0 (by omega)
      obtain ⟨m2, hm2, f1, f2, f3, f4⟩ := move_mono hs e1 e3 e4 hm'
      obtain ⟨z, hz, k, t⟩ := h1.cls x0 hx0 m2 hm2 (by rw [f1]; exact hne)
      obtain ⟨z1, z2⟩ := (h1.vd z hz).wide hw
      unfold keyL at k
      injection k with k1 k2
      exact ⟨z, hz, by rw [k1, f1], by omega, by omega, by omega⟩
theorem arr_mono {g : Gp} (hg : GOK g) (hw : Wide g) (hs : Gsort g) {r2 : Int} (hr : g.rd ≤ r2) {D1 D2 : List Lbl} (h1 : LabOK g D1) (h2 : LabOK { g with rd := r2 } D2) (h : (arrL { g with rd := r2 } D2).2 = true) : (arrL g D1).2 = true ∧ (arrL g D1).1 ≤ (arrL { g with rd := r2 } D2).1 := by
  obtain ⟨a1, a2, a3, _⟩ := fold_spec { g with rd := r2 } (movesAll { g with rd := r2 } D2) (0, false)
  obtain ⟨b1, b2, b3, _⟩ := fold_spec g (movesAll g D1) (0, false)
  rcases a2 h with ⟨h0, _⟩ | ⟨m, hm, hd, e⟩
  · cases h0
  · unfold movesAll at hm
    obtain ⟨y, hy, hm⟩ := List.mem_flatMap.1 hm
    obtain ⟨x, hx, e1, _, e3, e4⟩ := lab_mono hg hw hs hr h1 h2 (y.tm.toNat + 1) y hy (by omega)
    obtain ⟨m2, hm2, f1, _, _, f4⟩ := move_mono hs e1 e3 e4 (show m ∈ movesL g y from hm)
    have hmem : m2 ∈ movesAll g D1 := List.mem_flatMap.2 ⟨x, hx, hm2⟩
    have hd2 : m2.1.nd = g.dst := f1.trans hd
    refine ⟨b1.2 (.inr ⟨m2, hmem, hd2⟩), ?_⟩
    have := b3 m2 hmem hd2
    show (foldA g (movesAll g D1)).1 ≤ (foldA { g with rd := r2 } (movesAll { g with rd := r2 } D2)).1
    unfold foldA
    rw [e]
    omega
end Go.Proofs.YtkokiahmgmeokaaGreat
