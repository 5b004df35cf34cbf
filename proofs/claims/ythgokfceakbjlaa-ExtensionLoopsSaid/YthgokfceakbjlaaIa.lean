/- Layer 14 (extension): plain law of a set block. -/
import Derived.Test.YthgokfceakbjlaaAt
set_option linter.unusedVariables false
set_option linter.unusedSimpArgs false
namespace Go.Proofs.Ythgokfceakbjlaa
open Go Go.RowKit

theorem ordB_srt : ∀ {l : List Blk}, ordB l = true ↔ Srt l
  | [] => by simp [ordB]
  | [x] => by simp [ordB]
  | x :: y :: r => by
    have ih := ordB_srt (l := y :: r)
    unfold ordB
    rw [Bool.and_eq_true, ih, decide_eq_true_eq]
    show _ ↔ List.Pairwise _ (x :: y :: r)
    rw [List.pairwise_cons (a := x)]
    constructor
    · rintro ⟨h1, h2⟩
      refine ⟨fun a ha => ?_, h2⟩
      rcases List.mem_cons.1 ha with rfl | ha
      · exact h1
      · exact Int.lt_trans h1 ((List.pairwise_cons.1 h2).1 a ha)
    · rintro ⟨h1, h2⟩
      exact ⟨h1 y (by simp), h2⟩
theorem firstE_iff : ∀ {l : List Blk}, firstE l = 0 ↔ ∀ x ∈ l, blkE x = 0
  | [] => by simp [firstE]
  | x :: r => by
    have ih := firstE_iff (l := r)
    unfold firstE
    by_cases h : blkE x = 0
    · simp [h, ih]
    · simp [h]
theorem blksE_chk {l : List Blk} : blksE l = 0 ↔ chkAll l = 0 := by
  rw [chkAll_iff]
  constructor
  · intro h
    obtain ⟨h1, h2, h3⟩ := blksE_zero h
    exact ⟨h1, firstE_iff.1 h2, ordB_srt.1 h3⟩
  · rintro ⟨h1, h2, h3⟩
    unfold blksE
    rw [if_neg (by omega), if_neg (by simp [firstE_iff.2 h2]), if_pos (ordB_srt.2 h3)]
theorem chkE_chk {b : Bun} (h : chkE b = 0) : chkAll b.blocks = 0 := blksE_chk.1 (chkE_zero h).2.2.1
theorem chkE_srt {b : Bun} (h : chkE b = 0) : Srt b.blocks := (chkAll_iff.1 (chkE_chk h)).2.2
theorem chkE_put {b : Bun} {l : List Blk} (h : chkE b = 0) (hl : chkAll l = 0) : chkE { b with blocks := l } = 0 := by
  have h1 := (chkE_zero h).2.2.1
  have h2 := blksE_chk.2 hl
  have hi : idE { b with blocks := l } = idE b := rfl
  have hf : flE { b with blocks := l } = flE b := rfl
  have hp : payE { b with blocks := l } = payE b := rfl
  unfold chkE at h ⊢
  rw [h1] at h
  simp only [hi, hf, hp, h2] at h ⊢
  exact h
theorem setBlk_kind {b : Bun} {k : Int} {s : List UInt8} : (setBlk b k s).kind = k := by
  unfold setBlk
  rcases find_cases b.blocks k with ⟨h, _⟩ | ⟨x, _, hk, h⟩ <;> rw [h]
  exact hk
theorem setBlk_data {b : Bun} {k : Int} {s : List UInt8} : (setBlk b k s).data = s := by
  unfold setBlk; split <;> rfl
theorem setBlk_ok {b : Bun} {k : Int} {s : List UInt8} (h : chkE b = 0) (hk1 : 1 ≤ k) (hk2 : k ≤ 255) (hs : s.length ≤ 1024) : blkE (setBlk b k s) = 0 := by
  have hf : 0 ≤ (setBlk b k s).flags ∧ (setBlk b k s).flags ≤ 15 := by
    unfold setBlk
    rcases find_cases b.blocks k with ⟨h3, _⟩ | ⟨x, hx, _, h3⟩ <;> rw [h3]
    · simp
    · have := blkE_zero ((chkAll_iff.1 (chkE_chk h)).2.1 x hx)
      exact ⟨this.2.2.1, this.2.2.2.1⟩
  unfold blkE
  rw [setBlk_kind, setBlk_data, if_neg (by omega), if_neg (by omega), if_neg (by omega)]
/-- for a valid bundle Put fails with ErrLimit alone -/
theorem put_err {b : Bun} {k : Int} {s : List UInt8} (h : chkE b = 0) (hk1 : 1 ≤ k) (hk2 : k ≤ 255) (hs : s.length ≤ 1024) : (8 < (putL b.blocks (setBlk b k s)).length ∧ putS b.blocks (setBlk b k s) = ([], 4) ∧ setS b k s = (zBun, 4)) ∨ ((putL b.blocks (setBlk b k s)).length ≤ 8 ∧ putS b.blocks (setBlk b k s) = (putL b.blocks (setBlk b k s), 0) ∧ setS b k s = ({ b with blocks := putL b.blocks (setBlk b k s) }, 0)) := by
  have e : putS b.blocks (setBlk b k s) = if 8 < (putL b.blocks (setBlk b k s)).length then ([], 4) else (putL b.blocks (setBlk b k s), 0) := by
    unfold putS
    rw [if_neg (by simp [chkE_chk h]), if_neg (by simp [setBlk_ok h hk1 hk2 hs])]
  by_cases hl : 8 < (putL b.blocks (setBlk b k s)).length
  · rw [if_pos hl] at e
    exact .inl ⟨hl, e, by unfold setS; rw [e, if_pos (by simp)]⟩
  · rw [if_neg hl] at e
    exact .inr ⟨by omega, e, by unfold setS; rw [e, if_neg (by simp)]⟩
theorem mem_put_iff {l : List Blk} {b x : Blk} : x ∈ putL l b ↔ (x ∈ l ∧ x.kind ≠ b.kind) ∨ x = b := by
  rw [putL_eq]
  simp only [List.mem_append, mem_ltK, mem_gtK, List.mem_singleton]
  constructor
  · rintro ((⟨h1, h2⟩ | rfl) | ⟨h1, h2⟩)
    · exact .inl ⟨h1, by omega⟩
    · exact .inr rfl
    · exact .inl ⟨h1, by omega⟩
  · rintro (⟨h1, h2⟩ | rfl)
    · rcases Int.lt_or_gt_of_ne h2 with h3 | h3
      · exact .inl (.inl ⟨h1, h3⟩)
      · exact .inr ⟨h1, h3⟩
    · exact .inl (.inr rfl)
theorem srt_ext : ∀ {l m : List Blk}, Srt l → Srt m → (∀ x, x ∈ l ↔ x ∈ m) → l = m
  | [], [], _, _, _ => rfl
  | [], y :: m, _, _, h => absurd ((h y).2 (by simp)) (by simp)
  | x :: l, [], _, _, h => absurd ((h x).1 (by simp)) (by simp)
  | x :: l, y :: m, h1, h2, h => by
    obtain ⟨a1, a2⟩ := List.pairwise_cons.1 h1
    obtain ⟨b1, b2⟩ := List.pairwise_cons.1 h2
    have e : x = y := by
      rcases List.mem_cons.1 ((h x).1 (by simp)) with rfl | hx
      · rfl
      · rcases List.mem_cons.1 ((h y).2 (by simp)) with rfl | hy
        · rfl
        · have := b1 x hx
          have := a1 y hy
          omega
    subst e
    congr 1
    refine srt_ext a2 b2 fun z => ⟨fun hz => ?_, fun hz => ?_⟩
    · rcases List.mem_cons.1 ((h z).1 (by simp [hz])) with rfl | hz2
      · have := a1 z hz; omega
      · exact hz2
    · rcases List.mem_cons.1 ((h z).2 (by simp [hz])) with rfl | hz2
      · have := b1 z hz; omega
      · exact hz2
theorem put_comm {l : List Blk} {a b : Blk} (h : Srt l) (hk : a.kind ≠ b.kind) : putL (putL l a) b = putL (putL l b) a := by
  refine srt_ext (srt_put _ (srt_put _ h)) (srt_put _ (srt_put _ h)) fun x => ?_
  simp only [mem_put_iff]
  constructor
  · rintro (⟨⟨h1, h2⟩ | rfl, h3⟩ | rfl)
    · exact .inl ⟨.inl ⟨h1, h3⟩, h2⟩
    · exact .inr rfl
    · exact .inl ⟨.inr rfl, fun e => hk e.symm⟩
  · rintro (⟨⟨h1, h2⟩ | rfl, h3⟩ | rfl)
    · exact .inl ⟨.inl ⟨h1, h3⟩, h2⟩
    · exact .inr rfl
    · exact .inl ⟨.inr rfl, hk⟩
theorem find_put_ne {l : List Blk} {b : Blk} {k : Int} (h : Srt l) (hk : k ≠ b.kind) : findS (putL l b) k = findS l k := by
  rcases find_cases l k with ⟨h1, h2⟩ | ⟨y, hy, rfl, h1⟩
  · rw [h1]
    refine findS_none fun x hx => ?_
    rw [mem_put_iff] at hx
    rcases hx with ⟨hx, _⟩ | rfl
    · simpa using h2 x hx
    · simpa using fun e => hk e.symm
  · rw [h1]; exact find_put_other h hy hk
theorem putlen_same {l : List Blk} {b x : Blk} (h : Srt l) (hf : findS l b.kind = (x, true)) : (putL l b).length = l.length := by
  have hx : x ∈ l ∧ x.kind = b.kind := by
    rcases find_cases l b.kind with ⟨h1, _⟩ | ⟨y, hy, hk, h1⟩
    · rw [h1] at hf; simp at hf
    · rw [h1] at hf; simp only [Prod.mk.injEq, and_true] at hf; subst hf; exact ⟨hy, hk⟩
  have e := put_back h hx.1 hx.2
  have e1 : ∀ (m : List Blk) (c : Blk), (putL m c).length = (ltK c.kind m).length + 1 + (gtK c.kind m).length := fun m c => by rw [putL_eq]; simp; omega
  have e2 := e1 (putL l b) x
  rw [e, hx.2, ltK_put, gtK_put] at e2
  rw [e1, e2]

/-! ### a bundle with a set block -/
theorem set_facts {b p : Bun} {k : Int} {s : List UInt8} (h : chkE b = 0) (hk1 : 1 ≤ k) (hk2 : k ≤ 255) (hs : s.length ≤ 1024) (he : setS b k s = (p, 0)) :
    chkE p = 0 ∧ p = { b with blocks := putL b.blocks (setBlk b k s) } ∧ findS p.blocks k = (setBlk b k s, true) ∧ (∀ j, j ≠ k → findS p.blocks j = findS b.blocks j) ∧ (putL b.blocks (setBlk b k s)).length ≤ 8 := by
  rcases put_err h hk1 hk2 hs with ⟨_, _, h3⟩ | ⟨h1, h2, h3⟩
  · rw [h3] at he; simp at he
  · rw [h3] at he
    simp only [Prod.mk.injEq, and_true] at he
    subst he
    refine ⟨chkE_put h (chk_put (chkE_chk h) (setBlk_ok h hk1 hk2 hs) (by omega)), rfl, ?_, fun j hj => ?_, h1⟩
    · have := find_put_self (b := setBlk b k s) (chkE_srt h)
      rw [setBlk_kind] at this
      exact this
    · exact find_put_ne (chkE_srt h) (by rw [setBlk_kind]; exact hj)
theorem setBlk_set {b p : Bun} {k : Int} {s t : List UInt8} (hf : findS p.blocks k = (setBlk b k s, true)) : setBlk p k t = setBlk b k t := by
  have hk := @setBlk_kind b k s
  unfold setBlk at hf ⊢
  rw [hf]
  obtain ⟨⟨x, q⟩, hx⟩ : ∃ q, findS b.blocks k = q := ⟨_, rfl⟩
  rw [hx] at hf ⊢
  cases q with
  | true => rfl
  | false => rfl
theorem setBlk_other {b p : Bun} {k : Int} {s : List UInt8} (hf : findS p.blocks k = findS b.blocks k) : setBlk p k s = setBlk b k s := by unfold setBlk; rw [hf]
theorem set_again {b p : Bun} {k : Int} {s : List UInt8} (h : chkE b = 0) (hk1 : 1 ≤ k) (hk2 : k ≤ 255) (hs : s.length ≤ 1024) (he : setS b k s = (p, 0)) : setS p k s = (p, 0) := by
  obtain ⟨h1, h2, h3, h4, h5⟩ := set_facts h hk1 hk2 hs he
  have e1 : setBlk p k s = setBlk b k s := setBlk_set h3
  have e2 : putL p.blocks (setBlk b k s) = p.blocks := by rw [h2]; exact put_twice rfl
  rcases put_err h1 hk1 hk2 hs with ⟨g, _, _⟩ | ⟨_, _, g⟩
  · rw [e1, e2, h2] at g; simp only at g; omega
  · rw [g, e1, e2]
theorem set_comm {b p q : Bun} {j k : Int} {s t : List UInt8} (h : chkE b = 0) (hj1 : 1 ≤ j) (hj2 : j ≤ 255) (hk1 : 1 ≤ k) (hk2 : k ≤ 255) (hne : j ≠ k) (hs : s.length ≤ 1024) (ht : t.length ≤ 1024) (hp : setS b j s = (p, 0)) (hq : setS b k t = (q, 0)) : setS p k t = setS q j s := by
  obtain ⟨p1, p2, p3, p4, p5⟩ := set_facts h hj1 hj2 hs hp
  obtain ⟨q1, q2, q3, q4, q5⟩ := set_facts h hk1 hk2 ht hq
  have e1 : setBlk p k t = setBlk b k t := setBlk_other (p4 k (fun e => hne e.symm))
  have e2 : setBlk q j s = setBlk b j s := setBlk_other (q4 j hne)
  have e3 : putL p.blocks (setBlk p k t) = putL q.blocks (setBlk q j s) := by
    rw [e1, e2, p2, q2]
    exact put_comm (chkE_srt h) (by rw [setBlk_kind, setBlk_kind]; exact hne)
  rcases put_err p1 hk1 hk2 ht with ⟨a1, _, a3⟩ | ⟨a1, _, a3⟩ <;> rcases put_err q1 hj1 hj2 hs with ⟨b1, _, b3⟩ | ⟨b1, _, b3⟩
  · rw [a3, b3]
  · rw [e3] at a1; omega
  · rw [e3] at a1; omega
  · rw [a3, b3, e3, p2, q2]
theorem set_old {b : Bun} {k : Int} {s : List UInt8} {x : Blk} (h : chkE b = 0) (hk1 : 1 ≤ k) (hk2 : k ≤ 255) (hs : s.length ≤ 1024) (hf : findS b.blocks k = (x, true)) : (setS b k s).2 = 0 := by
  rcases put_err h hk1 hk2 hs with ⟨a1, _, a3⟩ | ⟨a1, _, a3⟩
  · rw [putlen_same (x := x) (chkE_srt h) (by rw [setBlk_kind]; exact hf)] at a1
    have := (chkAll_iff.1 (chkE_chk h)).1
    omega
  · rw [a3]
/-! ### numbers of the data -/
theorem dat1_enc {x : Int} (h1 : 0 ≤ x) (h2 : x ≤ 1099511627776) : dat 1 (intE x) = some [x] := by
  have := rdNs_enc [x] [] (fun n hn => by rw [List.mem_singleton.1 hn]; omega)
  simp only [List.length_singleton, List.flatMap_cons, List.flatMap_nil, List.append_nil] at this
  show num1 _ = _
  unfold num1
  rw [this]
  simp only [List.getD_cons_zero]
  rw [if_pos (by simp [h1, h2])]
theorem dat2_enc {x y : Int} (h1 : 1 ≤ x) (h2 : x ≤ 255) (h3 : 0 ≤ y) (h4 : y ≤ x) : dat 2 (intE x ++ intE y) = some [x, y] := by
  have := rdNs_enc [x, y] [] (fun n hn => by
    simp only [List.mem_cons, List.not_mem_nil, or_false] at hn
    rcases hn with rfl | rfl <;> omega)
  simp only [List.length_cons, List.length_nil, Nat.zero_add, List.flatMap_cons, List.flatMap_nil, List.append_nil] at this
  show num2 _ = _
  unfold num2
  rw [this]
  simp only [List.getD_cons_zero, List.getD_cons_succ]
  rw [if_pos (by simp [h1, h2, h3, h4])]
theorem dat3_enc {l : List Int} (h : visB l = true) : dat 3 (listE l) = some l := by
  obtain ⟨h1, h2⟩ := visB_facts h
  have hr := read_int (l.length : Int) (l.flatMap intE) (by omega) (by omega)
  have hl : lenS (listE l) = ((l.length : Int), ((intE (l.length : Int)).length : Int), 0) := by
    unfold lenS listE
    rw [hr]
    simp only
    rw [if_neg (by simp), if_neg (by omega)]
  have hd : (listE l).drop (intE (l.length : Int)).length = l.flatMap intE ++ [] := by unfold listE; rw [List.drop_left, List.append_nil]
  have hn := rdNs_enc l [] (fun n hn => by have := h2 n hn; omega)
  rw [← hd] at hn
  have := lstR_of hl hn
  show num3 _ = _
  unfold num3
  rw [this]
  simp only
  rw [if_pos ⟨by unfold listE; rw [List.length_append], h⟩]
theorem list_len {l : List Int} (h : l.length ≤ 17) : (listE l).length ≤ 1000 := by
  unfold listE
  have h1 := (intE_len (l.length : Int)).2
  have h2 := flat_size l
  rw [List.length_append]
  omega
theorem getS_set {b p : Bun} {k : Int} {s : List UInt8} {l : List Int} (h : chkE b = 0) (hk1 : 1 ≤ k) (hk2 : k ≤ 255) (hs : s.length ≤ 1024) (he : setS b k s = (p, 0)) (hd : dat k s = some l) : getS p k = (l, 0) := by
  obtain ⟨h1, h2, h3, h4, h5⟩ := set_facts h hk1 hk2 hs he
  rw [getS_yes h1 h3, setBlk_data, hd]
theorem getS_other {b p : Bun} {j k : Int} {s : List UInt8} (h : chkE b = 0) (hk1 : 1 ≤ k) (hk2 : k ≤ 255) (hs : s.length ≤ 1024) (he : setS b k s = (p, 0)) (hj : j ≠ k) : getS p j = getS b j := by
  obtain ⟨h1, h2, h3, h4, h5⟩ := set_facts h hk1 hk2 hs he
  unfold getS
  rw [h1, h, h4 j hj]
end Go.Proofs.Ythgokfceakbjlaa
