/- Layer 14 (extension): plain law of Forward. -/
import Derived.Test.YthgokfceakbjlaaIa
set_option linter.unusedVariables false
set_option linter.unusedSimpArgs false
namespace Go.Proofs.Ythgokfceakbjlaa
open Go Go.RowKit

/-- the blocks but those of the three kinds -/
def rest3 (l : List Blk) : List Blk := neK 3 (neK 2 (neK 1 l))
theorem mem_rest3 {l : List Blk} {x : Blk} : x ∈ rest3 l ↔ x ∈ l ∧ x.kind ≠ 1 ∧ x.kind ≠ 2 ∧ x.kind ≠ 3 := by
  simp only [rest3, neK, List.mem_filter, bne_iff_ne]
  constructor
  · rintro ⟨⟨⟨h, h1⟩, h2⟩, h3⟩; exact ⟨h, h1, h2, h3⟩
  · rintro ⟨h, h1, h2, h3⟩; exact ⟨⟨⟨h, h1⟩, h2⟩, h3⟩
theorem srt_rest3 {l : List Blk} (h : Srt l) : Srt (rest3 l) := ((h.filter _).filter _).filter _
theorem rest3_put {l : List Blk} {y : Blk} (h : Srt l) (hy : 1 ≤ y.kind) (hy3 : y.kind ≤ 3) : rest3 (putL l y) = rest3 l := by
  refine srt_ext (srt_rest3 (srt_put _ h)) (srt_rest3 h) fun x => ?_
  rw [mem_rest3, mem_rest3, mem_put_iff]
  constructor
  · rintro ⟨⟨h1, h2⟩ | rfl, h3⟩
    · exact ⟨h1, h3⟩
    · omega
  · rintro ⟨h1, h2, h3, h4⟩
    exact ⟨.inl ⟨h1, by omega⟩, h2, h3, h4⟩
theorem rest3_none {l : List Blk} (h : rest3 l = l) {k : Int} (hk : 1 ≤ k) (hk3 : k ≤ 3) : (findS l k).2 = false := by
  rcases find_cases l k with ⟨h1, _⟩ | ⟨y, hy, hyk, h1⟩
  · rw [h1]
  · rw [← h] at hy
    have := (mem_rest3.1 hy).2
    omega
theorem dat1_dec {s : List UInt8} {l : List Int} (h : dat 1 s = some l) : ∃ a, l = [a] ∧ 0 ≤ a ∧ a ≤ 1099511627776 := by
  have h : num1 s = some l := h
  unfold num1 at h
  split at h
  · cases h
  · rename_i l2 m h2
    split at h
    · rename_i h3
      injection h with h
      subst h
      have hl := (rdNs_len h2).1
      match l2, hl with
      | [a], _ => exact ⟨a, rfl, by simpa using h3.2.1, by simpa using h3.2.2⟩
    · cases h
theorem dat2_dec {s : List UInt8} {l : List Int} (h : dat 2 s = some l) : ∃ x y, l = [x, y] ∧ 1 ≤ x ∧ x ≤ 255 ∧ 0 ≤ y ∧ y ≤ x := by
  have h : num2 s = some l := h
  unfold num2 at h
  split at h
  · cases h
  · rename_i l2 m h2
    split at h
    · rename_i h3
      injection h with h
      subst h
      have hl := (rdNs_len h2).1
      match l2, hl with
      | [x, y], _ =>
        simp only [List.getD_cons_zero, List.getD_cons_succ] at h3
        exact ⟨x, y, rfl, h3.2⟩
    · cases h
theorem get_find {b : Bun} {k : Int} (h : (getS b k).2 = 0) : chkE b = 0 ∧ ∃ x, findS b.blocks k = (x, true) ∧ dat k x.data = some (getS b k).1 := by
  obtain ⟨⟨l, E⟩, hq⟩ : ∃ q, getS b k = q := ⟨_, rfl⟩
  rw [hq] at h
  rcases getS_ok hq with ⟨_, h2, h3⟩ | ⟨h2, _⟩
  · rw [hq]; exact ⟨h2, h3⟩
  · exact absurd h h2
theorem get1_dec {b : Bun} (h : (getS b 1).2 = 0) : ∃ a, getS b 1 = ([a], 0) ∧ 0 ≤ a ∧ a ≤ 1099511627776 := by
  obtain ⟨_, x, _, hd⟩ := get_find h
  obtain ⟨a, ha, h1, h2⟩ := dat1_dec hd
  exact ⟨a, Prod.ext ha h, h1, h2⟩
theorem get2_dec {b : Bun} (h : (getS b 2).2 = 0) : ∃ x y, getS b 2 = ([x, y], 0) ∧ 1 ≤ x ∧ x ≤ 255 ∧ 0 ≤ y ∧ y ≤ x := by
  obtain ⟨_, x, _, hd⟩ := get_find h
  obtain ⟨x, y, ha, h1⟩ := dat2_dec hd
  exact ⟨x, y, Prod.ext ha h, h1⟩
/-- a block of kind k was set (or nothing was) -/
def Stp (b p : Bun) (k : Int) (r : List Int × Int) : Prop := chkE p = 0 ∧ (∃ bl, p = { b with blocks := bl } ∧ rest3 bl = rest3 b.blocks) ∧ getS p k = r ∧ (∀ j, j ≠ k → getS p j = getS b j)
theorem Stp.same {b : Bun} (k : Int) (h : chkE b = 0) : Stp b b k (getS b k) := ⟨h, ⟨b.blocks, rfl, rfl⟩, rfl, fun _ _ => rfl⟩
theorem Stp.set {b p : Bun} {k : Int} {s : List UInt8} {l : List Int} (h : chkE b = 0) (hk1 : 1 ≤ k) (hk3 : k ≤ 3) (hs : s.length ≤ 1024) (he : setS b k s = (p, 0)) (hd : dat k s = some l) : Stp b p k (l, 0) := by
  obtain ⟨h1, h2, h3, h4, h5⟩ := set_facts h hk1 (by omega) hs he
  refine ⟨h1, ⟨_, h2, rest3_put (chkE_srt h) (by rw [setBlk_kind]; exact hk1) (by rw [setBlk_kind]; exact hk3)⟩, getS_set h hk1 (by omega) hs he hd, fun j hj => getS_other h hk1 (by omega) hs he hj⟩
theorem setS_pair {b : Bun} {k : Int} {s : List UInt8} (h : (setS b k s).2 = 0) : setS b k s = ((setS b k s).1, 0) := by
  obtain ⟨⟨x, y⟩, hq⟩ : ∃ q, setS b k s = q := ⟨_, rfl⟩
  rw [hq] at h ⊢
  simp only at h
  subst h
  rfl
theorem setAgeS_ok {b : Bun} {x : Int} (h : chkE b = 0) (h1 : 0 ≤ x) (h2 : x ≤ 1099511627776) : setAgeS b x = setS b 1 (intE x) := by
  unfold setAgeS; rw [if_neg (by simp [h]), if_neg (by omega)]
theorem setHopS_ok {b : Bun} {x y : Int} (h : chkE b = 0) (h1 : 1 ≤ x) (h2 : x ≤ 255) (h3 : 0 ≤ y) (h4 : y ≤ x) : setHopS b x y = setS b 2 (intE x ++ intE y) := by
  unfold setHopS; rw [if_neg (by simp [h]), if_neg (by omega)]
theorem len1 (x : Int) : (intE x).length ≤ 1024 := by have := (intE_len x).2; omega
theorem len2 (x y : Int) : (intE x ++ intE y).length ≤ 1024 := by have := (intE_len x).2; have := (intE_len y).2; rw [List.length_append]; omega
/-- nothing but the visit can refuse -/
def Fwk (b : Bun) (n el : Int) : Prop := chkE b = 0 ∧ nodeB n = true ∧ 0 ≤ el ∧ el ≤ 1099511627776 ∧ (getS b 1).2 ≠ 11 ∧ (getS b 2).2 ≠ 11 ∧ (getS b 3).2 ≠ 11 ∧ ((getS b 1).2 = 0 → (ageS b).1 + el < b.life) ∧ ((getS b 2).2 = 0 → (hopS b).2.1 + 1 ≤ (hopS b).1)
theorem fwk_E {b : Bun} {n el : Int} (h : Fwk b n el) : fwdE b n el = if (getS b 3).2 = 0 ∧ (getS b 3).1.contains n = true then 27 else 0 := by
  obtain ⟨h1, h2, h3, h4, h5, h6, h7, h8, h9⟩ := h
  unfold fwdE
  rw [if_neg (by simp [h1]), if_neg (by rw [h2]; simp; omega), if_neg (by rintro (x | x | x); exact h5 x; exact h6 x; exact h7 x), if_neg (fun x => by have := h8 x.1; omega), if_neg (fun x => by have := h9 x.1; omega)]
theorem fwdE_zero {b : Bun} {n el : Int} (h : fwdE b n el = 0) : Fwk b n el ∧ ((getS b 3).2 = 0 → (getS b 3).1.contains n = false) := by
  unfold fwdE at h
  split at h
  · simp at h
  rename_i h1
  split at h
  · simp at h
  rename_i h2
  split at h
  · simp at h
  rename_i h3
  split at h
  · simp at h
  rename_i h4
  split at h
  · simp at h
  rename_i h5
  split at h
  · simp at h
  rename_i h6
  rw [not_or, not_or] at h2 h3
  refine ⟨⟨Decidable.not_not.1 h1, by simpa using h2.1, by omega, by omega, h3.1, h3.2.1, h3.2.2, fun z => ?_, fun z => ?_⟩, fun z => ?_⟩
  · have : ¬ b.life ≤ (ageS b).1 + el := fun y => h4 ⟨z, y⟩
    omega
  · have : ¬ (hopS b).1 < (hopS b).2.1 + 1 := fun y => h5 ⟨z, y⟩
    omega
  · cases hc : (getS b 3).1.contains n with
    | false => rfl
    | true => exact absurd ⟨z, hc⟩ h6
theorem ageS_eq {b : Bun} {a : Int} (h : getS b 1 = ([a], 0)) : ageS b = (a, 0) := by unfold ageS; rw [h]; rfl
theorem hopS_eq {b : Bun} {x y : Int} (h : getS b 2 = ([x, y], 0)) : hopS b = (x, y, 0) := by unfold hopS; rw [h]; rfl
theorem stepA {b : Bun} {n el : Int} (h : Fwk b n el) : Stp b (fwdA b el) 1 (if (getS b 1).2 = 0 then ([(ageS b).1 + el], 0) else getS b 1) ∧ ((getS b 1).2 = 0 → setAgeS b ((ageS b).1 + el) = (fwdA b el, 0)) := by
  obtain ⟨h1, h2, h3, h4, h5, h6, h7, h8, h9⟩ := h
  unfold fwdA
  by_cases z : (getS b 1).2 = 0
  · rw [if_pos z, if_pos z]
    obtain ⟨a, ha, a1, a2⟩ := get1_dec z
    obtain ⟨_, x, hx, _⟩ := get_find z
    have h8 := h8 z
    have hl := (chkE_zero h1).2.2.2.2.1
    have hid := of_decide_eq_true (chkE_zero h1).1
    rw [ageS_eq ha] at h8 ⊢
    simp only at h8 ⊢
    have e := setAgeS_ok h1 (show 0 ≤ a + el by omega) (by omega)
    have e0 := set_old h1 (by decide) (by decide) (len1 (a + el)) hx
    have e1 := setS_pair e0
    rw [e]
    exact ⟨Stp.set h1 (by decide) (by decide) (len1 _) e1 (dat1_enc (by omega) (by omega)), fun _ => e1⟩
  · rw [if_neg z, if_neg z]
    exact ⟨Stp.same 1 h1, fun y => absurd y z⟩
theorem stepH {b y : Bun} {n el : Int} {r : List Int × Int} (h : Fwk b n el) (hy : Stp b y 1 r) : Stp y (fwdH b y) 2 (if (getS b 2).2 = 0 then ([(hopS b).1, (hopS b).2.1 + 1], 0) else getS b 2) ∧ ((getS b 2).2 = 0 → setHopS y (hopS b).1 ((hopS b).2.1 + 1) = (fwdH b y, 0)) := by
  obtain ⟨h1, h2, h3, h4, h5, h6, h7, h8, h9⟩ := h
  obtain ⟨y1, y2, y3, y4⟩ := hy
  have g := y4 2 (by decide)
  unfold fwdH
  by_cases z : (getS b 2).2 = 0
  · rw [if_pos z, if_pos z]
    obtain ⟨p, q, ha, a1, a2, a3, a4⟩ := get2_dec z
    obtain ⟨_, x, hx, _⟩ := get_find (show (getS y 2).2 = 0 by rw [g]; exact z)
    have h9 := h9 z
    rw [hopS_eq ha] at h9 ⊢
    simp only at h9 ⊢
    have e := setHopS_ok (y := q + 1) y1 a1 a2 (by omega) h9
    have e0 := set_old y1 (by decide) (by decide) (len2 p (q + 1)) hx
    have e1 := setS_pair e0
    rw [e]
    exact ⟨Stp.set y1 (by decide) (by decide) (len2 _ _) e1 (dat2_enc a1 a2 (by omega) h9), fun _ => e1⟩
  · rw [if_neg z, if_neg z]
    have := Stp.same 2 y1
    rw [g] at this
    exact ⟨this, fun y => absurd y z⟩
theorem visB_add {l : List Int} {n : Int} (h : visB l = true) (hn : nodeB n = true) (hc : l.contains n = false) : visB (l ++ [n]) = true := by rw [visB_snoc, h, hn, hc]; rfl
theorem vis_len {l : List Int} {n : Int} (h : visB l = true) : (listE (l ++ [n])).length ≤ 1024 := by
  have := (visB_facts h).1
  have := list_len (l := l ++ [n]) (by simp; omega)
  omega
theorem visitS_ok {z : Bun} {n : Int} (h : chkE z = 0) (hn : nodeB n = true) (h11 : (getS z 3).2 ≠ 11) (hc : (getS z 3).1.contains n = false) : visitS z n = setS z 3 (listE ((getS z 3).1 ++ [n])) := by
  have h1 : (getS z 3).2 ≠ 1 := by
    obtain ⟨⟨l, E⟩, hq⟩ : ∃ q, getS z 3 = q := ⟨_, rfl⟩
    rcases getS_ok hq with ⟨h2, _⟩ | ⟨_, _, h2 | h2 | h2⟩
    · rw [hq]; simp [h2]
    · exact absurd h h2.2
    · rw [hq]; simp [h2.1]
    · rw [hq]; simp [h2.1]
  unfold visitS
  rw [if_neg h1, if_neg (by simp [hn]), if_neg h11, hc, if_neg (by simp)]
theorem stepV {b z : Bun} {n el : Int} (h : Fwk b n el) (h10 : (getS b 3).2 = 0 → (getS b 3).1.contains n = false) (hz : chkE z = 0) (g : getS z 3 = getS b 3) : Stp z (fwdV b z n) 3 (if (getS b 3).2 = 0 then ((getS b 3).1 ++ [n], 0) else getS b 3) ∧ ((getS b 3).2 = 0 → visitS z n = (fwdV b z n, 0)) := by
  obtain ⟨h1, h2, h3, h4, h5, h6, h7, h8, h9⟩ := h
  unfold fwdV
  by_cases q : (getS b 3).2 = 0
  · rw [if_pos q, if_pos q]
    obtain ⟨_, x, hx, _⟩ := get_find (show (getS z 3).2 = 0 by rw [g]; exact q)
    have hc := h10 q
    have hv : visB (getS b 3).1 = true := get3_vis (b := b) (E := (getS b 3).2) rfl
    have e := visitS_ok hz h2 (by rw [g]; exact h7) (by rw [g]; exact hc)
    rw [g] at e
    have e1 := setS_pair (set_old hz (by decide) (by decide) (vis_len (n := n) hv) hx)
    rw [e]
    exact ⟨Stp.set hz (by decide) (by decide) (vis_len hv) e1 (dat3_enc (visB_add hv h2 hc)), fun _ => e1⟩
  · rw [if_neg q, if_neg q]
    have := Stp.same 3 hz
    rw [g] at this
    exact ⟨this, fun y => absurd y q⟩
theorem fwdS_bad {b p : Bun} {n el E : Int} (h : fwdS b n el = (p, E)) (hE : E ≠ 0) : p = zBun := by
  unfold fwdS at h
  split at h
  · simp only [Prod.mk.injEq] at h; exact h.1.symm
  · simp only [Prod.mk.injEq] at h; exact absurd h.2.symm hE
theorem fwdS_ok {b p : Bun} {n el : Int} (h : fwdS b n el = (p, 0)) : fwdE b n el = 0 ∧ p = fwdV b (fwdH b (fwdA b el)) n := by
  unfold fwdS at h
  split at h
  · rename_i h2; simp only [Prod.mk.injEq] at h; exact absurd h.2 h2
  · rename_i h2; simp only [Prod.mk.injEq, and_true] at h; exact ⟨Decidable.not_not.1 h2, h.symm⟩
theorem fwk_end {b : Bun} {n el : Int} (h : Fwk b n el) : chkE (fwdH b (fwdA b el)) = 0 ∧ ((getS b 3).2 ≠ 0 → fwdS b n el = (fwdH b (fwdA b el), 0)) ∧ ((getS b 3).2 = 0 → fwdS b n el = if (getS b 3).1.contains n = true then (zBun, 27) else setS (fwdH b (fwdA b el)) 3 (listE ((getS b 3).1 ++ [n]))) := by
  have a := (stepA h).1
  have c := (stepH h a).1
  obtain ⟨a1, _, a3, a4⟩ := a
  obtain ⟨c1, _, c3, c4⟩ := c
  have g : getS (fwdH b (fwdA b el)) 3 = getS b 3 := by rw [c4 3 (by decide), a4 3 (by decide)]
  have e := fwk_E h
  refine ⟨c1, fun z => ?_, fun z => ?_⟩
  · rw [if_neg (fun x => z x.1)] at e
    unfold fwdS
    rw [if_neg (by rw [e]; simp)]
    show (fwdV b _ n, 0) = _
    rw [show fwdV b (fwdH b (fwdA b el)) n = fwdH b (fwdA b el) from if_neg z]
  · obtain ⟨ct, hc⟩ : ∃ q, (getS b 3).1.contains n = q := ⟨_, rfl⟩
    rw [hc] at e ⊢
    cases ct with
    | true =>
      rw [if_pos ⟨z, rfl⟩] at e
      rw [if_pos rfl]
      unfold fwdS
      rw [if_pos (by rw [e]; decide), e]
    | false =>
      rw [if_neg (fun x => by simp at x)] at e
      rw [if_neg (by simp)]
      unfold fwdS
      rw [if_neg (by rw [e]; simp)]
      have := (stepV h (fun _ => hc) c1 g).2 z
      rw [← this, visitS_ok c1 h.2.1 (by rw [g]; exact h.2.2.2.2.2.2.1) (by rw [g]; exact hc), g]
theorem fwd_facts {b p : Bun} {n el : Int} (h : fwdS b n el = (p, 0)) :
    chkE p = 0 ∧ (∃ bl, p = { b with blocks := bl } ∧ rest3 bl = rest3 b.blocks) ∧
    getS p 1 = (if (getS b 1).2 = 0 then ([(ageS b).1 + el], 0) else getS b 1) ∧
    getS p 2 = (if (getS b 2).2 = 0 then ([(hopS b).1, (hopS b).2.1 + 1], 0) else getS b 2) ∧
    getS p 3 = (if (getS b 3).2 = 0 then ((getS b 3).1 ++ [n], 0) else getS b 3) := by
  obtain ⟨h1, rfl⟩ := fwdS_ok h
  obtain ⟨h1, h10⟩ := fwdE_zero h1
  have a := (stepA h1).1
  have c := (stepH h1 a).1
  obtain ⟨a1, ⟨la, a2, a2b⟩, a3, a4⟩ := a
  obtain ⟨c1, ⟨lc, c2, c2b⟩, c3, c4⟩ := c
  have g : getS (fwdH b (fwdA b el)) 3 = getS b 3 := by rw [c4 3 (by decide), a4 3 (by decide)]
  obtain ⟨d1, ⟨ld, d2, d2b⟩, d3, d4⟩ := (stepV h1 h10 c1 g).1
  refine ⟨d1, ⟨ld, ?_, ?_⟩, ?_, ?_, ?_⟩
  · rw [d2, c2, a2]
  · rw [d2b, c2]; simp only; rw [c2b, a2]; exact a2b
  · rw [d4 1 (by decide), c4 1 (by decide), a3]
  · rw [d4 2 (by decide), c3]
  · rw [d3]
theorem fwd_plain {b p : Bun} {n el : Int} (h : fwdS b n el = (p, 0)) (hr : rest3 b.blocks = b.blocks) : p = b := by
  obtain ⟨h1, rfl⟩ := fwdS_ok h
  have h2 := (fwdE_zero h1).1.1
  have g : ∀ k, 1 ≤ k → k ≤ 3 → (getS b k).2 ≠ 0 := fun k k1 k3 => by
    have := rest3_none hr k1 k3
    obtain ⟨⟨x, q⟩, hf⟩ : ∃ q, findS b.blocks k = q := ⟨_, rfl⟩
    rw [hf] at this
    simp only at this
    subst this
    rw [getS_no h2 hf]
    decide
  have e1 : fwdA b el = b := if_neg (g 1 (by decide) (by decide))
  rw [e1]
  have e2 : fwdH b b = b := if_neg (g 2 (by decide) (by decide))
  rw [e2]
  exact if_neg (g 3 (by decide) (by decide))
end Go.Proofs.Ythgokfceakbjlaa
