/- TopMirrorTight: the loop of journey.arrivals: plain. -/
import Derived.Test.YtbpmccfbfpgijaaGreatMb
import Derived.Test.YtbpmccfbfpgijaaGreatNk
set_option linter.unusedVariables false
namespace Go.Proofs.YtbpmccfbfpgijaaGreat.Mt
open Go Go.Proofs.YtbpmccfbfpgijaaGreat
def lt_ (l : List Bool) (v : Nat) : Bool := l.getD v false
theorem nxS_none {F : List Int} {l : List Bool} : ∀ {k : Nat}, nxS F l k < 0 → ∀ j, j < k → 0 ≤ F.getD j (-1) → l.getD j true = true
  | 0, _, j, hj, _ => by omega
  | k + 1, h, j, hj, h0 => by
    unfold nxS at h
    split at h
    · omega
    · rename_i hn
      by_cases e : j = k
      · subst e
        cases hl : l.getD j true with
        | true => rfl
        | false => exact absurd ⟨h0, hl, .inl h⟩ hn
      · exact nxS_none h j (by omega) h0
theorem nxS_some {F : List Int} {l : List Bool} : ∀ {k : Nat}, 0 ≤ nxS F l k → 0 ≤ F.getD (nxS F l k).toNat (-1) ∧ l.getD (nxS F l k).toNat true = false ∧ (nxS F l k).toNat < k ∧ ∀ j, j < k → 0 ≤ F.getD j (-1) → l.getD j true = false → F.getD (nxS F l k).toNat (-1) ≤ F.getD j (-1)
  | 0, h => by unfold nxS at h; omega
  | k + 1, h => by
    unfold nxS at h ⊢
    split
    · rename_i hp
      rw [Int.toNat_natCast]
      refine ⟨hp.1, hp.2.1, by omega, fun j hj h0 hl => ?_⟩
      by_cases e : j = k
      · subst e; exact Int.le_refl _
      · rcases hp.2.2 with hb | hb
        · have := nxS_none hb j (by omega) h0
          rw [hl] at this; cases this
        · by_cases hb0 : nxS F l k < 0
          · have := nxS_none hb0 j (by omega) h0
            rw [hl] at this; cases this
          · have := (nxS_some (k := k) (by omega)).2.2.2 j (by omega) h0 hl
            omega
    · rename_i hn
      rw [if_neg hn] at h
      obtain ⟨a1, a2, a3, a4⟩ := nxS_some (k := k) h
      refine ⟨a1, a2, by omega, fun j hj h0 hl => ?_⟩
      by_cases e : j = k
      · subst e
        exact Int.not_lt.1 fun hlt => hn ⟨h0, hl, .inr hlt⟩
      · exact a4 j (by omega) h0 hl
/-- the invariant; todo: the contacts of the present node that are not done -/
structure AInv (d : Con → Int) (src : Nat) (ready : Int) (cs : List Con) (n : Nat) (todo : Nat → Prop) (F : List Int) (l : List Bool) : Prop where
  lenF : F.length = n
  lenl : l.length = n
  at0 : at_ F src = ready
  lo : ∀ v, at_ F v = -1 ∨ ready ≤ at_ F v
  lr : ∀ u, lt_ l u = true → 0 ≤ at_ F u
  ord : ∀ u v, lt_ l u = true → lt_ l v = false → 0 ≤ at_ F v → at_ F u ≤ at_ F v
  sup : ∀ v, v ≠ src → 0 ≤ at_ F v → ∃ c ∈ cs, ct c = v ∧ lt_ l (cf c) = true ∧ arr d c (at_ F (cf c)) = some (at_ F v)
  clo : ∀ i c, cs[i]? = some c → ¬ todo i → lt_ l (cf c) = true → ∀ t, arr d c (at_ F (cf c)) = some t → 0 ≤ at_ F (ct c) ∧ at_ F (ct c) ≤ t
theorem arr_gt {d : Con → Int} {c : Con} {a t : Int} (hp : 1 ≤ d c ∧ 1 ≤ c.rg ∧ 0 ≤ c.st) (h : arr d c a = some t) : a < t := by
  unfold arr at h
  split at h
  · injection h with h; omega
  · cases h
/-- a hop over the contact i, from the node m that is being left -/
theorem AInv.hop {d : Con → Int} {src : Nat} {ready : Int} {cs : List Con} {n : Nat} {todo : Nat → Prop} {F : List Int} {l : List Bool} (h : AInv d src ready cs n todo F l) (hd : Pos d cs) (hr : 0 ≤ ready) {m i : Nat} {c : Con} {t : Int}
    (hm : lt_ l m = true) (hmx : ∀ u, lt_ l u = true → at_ F u ≤ at_ F m) (hi : cs[i]? = some c) (hc : cf c = m) (hn : ct c < n) (ht : arr d c (at_ F m) = some t) :
    ∃ F', F' = (if at_ F (ct c) < 0 ∨ t < at_ F (ct c) then F.set (ct c) t else F) ∧ AInv d src ready cs n (fun j => todo j ∧ j ≠ i) F' l ∧ (∀ u, lt_ l u = true → at_ F' u = at_ F u) := by
  have hcm := List.mem_of_getElem? hi
  have hp := hd c hcm
  have hgt := arr_gt hp ht
  have hm0 := h.lr m hm
  refine ⟨_, rfl, ?_⟩
  by_cases hu : at_ F (ct c) < 0 ∨ t < at_ F (ct c)
  · rw [if_pos hu]
    have hlen : ct c < F.length := by rw [h.lenF]; exact hn
    have hnl : lt_ l (ct c) = false := by
      cases hl : lt_ l (ct c) with
      | false => rfl
      | true =>
        have a1 := h.lr _ hl
        have a2 := hmx _ hl
        omega
    have hk : ∀ u, lt_ l u = true → at_ (F.set (ct c) t) u = at_ F u := fun u hul => by
      rw [at_set _ _ _ _ hlen, if_neg (fun e => by rw [e, hnl] at hul; cases hul)]
    have hsrc : ct c ≠ src := fun e => by
      have h3 := h.at0
      rw [← e] at h3
      have := h.lo m
      omega
    refine ⟨⟨by rw [List.length_set]; exact h.lenF, h.lenl, by rw [at_set _ _ _ _ hlen, if_neg (fun e => hsrc e.symm)]; exact h.at0, fun v => ?_, fun u hul => by rw [hk u hul]; exact h.lr u hul, fun u v hul hvl h0 => ?_, fun v hv h0 => ?_, fun j c' hj htd hcl t' ht' => ?_⟩, hk⟩
    · rw [at_set _ _ _ _ hlen]
      split
      · right; have := h.lo m; omega
      · exact h.lo v
    · rw [hk u hul]
      rw [at_set _ _ _ _ hlen] at h0 ⊢
      split
      · have := hmx u hul; omega
      · rename_i e; rw [if_neg e] at h0; exact h.ord u v hul hvl h0
    · by_cases e : v = ct c
      · subst e
        refine ⟨c, hcm, rfl, by rw [hc]; exact hm, ?_⟩
        rw [hc, hk m hm, at_set _ _ _ _ hlen, if_pos rfl]
        exact ht
      · rw [at_set _ _ _ _ hlen, if_neg e] at h0 ⊢
        obtain ⟨c', g1, g2, g3, g4⟩ := h.sup v hv h0
        exact ⟨c', g1, g2, g3, by rw [hk _ g3]; exact g4⟩
    · rw [hk _ hcl] at ht'
      rw [at_set _ _ _ _ hlen]
      by_cases e : j = i
      · subst e
        rw [hi] at hj; injection hj with hj; subst hj
        rw [if_pos rfl]
        rw [hc, ht] at ht'
        injection ht' with ht'
        omega
      · have := h.clo j c' hj (fun z => htd ⟨z, e⟩) hcl t' ht'
        split
        · rename_i e2
          rw [e2] at this
          omega
        · exact this
  · rw [if_neg hu]
    refine ⟨⟨h.lenF, h.lenl, h.at0, h.lo, h.lr, h.ord, h.sup, fun j c' hj htd hcl t' ht' => ?_⟩, fun _ _ => rfl⟩
    by_cases e : j = i
    · subst e
      rw [hi] at hj; injection hj with hj; subst hj
      rw [hc, ht] at ht'
      injection ht' with ht'
      omega
    · exact h.clo j c' hj (fun z => htd ⟨z, e⟩) hcl t' ht'
theorem at_rep (n v : Nat) : at_ (List.replicate n (-1)) v = -1 := by
  unfold at_
  rw [List.getD_eq_getElem?_getD, List.getElem?_replicate]
  split <;> rfl
theorem lt_rep (n v : Nat) : lt_ (List.replicate n false) v = false := by
  unfold lt_
  rw [List.getD_eq_getElem?_getD, List.getElem?_replicate]
  split <;> rfl
theorem lt_set (l : List Bool) (b v : Nat) (hb : b < l.length) : lt_ (l.set b true) v = if v = b then true else lt_ l v := by
  unfold lt_
  rw [List.getD_eq_getElem?_getD, List.getD_eq_getElem?_getD, List.getElem?_set]
  by_cases h : b = v
  · subst h; simp [hb]
  · rw [if_neg h, if_neg (fun e => h e.symm)]
theorem AInv.start {d : Con → Int} {src : Nat} {ready : Int} {cs : List Con} {n : Nat} (hs : src < n) : AInv d src ready cs n (fun _ => False) ((List.replicate n (-1)).set src ready) (List.replicate n false) := by
  have hl : src < (List.replicate n (-1 : Int)).length := by simpa using hs
  refine ⟨by simp, by simp, by rw [at_set _ _ _ _ hl, if_pos rfl], fun v => ?_, fun u hu => ?_, fun u v hu => ?_, fun v hv h0 => ?_, fun i c hi _ hc => ?_⟩
  · rw [at_set _ _ _ _ hl]
    split
    · exact .inr (Int.le_refl _)
    · exact .inl (at_rep n v)
  · rw [lt_rep] at hu; cases hu
  · rw [lt_rep] at hu; cases hu
  · rw [at_set _ _ _ _ hl, if_neg hv, at_rep] at h0; omega
  · rw [lt_rep] at hc; cases hc
/-- the best node is left -/
theorem AInv.leave {d : Con → Int} {src : Nat} {ready : Int} {cs : List Con} {n : Nat} {F : List Int} {l : List Bool} (h : AInv d src ready cs n (fun _ => False) F l) {b : Nat} (hb : nxS F l n = (b : Int)) :
    AInv d src ready cs n (fun j => ∃ c, cs[j]? = some c ∧ cf c = b) F (l.set b true) ∧ lt_ (l.set b true) b = true ∧ (∀ u, lt_ (l.set b true) u = true → at_ F u ≤ at_ F b) ∧ b < n ∧ lt_ l b = false ∧ 0 ≤ at_ F b := by
  obtain ⟨a1, a2, a3, a4⟩ := nxS_some (F := F) (l := l) (k := n) (by omega)
  rw [hb, Int.toNat_natCast] at a1 a2 a3 a4
  have hbl : b < l.length := by rw [h.lenl]; exact a3
  have hlb : lt_ l b = false := by
    unfold lt_
    rw [List.getD_eq_getElem?_getD, List.getElem?_eq_getElem hbl] at a2 ⊢
    exact a2
  have hF : ∀ v, at_ F v = F.getD v (-1) := fun _ => rfl
  have hlv : ∀ v, v < n → lt_ l v = false → l.getD v true = false := fun v hv hz => by
    unfold lt_ at hz
    rw [List.getD_eq_getElem?_getD, List.getElem?_eq_getElem (by rw [h.lenl]; exact hv)] at hz ⊢
    exact hz
  have hvn : ∀ v, 0 ≤ at_ F v → v < n := fun v h0 => by
    rcases Nat.lt_or_ge v n with z | z
    · exact z
    · rw [hF, List.getD_eq_getElem?_getD, List.getElem?_eq_none (by rw [h.lenF]; exact z)] at h0
      simp at h0
  refine ⟨⟨h.lenF, by rw [List.length_set]; exact h.lenl, h.at0, h.lo, fun u hu => ?_, fun u v hu hv h0 => ?_, fun v hv h0 => ?_, fun i c hi htd hc t ht => ?_⟩, by rw [lt_set _ _ _ hbl, if_pos rfl], fun u hu => ?_, a3, hlb, a1⟩
  · rw [lt_set _ _ _ hbl] at hu
    by_cases e : u = b
    · rw [e]; exact a1
    · rw [if_neg e] at hu; exact h.lr u hu
  · rw [lt_set _ _ _ hbl] at hu hv
    by_cases e2 : v = b
    · rw [if_pos e2] at hv; cases hv
    · rw [if_neg e2] at hv
      by_cases e : u = b
      · rw [e]; exact a4 v (hvn v h0) h0 (hlv v (hvn v h0) hv)
      · rw [if_neg e] at hu; exact h.ord u v hu hv h0
  · obtain ⟨c, g1, g2, g3, g4⟩ := h.sup v hv h0
    refine ⟨c, g1, g2, ?_, g4⟩
    rw [lt_set _ _ _ hbl]
    split
    · rfl
    · exact g3
  · rw [lt_set _ _ _ hbl] at hc
    by_cases e : cf c = b
    · exact absurd ⟨c, hi, e⟩ htd
    · rw [if_neg e] at hc
      exact h.clo i c hi (fun z => z) hc t ht
  · rw [lt_set _ _ _ hbl] at hu
    by_cases e : u = b
    · rw [e]; exact Int.le_refl _
    · rw [if_neg e] at hu; exact h.ord u b hu hlb a1
/-- the contacts that are not done give no hop -/
theorem AInv.fin {d : Con → Int} {src : Nat} {ready : Int} {cs : List Con} {n : Nat} {todo : Nat → Prop} {F : List Int} {l : List Bool} (h : AInv d src ready cs n todo F l) (ht : ∀ j c, cs[j]? = some c → todo j → arr d c (at_ F (cf c)) = none) : AInv d src ready cs n (fun _ => False) F l :=
  ⟨h.lenF, h.lenl, h.at0, h.lo, h.lr, h.ord, h.sup, fun i c hi _ hc t hat => by
    by_cases z : todo i
    · rw [ht i c hi z] at hat; cases hat
    · exact h.clo i c hi z hc t hat⟩
/-- when no node is left to be left -/
theorem AInv.done {d : Con → Int} {src : Nat} {ready : Int} {cs : List Con} {n : Nat} {F : List Int} {l : List Bool} (h : AInv d src ready cs n (fun _ => False) F l) (hb : nxS F l n < 0) :
    (∀ c ∈ cs, 0 ≤ at_ F (cf c) → ∀ t, arr d c (at_ F (cf c)) = some t → 0 ≤ at_ F (ct c) ∧ at_ F (ct c) ≤ t) ∧ ∀ v, 0 ≤ at_ F v → v ≠ src → ∃ c ∈ cs, ct c = v ∧ 0 ≤ at_ F (cf c) ∧ arr d c (at_ F (cf c)) = some (at_ F v) := by
  refine ⟨fun c hc h0 t ht => ?_, fun v h0 hv => ?_⟩
  · obtain ⟨i, hi⟩ := List.getElem?_of_mem hc
    have hvn : cf c < n := by
      rcases Nat.lt_or_ge (cf c) n with z | z
      · exact z
      · unfold at_ at h0
        rw [List.getD_eq_getElem?_getD, List.getElem?_eq_none (by rw [h.lenF]; exact z)] at h0
        simp at h0
    have h1 := nxS_none hb (cf c) hvn h0
    refine h.clo i c hi (fun z => z) ?_ t ht
    unfold lt_
    rw [List.getD_eq_getElem?_getD, List.getElem?_eq_getElem (by rw [h.lenl]; exact hvn)] at h1 ⊢
    exact h1
  · obtain ⟨c, g1, g2, g3, g4⟩ := h.sup v hv h0
    exact ⟨c, g1, g2, h.lr _ g3, g4⟩
end Go.Proofs.YtbpmccfbfpgijaaGreat.Mt
