/- Chapter 19: the plain law of Separate: what is read out of a joined payload, and that joining and separating undo each other. -/
import Derived.Test.YtpkklmkeflddkaaGreatQo
import Derived.Test.YtpkklmkeflddkaaGreatQf
set_option linter.unusedVariables false
set_option linter.unusedSimpArgs false
namespace Go.Proofs.YtpkklmkeflddkaaGreat
open Go.RowKit
def rdB (s : List UInt8) : List Bun × Bool :=
  if (readS s).2.2 ≠ 0 then ([], false) else match partsF (s.drop (readS s).2.1.toNat).length (s.drop (readS s).2.1.toNat) with
    | none => ([], false)
    | some l => (l, decide ((readS s).1 = (l.length : Int)))
def farB (b y : Bun) : Bool := b.src != y.src || (b.dk != y.dk || b.dn != y.dn) || b.prio != y.prio
def sepL (b : Bun) (l : List Bun) : List Bun × Int := match l with
  | [] => ([], 11)
  | y :: r => if farB b y = true ∨ b.crt < crtS (y :: r) ∨ endS (y :: r) < expS b then ([], 11) else (y :: r, 0)
/-- what Separate answers -/
def sepS (b : Bun) : List Bun × Int :=
  if chkE b ≠ 0 then ([], chkE b) else if joinedB b = false then ([], 8)
  else if (rdB b.payload).2 = false ∨ chkJ (rdB b.payload).1 ≠ 0 ∨ ¬ crtS (rdB b.payload).1 < endS (rdB b.payload).1 ∨ payS (rdB b.payload).1 ≠ b.payload then ([], 11)
  else sepL b (rdB b.payload).1
theorem fits_valid {b : Bun} (h : chkE b = 0) : Fits b := by
  refine ⟨?_, blks_fit (blks_chk (chkE_zero h).2.2.1)⟩
  have := (payE_zero (chkE_zero h).2.2.2.1).1
  unfold maxLen; omega
theorem parts_pay : ∀ (f : Nat) (s : List UInt8) (l : List Bun), partsF f s = some l → l.flatMap (fun b => textE (bunR b)) = s ∧ (∀ x ∈ l, chkE x = 0) ∧ l.length ≤ s.length
  | 0, s, l, h => by
    unfold partsF at h
    split at h
    · rename_i hz
      injection h with h
      subst h hz
      exact ⟨rfl, by simp, by simp⟩
    · cases h
  | f + 1, s, l, h => by
    unfold partsF at h
    split at h
    · rename_i hz
      injection h with h
      subst h hz
      exact ⟨rfl, by simp, by simp⟩
    obtain ⟨⟨t, k, e⟩, ht⟩ : ∃ q, textS s = q := ⟨_, rfl⟩
    obtain ⟨⟨b, E⟩, hE⟩ : ∃ q, decBS t = q := ⟨_, rfl⟩
    rw [ht] at h
    simp only at h
    rw [hE] at h
    simp only at h
    split at h
    · cases h
    rename_i he
    split at h
    · cases h
    rename_i hE0
    have he0 : e = 0 := Classical.byContradiction he
    have hEE : E = 0 := Classical.byContradiction hE0
    subst he0 hEE
    obtain ⟨m, hm, rfl⟩ := Option.map_eq_some_iff.1 h
    obtain ⟨⟨r, rfl⟩, rfl, _⟩ := text_read ht
    obtain ⟨rfl, hv⟩ := enc_decB hE
    rw [Int.toNat_natCast, List.drop_left] at hm
    obtain ⟨h1, h2, h3⟩ := parts_pay f r m hm
    have := (textE_len (bunE b)).1
    refine ⟨?_, ?_, ?_⟩
    · rw [List.flatMap_cons, h1, bunR_ok hv]
    · intro x hx
      rcases List.mem_cons.1 hx with rfl | hx
      · exact hv
      · exact h2 x hx
    · rw [List.length_cons, List.length_append]
      omega
theorem textE_ne (t r : List UInt8) : textE t ++ r ≠ [] := by
  intro h
  have h1 := congrArg List.length h
  have h2 := (textE_len t).1
  rw [List.length_append] at h1
  simp only [List.length_nil] at h1
  omega
theorem pay_parts : ∀ (l : List Bun), (∀ x ∈ l, chkE x = 0) → ∀ f, l.length ≤ f → partsF f (l.flatMap (fun b => textE (bunR b))) = some l
  | [], _, f, _ => partsF_nil f
  | b :: l, h, f, hf => by
    obtain ⟨f', rfl⟩ : ∃ f', f = f' + 1 := ⟨f - 1, by simp at hf; omega⟩
    have hv := h b (by simp)
    have hl := bunR_len b
    have ht := read_text (bunR b) (l.flatMap (fun b => textE (bunR b))) (by omega)
    rw [List.flatMap_cons, partsF_ok ht (textE_ne _ _) (by rw [bunR_ok hv, decB_enc hv]), Int.toNat_natCast, List.drop_left, pay_parts l (fun x hx => h x (by simp [hx])) f' (by simp at hf; omega), bunR_ok hv, decB_enc hv]
    rfl
theorem rd_pay {s : List UInt8} {l : List Bun} (h : rdB s = (l, true)) : payS l = s ∧ (∀ x ∈ l, chkE x = 0) ∧ l.length ≤ s.length := by
  unfold rdB at h
  obtain ⟨⟨m, k, e⟩, hr⟩ : ∃ q, readS s = q := ⟨_, rfl⟩
  rw [hr] at h
  simp only at h
  split at h
  · cases h
  rename_i he
  have he0 : e = 0 := Classical.byContradiction he
  subst he0
  obtain ⟨r, rfl, rfl⟩ := int_read hr
  rw [Int.toNat_natCast, List.drop_left] at h
  split at h
  · cases h
  rename_i l' hl
  injection h with h1 h2
  subst h1
  obtain ⟨g1, g2, g3⟩ := parts_pay _ _ _ hl
  refine ⟨?_, g2, ?_⟩
  · unfold payS
    rw [g1, of_decide_eq_true h2]
  · rw [List.length_append]; omega
theorem pflat_len (l : List Bun) : l.length ≤ (l.flatMap (fun b => textE (bunR b))).length := by
  induction l with
  | nil => simp
  | cons b l ih =>
    have := (textE_len (bunR b)).1
    rw [List.flatMap_cons, List.length_append, List.length_cons]
    omega
theorem rd_join {l : List Bun} (h : ∀ x ∈ l, chkE x = 0) (hl : l.length ≤ 20000) : rdB (payS l) = (l, true) := by
  unfold rdB payS
  have hr := read_int (l.length : Int) (l.flatMap (fun b => textE (bunR b))) (by omega) (by omega)
  rw [hr]
  simp only
  rw [if_neg (by simp), Int.toNat_natCast, List.drop_left, pay_parts l h _ (pflat_len l)]
  simp
/-- the reference's reading: n bundles, and what is left -/
def partsN : Nat → List UInt8 → Option (List Bun × List UInt8)
  | 0, s => some ([], s)
  | n + 1, s => if (textS s).2.2 ≠ 0 then none else if (decBS (textS s).1).2 ≠ 0 then none else (partsN n (s.drop (textS s).2.1.toNat)).map (fun q => ((decBS (textS s).1).1 :: q.1, q.2))
theorem text_nil : (textS []).2.2 ≠ 0 := by decide
theorem parts_N : ∀ (f : Nat) (s : List UInt8) (l : List Bun), partsF f s = some l → partsN l.length s = some (l, [])
  | 0, s, l, h => by
    unfold partsF at h
    split at h
    · rename_i hz
      injection h with h
      subst h hz
      rfl
    · cases h
  | f + 1, s, l, h => by
    unfold partsF at h
    split at h
    · rename_i hz
      injection h with h
      subst h hz
      rfl
    split at h
    · cases h
    rename_i h1
    split at h
    · cases h
    rename_i h2
    obtain ⟨m, hm, rfl⟩ := Option.map_eq_some_iff.1 h
    rw [List.length_cons, partsN, if_neg h1, if_neg h2, parts_N f _ m hm]
    rfl
theorem N_parts : ∀ (n : Nat) (s : List UInt8) (l : List Bun), partsN n s = some (l, []) → l.length = n ∧ ∀ f, s.length ≤ f → partsF f s = some l
  | 0, s, l, h => by
    unfold partsN at h
    injection h with h
    injection h with h1 h2
    subst h1 h2
    exact ⟨rfl, fun f _ => partsF_nil f⟩
  | n + 1, s, l, h => by
    unfold partsN at h
    split at h
    · cases h
    rename_i h1
    split at h
    · cases h
    rename_i h2
    obtain ⟨⟨m, r⟩, hm, he⟩ := Option.map_eq_some_iff.1 h
    injection he with e1 e2
    simp only at e1 e2
    subst e1 e2
    obtain ⟨g1, g2⟩ := N_parts n _ m hm
    refine ⟨by rw [List.length_cons, g1], fun f hf => ?_⟩
    have hz : s ≠ [] := by rintro rfl; exact h1 text_nil
    obtain ⟨⟨t, k, e⟩, ht⟩ : ∃ q, textS s = q := ⟨_, rfl⟩
    rw [ht] at h1 h2 g2 ⊢
    simp only at h1 h2 g2 ⊢
    have he0 : e = 0 := Classical.byContradiction h1
    subst he0
    have hk := ((textS_ok ht).1 rfl)
    have hlen : 0 < s.length := List.length_pos_iff.2 hz
    obtain ⟨f', rfl⟩ : ∃ f', f = f' + 1 := ⟨f - 1, by omega⟩
    rw [partsF_ok ht hz (Classical.byContradiction h2), g2 f' (by rw [List.length_drop]; omega)]
    rfl
/-- what the reference's Separate answers -/
def rsepS (b : Bun) : List Bun × Int :=
  if chkE b ≠ 0 then ([], chkE b) else if joinedB b = false then ([], 8)
  else if (readS b.payload).2.2 ≠ 0 ∨ (readS b.payload).1 < 1 ∨ 4096 < (readS b.payload).1 then ([], 11)
  else match partsN (readS b.payload).1.toNat (b.payload.drop (readS b.payload).2.1.toNat) with
    | none => ([], 11)
    | some (l, r) => if r ≠ [] ∨ rjS l 0 ≠ 0 ∨ b.crt < crtS l ∨ endS l < expS b then ([], 11) else match l with
      | [] => ([], 11)
      | y :: m => if farB b y = true then ([], 11) else (y :: m, 0)
theorem chk_pay {b : Bun} (h : chkE b = 0) : b.payload.length ≤ 4096 := by
  obtain ⟨_, _, _, h4, _⟩ := chkE_zero h
  unfold payE at h4
  split at h4
  · cases h4
  · omega
theorem rsep_eq (b : Bun) : rsepS b = sepS b := by
  unfold rsepS sepS sepL
  by_cases hc : chkE b = 0
  case neg => rw [if_pos hc, if_pos hc]
  have hc' : ¬ (chkE b ≠ 0) := by simpa using hc
  rw [if_neg hc', if_neg hc']
  by_cases hj : joinedB b = false
  · rw [if_pos hj, if_pos hj]
  rw [if_neg hj, if_neg hj]
  have hp := chk_pay hc
  obtain ⟨⟨n, k, e⟩, hr⟩ : ∃ q, readS b.payload = q := ⟨_, rfl⟩
  have hrd : rdB b.payload = if e ≠ 0 then ([], false) else match partsF (b.payload.drop k.toNat).length (b.payload.drop k.toNat) with
      | none => ([], false)
      | some l => (l, decide (n = (l.length : Int))) := by unfold rdB; rw [hr]
  rw [hr]
  simp only
  by_cases he : e = 0
  case neg => rw [if_pos (.inl he), hrd, if_pos he, if_pos (.inl rfl)]
  subst he
  rw [if_neg (by simp)] at hrd
  obtain ⟨s2, hs2⟩ : ∃ q, b.payload.drop k.toNat = q := ⟨_, rfl⟩
  rw [hs2] at hrd ⊢
  have hls : s2.length ≤ 4096 := by rw [← hs2, List.length_drop]; omega
  cases hP : partsF s2.length s2 with
  | none =>
    rw [hP] at hrd
    rw [hrd, if_pos (Or.inl rfl)]
    split
    · rfl
    split
    · rfl
    · rename_i l r hN
      by_cases hr0 : r = []
      · subst hr0
        have := (N_parts _ _ _ hN).2 _ (Nat.le_refl _)
        rw [hP] at this
        cases this
      · rw [if_pos (.inl hr0)]
  | some l =>
    rw [hP] at hrd
    simp only at hrd
    by_cases hn : n = (l.length : Int)
    case neg =>
      rw [decide_eq_false hn] at hrd
      rw [hrd, if_pos (Or.inl rfl)]
      split
      · rfl
      rename_i hb
      split
      · rfl
      · rename_i l' r hN
        by_cases hr0 : r = []
        · subst hr0
          obtain ⟨g1, g2⟩ := N_parts _ _ _ hN
          have := g2 _ (Nat.le_refl _)
          rw [hP] at this
          injection this with this
          subst this
          exfalso
          omega
        · rw [if_pos (.inl hr0)]
    subst hn
    rw [decide_eq_true rfl] at hrd
    have hpay := (rd_pay hrd).1
    have hll := (parts_pay _ _ _ hP).2.2
    rw [hrd]
    simp only
    by_cases h0 : (l.length : Int) < 1
    · have : l = [] := List.length_eq_zero_iff.1 (by omega)
      subst this
      rw [if_pos (.inr (.inl h0)), if_pos (.inr (.inl (by decide)))]
    rw [if_neg (by omega), Int.toNat_natCast, parts_N _ _ _ hP]
    simp only
    by_cases hJ : chkJ l = 0
    case neg =>
      rw [if_pos (Or.inr (Or.inl (by unfold rjS; rw [if_pos hJ]; exact hJ))), if_pos (Or.inr (Or.inl hJ))]
    by_cases hA : crtS l < endS l
    case neg =>
      rw [if_pos (Or.inr (Or.inl (by unfold rjS; rw [if_neg (by simpa using hJ), if_neg (by omega), if_pos hA]; decide))), if_pos (Or.inr (Or.inr (Or.inl hA)))]
    have hrj : rjS l 0 = 0 := by unfold rjS; rw [if_neg (by simpa using hJ), if_neg (by omega), if_neg (by simpa using hA)]
    rw [if_neg (by simp [hJ, hA, hpay]) (c := _ ∨ _ ∨ _ ∨ payS l ≠ _)]
    cases l with
    | nil => simp at h0
    | cons y r =>
      simp only
      by_cases hF : farB b y = true
      · rw [if_pos (Or.inl hF), if_pos hF]
        split <;> rfl
      · by_cases hT : b.crt < crtS (y :: r) ∨ endS (y :: r) < expS b
        · rw [if_pos (Or.inr (Or.inr hT)), if_pos (Or.inr hT)]
        · rw [if_neg (by rw [hrj]; simpa using hT), if_neg hF, if_neg (by simp only [hF]; simpa using hT)]
/-- what a joined bundle is -/
theorem join_facts {l : List Bun} {seq : Int} {b : Bun} (h : joinS l seq = (b, 0)) : ∃ y r, l = y :: r ∧ (∀ x ∈ l, chkE x = 0) ∧ l.any joinedB = false ∧ l.any (misB y) = false ∧ 0 ≤ seq ∧ seq ≤ 1099511627776 ∧ crtS l < endS l ∧ (payS l).length ≤ 4096 ∧ b = ⟨y.src, crtS l, seq, 0, 0, y.dk, y.dn, endS l - crtS l, y.prio, joinF l, [], payS l⟩ := by
  unfold joinS at h
  split at h
  · injection h with _ h; exact absurd h ‹_›
  rename_i hJ
  have hJ0 : chkJ l = 0 := Classical.byContradiction hJ
  split at h
  · injection h with _ h; cases h
  rename_i hs
  split at h
  · injection h with _ h; cases h
  rename_i ha
  split at h
  · injection h with _ h; cases h
  rename_i hp
  obtain ⟨y, r, rfl, h1, h2, h3⟩ := chkJ_zero hJ0
  injection h with h _
  exact ⟨y, r, rfl, h1, h2, h3, by omega, by omega, by omega, by omega, h.symm⟩
theorem join_valid {l : List Bun} {seq : Int} {b : Bun} (h : joinS l seq = (b, 0)) : chkE b = 0 ∧ joinedB b = true := by
  obtain ⟨y, r, rfl, h1, h2, h3, h4, h5, h6, h7, rfl⟩ := join_facts h
  obtain ⟨t1, t2, t3, t4⟩ := times_range h1
  obtain ⟨v1, v2, v3, v4, v5, v6, v7⟩ := chkE_zero (h1 y (by simp))
  have hid : idB (⟨y.src, crtS (y :: r), seq, 0, 0, y.dk, y.dn, endS (y :: r) - crtS (y :: r), y.prio, joinF (y :: r), [], payS (y :: r)⟩ : Bun) = true := by
    have := of_decide_eq_true v1
    unfold idB
    rw [decide_eq_true_eq]
    simp only
    exact ⟨by omega, by omega, t1, t2, h4, h5, .inl ⟨trivial, trivial⟩⟩
  have hfl : joinF (y :: r) = 64 ∨ joinF (y :: r) = 65 := by unfold joinF; split <;> simp
  constructor
  · unfold chkE
    rw [if_neg (by unfold idE; rw [if_pos hid]; simp), if_neg (by simpa using v7), if_neg (by simp only; omega), if_neg (by simp only; omega), if_neg (by unfold flE flB; simp only; rcases hfl with e | e <;> rw [e] <;> simp [show hasF 64 4 = false from by decide, show hasF 65 4 = false from by decide]), if_neg (show ¬ (blksE [] ≠ 0) by decide)]
    unfold payE
    rw [if_neg (by simp only; omega), if_neg (by simp)]
  · unfold joinedB
    rcases hfl with e | e <;> simp only [e] <;> decide
theorem join_exp {l : List Bun} {seq : Int} {b : Bun} (h : joinS l seq = (b, 0)) : expS b = endS l := by
  have hv := (join_valid h).1
  obtain ⟨y, r, rfl, h1, h2, h3, h4, h5, h6, h7, rfl⟩ := join_facts h
  unfold expS
  rw [if_neg (by simpa using hv)]
  simp only
  omega
theorem chkJ_ok {y : Bun} {r : List Bun} (h1 : ∀ x ∈ y :: r, chkE x = 0) (h2 : (y :: r).any joinedB = false) (h3 : (y :: r).any (misB y) = false) : chkJ (y :: r) = 0 := by
  rw [chkJ_cons, if_neg (by rw [any_no (fun x hx => by rw [h1 x hx]; rfl)]; simp), if_neg (by rw [h2]; simp), if_neg (by rw [h3]; simp)]
/-- separating what was joined -/
theorem sep_join {l : List Bun} {seq : Int} {b : Bun} (h : joinS l seq = (b, 0)) (hl : l.length ≤ 20000) : sepS b = (l, 0) := by
  obtain ⟨v1, v2⟩ := join_valid h
  have he := join_exp h
  obtain ⟨y, r, rfl, h1, h2, h3, h4, h5, h6, h7, rfl⟩ := join_facts h
  have hr := rd_join h1 hl
  unfold sepS sepL
  rw [if_neg (by simpa using v1), if_neg (by rw [v2]; simp)]
  simp only
  rw [hr]
  simp only
  rw [if_neg (by simp [chkJ_ok h1 h2 h3, h6]), if_neg (by rw [he]; simp [farB])]
theorem sep_facts {b : Bun} {l : List Bun} (h : sepS b = (l, 0)) : chkE b = 0 ∧ joinedB b = true ∧ ∃ y r, l = y :: r ∧ chkJ l = 0 ∧ crtS l < endS l ∧ payS l = b.payload ∧ farB b y = false ∧ crtS l ≤ b.crt ∧ expS b ≤ endS l := by
  unfold sepS sepL at h
  split at h
  · injection h with _ h; exact absurd h ‹_›
  rename_i hc
  split at h
  · injection h with _ h; cases h
  rename_i hj
  split at h
  · injection h with _ h; cases h
  rename_i hx
  rw [not_or, not_or, not_or] at hx
  obtain ⟨x1, x2, x3, x4⟩ := hx
  split at h
  · injection h with _ h; cases h
  rename_i y r hl
  split at h
  · injection h with _ h; cases h
  rename_i hf
  rw [not_or, not_or] at hf
  injection h with h _
  subst h
  rw [hl] at x2 x3 x4
  exact ⟨Classical.byContradiction hc, by simpa using hj, y, r, rfl, Classical.byContradiction x2, Classical.byContradiction x3, Classical.byContradiction x4, by simpa using hf.1, by omega, by omega⟩
/-- joining what was separated -/
theorem join_sep {b : Bun} {l : List Bun} (h : sepS b = (l, 0)) : ∃ c, joinS l b.seq = (c, 0) ∧ c.payload = b.payload ∧ c.src = b.src ∧ c.seq = b.seq ∧ c.dk = b.dk ∧ c.dn = b.dn ∧ c.prio = b.prio ∧ c.crt ≤ b.crt ∧ expS b ≤ expS c := by
  obtain ⟨v1, v2, y, r, rfl, hJ, hA, hP, hF, hC, hE⟩ := sep_facts h
  have hp := chk_pay v1
  have hid := of_decide_eq_true (chkE_zero v1).1
  have hj : joinS (y :: r) b.seq = (⟨y.src, crtS (y :: r), b.seq, 0, 0, y.dk, y.dn, endS (y :: r) - crtS (y :: r), y.prio, joinF (y :: r), [], payS (y :: r)⟩, 0) := by
    unfold joinS
    rw [if_neg (by simpa using hJ), if_neg (by omega), if_neg (by simpa using hA), if_neg (by rw [hP]; omega)]
  have he := join_exp hj
  unfold farB at hF
  simp only [Bool.or_eq_false_iff, bne_eq_false_iff_eq] at hF
  obtain ⟨⟨f1, f2, f3⟩, f4⟩ := hF
  exact ⟨_, hj, hP, f1.symm, rfl, f2.symm, f3.symm, f4.symm, hC, by rw [he]; exact hE⟩
theorem sep_err {b : Bun} {l : List Bun} {e : Int} (h : sepS b = (l, e)) (he : e ≠ 0) : l = [] := by
  unfold sepS sepL at h
  split at h
  · injection h with h _; exact h.symm
  split at h
  · injection h with h _; exact h.symm
  split at h
  · injection h with h _; exact h.symm
  split at h
  · injection h with h _; exact h.symm
  split at h
  · injection h with h _; exact h.symm
  · injection h with _ h; exact absurd h.symm he
end Go.Proofs.YtpkklmkeflddkaaGreat
