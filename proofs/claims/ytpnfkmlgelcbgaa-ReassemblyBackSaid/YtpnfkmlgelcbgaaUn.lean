/- Chapter 18: a changed byte, and what is missing: plain law. -/
import Derived.Test.YtpnfkmlgelcbgaaUm
import Derived.Test.YtpnfkmlgelcbgaaUa
set_option linter.unusedVariables false
set_option linter.unusedSimpArgs false
namespace Go.Proofs.Ytpnfkmlgelcbgaa
open Go Go.RowKit Iv
theorem chkE_pay {b : Bun} {l : List UInt8} (h : l.length = b.payload.length) : chkE { b with payload := l } = chkE b := by
  have e : payE { b with payload := l } = payE b := by
    unfold payE
    simp only [h]
  show (if idE b ≠ 0 then idE b else if endE b.dk b.dn ≠ 0 then endE b.dk b.dn
    else if b.life < 1 ∨ 1099511627776 - b.crt < b.life then 2 else if b.prio < 0 ∨ 2 < b.prio then 8
    else if flE b ≠ 0 then flE b else if blksE b.blocks ≠ 0 then blksE b.blocks else payE { b with payload := l }) = _
  rw [e]
  rfl
theorem chkE_pay0 {b : Bun} {l : List UInt8} (h : chkE b = 0) (ht : b.tot ≤ 0) (hl : l.length ≤ 4096) : chkE { b with payload := l } = 0 := by
  have k : payE { b with payload := l } = 0 := by
    unfold payE
    rw [if_neg (by show ¬ 4096 < l.length; omega), if_neg (by show ¬ (0 < b.tot ∧ _); omega)]
  have k0 : payE b = 0 := (chkE_zero h).2.2.2.1
  show (if idE b ≠ 0 then idE b else if endE b.dk b.dn ≠ 0 then endE b.dk b.dn
    else if b.life < 1 ∨ 1099511627776 - b.crt < b.life then 2 else if b.prio < 0 ∨ 2 < b.prio then 8
    else if flE b ≠ 0 then flE b else if blksE b.blocks ≠ 0 then blksE b.blocks else payE { b with payload := l }) = 0
  have h2 : (if idE b ≠ 0 then idE b else if endE b.dk b.dn ≠ 0 then endE b.dk b.dn
    else if b.life < 1 ∨ 1099511627776 - b.crt < b.life then 2 else if b.prio < 0 ∨ 2 < b.prio then 8
    else if flE b ≠ 0 then flE b else if blksE b.blocks ≠ 0 then blksE b.blocks else payE b) = 0 := h
  rw [k0] at h2
  rw [k]
  exact h2
theorem conflictP {p : Par} {b : Bun} {l : List UInt8} {i : Nat} (h : (addP p b).2 = 0) (hl : l.length = b.payload.length) (hi : i < b.payload.length) (hne : l.getD i 0 ≠ b.payload.getD i 0) : addP (addP p b).1 { b with payload := l } = (zPar, 24) := by
  have hval := addP_valid h
  have hag := addP_again h
  obtain ⟨hc, hv, ht, -, -, -, he⟩ := addP_ok h
  obtain ⟨-, -, -, hbel, hagr, -, -⟩ := addP_ok (p := (addP p b).1) (b := b) (by rw [hag])
  obtain ⟨v1, v2, v3, v4, v5, v6, v7, v8, v9, v10⟩ := valid_facts hv
  obtain ⟨s1, s2, s3, s4⟩ := span_nf hv ht
  obtain ⟨n1, n2, -⟩ := nf_valid hc
  have hin : inS (addP p b).1.known (b.off + i) = true := by
    rw [he]
    show inS (ins p.known (spanB b)) (b.off + i) = true
    rw [ins_in _ _ _ n1 s2]
    have e1 : (spanB b).1 ≤ b.off + i := by show b.off ≤ _; omega
    have e2 : b.off + i < (spanB b).2 := by show _ < b.off + b.payload.length; omega
    simp [e1, e2]
  have key : ∀ Q : Par, chkP Q = 0 → belB Q b = true → agrB Q { b with payload := l } = false → addP Q { b with payload := l } = (zPar, 24) := fun Q h1 h2 h3 => by
    unfold addP
    rw [if_neg (by rw [chkE_pay hl]; simp [h1, hv]), if_neg (fun hn => hn ht), if_neg (by show ¬ belB Q b = false; simp [h2]), if_pos h3]
  refine key _ hval hbel ?_
  rw [← Bool.not_eq_true]
  intro hq
  have f1 := (agr_facts hq).1 i (by show i < l.length; omega) hin
  have f2 := (agr_facts hagr).1 i hi hin
  exact hne (f1.symm.trans f2)
theorem outs_tot (m : Int) : ∀ (l : List Sp) (f : Int), NF (f - 1) l → (∀ x ∈ l, x.2 ≤ m) → f ≤ m → totS (outs m f l) + totS l = m - f
  | [], f, _, _, hf => by
    unfold outs
    split
    · simp [totS]
    · simp [totS]; omega
  | x :: r, f, h, hx, hf => by
    have h1 := h.1
    have h2 := h.2.1
    have ih := outs_tot m r x.2 (h.2.2.le (by omega)) (fun y hy => hx y (by simp [hy])) (hx x (by simp))
    have e : totS (x :: r) = (x.2 - x.1) + totS r := by simp [totS]
    unfold outs
    split
    · have e2 : totS ((f, x.1) :: outs m x.2 r) = (x.1 - f) + totS (outs m x.2 r) := by simp [totS]
      omega
    · omega
theorem outs_bnd {n : Int} {l : List Sp} (h : NF (-1) l) (hx : ∀ x ∈ l, x.2 ≤ n) : ∀ x ∈ outs n 0 l, 0 ≤ x.1 ∧ x.2 ≤ n := fun x hm => by
  have hn := outs_nf n l 0 h
  have hlo := hn.lo x hm
  have hi := outs_in n l 0 h hx
  have i1 := inS_iff.2 ⟨x, hm, Int.le_refl _, hlo.2⟩
  have i2 := inS_iff.2 ⟨x, hm, (by omega : x.1 ≤ x.2 - 1), (by omega : x.2 - 1 < x.2)⟩
  rw [hi] at i1 i2
  simp only [Bool.and_eq_true, decide_eq_true_eq] at i1 i2
  omega
theorem known_all {p : Par} (h : chkP p = 0) : NF (-1) p.known ∧ (∀ x ∈ p.known, 0 ≤ x.1 ∧ x.2 ≤ (p.data.length : Int)) ∧ chkSp p.known = 0 ∧ 1 ≤ p.data.length ∧ p.data.length ≤ 4096 := by
  obtain ⟨⟨c1, c2, c3, c4⟩, ⟨c5, c6⟩, c7, c8, c9, c10⟩ := chkP_full h
  obtain ⟨k1, k2, k3⟩ := chkSp_zero c7
  exact ⟨(rng_ok c8 k2).1, rng_all c8 k2, c7, c5, c6⟩
theorem miss_eq {p : Par} (h : chkP p = 0) : missP p = limS (outs p.data.length 0 p.known) := by
  obtain ⟨n1, hx, k1, d1, d2⟩ := known_all h
  rw [missP_2 h]
  unfold minS
  congr 1
  have o1 : NF (-1152921504606846976 - 1) p.known := n1.le (by omega)
  have o2 : NF (0 - 1) p.known := n1
  have a1 : NF (-1) [((0 : Int), (p.data.length : Int))] := ⟨by show (-1 : Int) < 0; omega, by show (0 : Int) < p.data.length; omega, trivial⟩
  refine NF.uniq (both_nf _ _ _ _ a1 (outs_nf _ _ _ o1)) (outs_nf _ _ _ o2) (fun t => ?_)
  rw [both_in, inS_cons, inS_nil, outs_in _ _ _ o1 (fun x hm => by have := hx x hm; omega), outs_in _ _ _ o2 (fun x hm => (hx x hm).2)]
  by_cases c1 : 0 ≤ t
  · by_cases c2 : t < p.data.length
    · have e1 : (-1152921504606846976 : Int) ≤ t := by omega
      have e2 : t < (1152921504606846976 : Int) := by omega
      simp [c1, c2, e1, e2]
    · simp [c2]
  · simp [c1]
theorem miss_ok {p : Par} (h : chkP p = 0) (he : (missP p).2 = 0) : missP p = (outs p.data.length 0 p.known, 0) ∧ chkSp (outs p.data.length 0 p.known) = 0 := by
  obtain ⟨n1, hx, k1, d1, d2⟩ := known_all h
  rw [miss_eq h] at he ⊢
  unfold limS at he ⊢
  split at he
  · cases he
  · rename_i hl
    rw [if_neg hl]
    refine ⟨rfl, chkSp_of (by omega) ((outs_nf _ _ _ n1).le (by omega)) (fun x hm => ?_)⟩
    have := outs_bnd n1 (fun y hy => (hx y hy).2) x hm
    omega
theorem miss_err {p : Par} (h : chkP p = 0) (he : (missP p).2 ≠ 0) : (missP p).2 = 4 := by
  rw [miss_eq h] at he ⊢
  unfold limS at he ⊢
  split
  · rfl
  · rename_i hl
    rw [if_neg hl] at he
    exact absurd rfl he
theorem miss_and {p : Par} (h : chkP p = 0) (he : (missP p).2 = 0) : combS (fun x y => x && y) (outs p.data.length 0 p.known) p.known = ([], 0) := by
  obtain ⟨n1, hx, k1, d1, d2⟩ := known_all h
  have hc := (miss_ok h he).2
  unfold combS
  rw [if_neg (by simp [hc, k1])]
  have hs := cmb_spec (fun x y => x && y) rfl (outs p.data.length 0 p.known) p.known (0 - 1) (outs_nf (p.data.length : Int) p.known 0 n1) n1
  have : cmb (fun x y => x && y) (outs p.data.length 0 p.known) p.known = [] := NF.uniq (c := -1) hs.2.1 trivial (fun t => by
    rw [hs.2.2, outs_in _ _ _ n1 (fun x hm => (hx x hm).2), inS_nil]
    cases inS p.known t <;> simp)
  rw [this]
  rfl
theorem miss_tot {p : Par} (h : chkP p = 0) : totS (outs p.data.length 0 p.known) + totS p.known = p.data.length := by
  obtain ⟨n1, hx, k1, d1, d2⟩ := known_all h
  have := outs_tot p.data.length p.known 0 n1 (fun x hm => (hx x hm).2) (by omega)
  omega
/-- complete -/
theorem full_iff {p : Par} (h : chkP p = 0) : (outs p.data.length 0 p.known = [] ↔ p.known = [(0, (p.data.length : Int))]) := by
  obtain ⟨n1, hx, k1, d1, d2⟩ := known_all h
  constructor
  · intro he
    refine NF.uniq (b := -1) (c := -1) n1 ⟨by show (-1 : Int) < 0; omega, by show (0 : Int) < p.data.length; omega, trivial⟩ (fun t => ?_)
    have hi := outs_in p.data.length p.known 0 n1 (fun x hm => (hx x hm).2) t
    rw [he, inS_nil] at hi
    rw [inS_cons, inS_nil]
    cases hk : inS p.known t with
    | true =>
      obtain ⟨x, hm, x1, x2⟩ := inS_iff.1 hk
      have := hx x hm
      have e1 : (0 : Int) ≤ t := by omega
      have e2 : t < (p.data.length : Int) := by omega
      simp [e1, e2]
    | false =>
      rw [hk] at hi
      simp only [Bool.not_false, Bool.and_true] at hi
      simp [← hi]
  · intro he
    rw [he]
    unfold outs
    rw [if_neg (by simp)]
    unfold outs
    rw [if_neg (by simp)]
theorem res_iff {p : Par} (h : chkP p = 0) : ((resP p).2 = 0 ↔ p.known = [(0, (p.data.length : Int))]) ∧ ((resP p).2 = 0 → resP p = ({ p.head with payload := p.data }, 0)) := by
  unfold resP
  rw [if_neg (by simp [h])]
  by_cases c : p.known.length = 1 ∧ p.known[0]? = some (0, (p.data.length : Int))
  · rw [if_pos c]
    refine ⟨⟨fun _ => ?_, fun _ => rfl⟩, fun _ => rfl⟩
    obtain ⟨c1, c2⟩ := c
    match hk : p.known, c1, c2 with
    | [x], _, c2 => simp at c2; rw [c2]
  · rw [if_neg c]
    refine ⟨⟨fun hh => by simp at hh, fun hh => absurd ⟨by rw [hh]; rfl, by rw [hh]; rfl⟩ c⟩, fun hh => by simp at hh⟩
theorem res_valid {p : Par} (h : chkP p = 0) : chkE { p.head with payload := p.data } = 0 ∧ isS { p.head with payload := p.data } = false := by
  obtain ⟨⟨c1, c2, c3, c4⟩, ⟨c5, c6⟩, c7, c8, c9, c10⟩ := chkP_full h
  refine ⟨chkE_pay0 c1 c2 c6, ?_⟩
  unfold isS
  have : decide (0 < p.head.tot) = false := decide_eq_false (by omega)
  show (_ && decide (0 < p.head.tot)) = false
  rw [this, Bool.and_false]
theorem cnt_iv (a b : Nat) (h : a ≤ b) : ∀ n : Nat, (List.range n).countP (fun t => decide (a ≤ t) && decide (t < b)) = min b n - min a n
  | 0 => by simp
  | n + 1 => by
    rw [List.range_succ, List.countP_append, cnt_iv a b h n, List.countP_singleton]
    by_cases c1 : a ≤ n
    · by_cases c2 : n < b
      · simp [c1, c2]; omega
      · simp [c2]; omega
    · simp [c1]; omega
theorem cnt_or (p q : Nat → Bool) : ∀ l : List Nat, (∀ t ∈ l, ¬ (p t = true ∧ q t = true)) → l.countP (fun t => p t || q t) = l.countP p + l.countP q
  | [], _ => rfl
  | x :: r, h => by
    have ih := cnt_or p q r (fun t ht => h t (by simp [ht]))
    have hx := h x (by simp)
    rw [List.countP_cons, List.countP_cons, List.countP_cons, ih]
    cases hp : p x <;> cases hq : q x <;> simp_all <;> omega
theorem tot_cnt : ∀ {l : List Sp} {b : Int} {n : Nat}, NF b l → -1 ≤ b → (∀ x ∈ l, x.2 ≤ (n : Int)) → totS l = (((List.range n).countP (fun t : Nat => inS l (t : Int)) : Nat) : Int)
  | [], b, n, _, _, _ => by
    have : (List.range n).countP (fun t : Nat => inS [] (t : Int)) = 0 := List.countP_eq_zero.2 (fun t _ => by simp [inS_nil])
    rw [this]
    rfl
  | x :: r, b, n, h, hb, hx => by
    have h1 := h.1
    have h2 := h.2.1
    have h3 := hx x (by simp)
    have ih := tot_cnt (n := n) h.2.2 (by omega) (fun y hy => hx y (by simp [hy]))
    have e : totS (x :: r) = (x.2 - x.1) + totS r := by simp [totS]
    have hf : (fun t : Nat => inS (x :: r) (t : Int)) = fun t => (decide (x.1.toNat ≤ t) && decide (t < x.2.toNat)) || inS r (t : Int) := by
      funext t
      rw [inS_cons]
      congr 2
      · exact decide_eq_decide.2 (by omega)
      · exact decide_eq_decide.2 (by omega)
    rw [e, ih, hf, cnt_or _ _ _ (fun t _ => by
      rintro ⟨t1, t2⟩
      simp only [Bool.and_eq_true, decide_eq_true_eq] at t1
      have := h.2.2.out (t := (t : Int)) (by omega)
      rw [this] at t2
      cases t2), cnt_iv _ _ (by omega)]
    omega
theorem tot_mono {l m : List Sp} {n : Nat} (h : NF (-1) l) (k : NF (-1) m) (hl : ∀ x ∈ l, x.2 ≤ (n : Int)) (hm : ∀ x ∈ m, x.2 ≤ (n : Int)) (hs : ∀ t, inS l t = true → inS m t = true) : totS l ≤ totS m := by
  rw [tot_cnt h (by omega) hl, tot_cnt k (by omega) hm]
  have := List.countP_mono_left (l := List.range n) (p := fun t : Nat => inS l (t : Int)) (q := fun t : Nat => inS m (t : Int)) (fun t _ ht => hs _ ht)
  omega
theorem add_less {p : Par} {b : Bun} (h : (addP p b).2 = 0) : totS (outs (addP p b).1.data.length 0 (addP p b).1.known) ≤ totS (outs p.data.length 0 p.known) := by
  have hval := addP_valid h
  obtain ⟨hc, hv, ht, hbel, -, -, he⟩ := addP_ok h
  have t1 := miss_tot hval
  have t2 := miss_tot hc
  obtain ⟨n1, hx, -, -, -⟩ := known_all hc
  obtain ⟨m1, my, -, -, -⟩ := known_all hval
  obtain ⟨s1, s2, s3, s4⟩ := span_nf hv ht
  obtain ⟨v1, v2, v3, v4, v5, v6, v7, v8, v9, v10⟩ := valid_facts hv
  obtain ⟨v11, v12⟩ := v10 ht
  obtain ⟨b1, b2, b3⟩ := bel_facts hbel
  have hl : (addP p b).1.data.length = p.data.length := by
    rw [he]
    exact writeS_len v1 (by omega)
  rw [hl] at t1 my ⊢
  have := tot_mono n1 m1 (fun x hm => (hx x hm).2) (fun x hm => (my x hm).2) (fun t ht => by
    rw [he]
    show inS (ins p.known (spanB b)) t = true
    rw [ins_in _ _ _ n1 s2, ht, Bool.or_true])
  omega
theorem add_full {p : Par} {b : Bun} (h : (addP p b).2 = 0) (hf : p.known = [(0, (p.data.length : Int))]) : (addP p b).1 = p := by
  obtain ⟨hc, hv, ht, hbel, hagr, -, he⟩ := addP_ok h
  obtain ⟨n1, hx, -, d1, -⟩ := known_all hc
  obtain ⟨s1, s2, s3, s4⟩ := span_nf hv ht
  obtain ⟨v1, v2, v3, v4, v5, v6, v7, v8, v9, v10⟩ := valid_facts hv
  obtain ⟨v11, v12⟩ := v10 ht
  obtain ⟨b1, b2, b3⟩ := bel_facts hbel
  obtain ⟨a1, a2⟩ := agr_facts hagr
  have hk : b.off = (b.off.toNat : Int) := by omega
  have hin : ∀ t : Int, 0 ≤ t → t < p.data.length → inS p.known t = true := fun t h1 h2 => by
    rw [hf, inS_cons]
    simp [h1, h2]
  have e1 : ins p.known (spanB b) = p.known := NF.uniq (ins_nf _ _ _ n1 (by omega) s2) n1 (fun t => by
    rw [ins_in _ _ _ n1 s2]
    by_cases c : (spanB b).1 ≤ t ∧ t < (spanB b).2
    · rw [hin t (by omega) (by omega), Bool.or_true]
    · have : (decide ((spanB b).1 ≤ t) && decide (t < (spanB b).2)) = false := by
        rw [← Bool.not_eq_true, Bool.and_eq_true, decide_eq_true_eq, decide_eq_true_eq]
        exact c
      rw [this, Bool.false_or])
  have e2 : writeS p.data b = p.data := by
    apply List.ext_getElem?
    intro j
    rw [writeS_at hk (by omega)]
    by_cases c : b.off.toNat ≤ j ∧ j < b.off.toNat + b.payload.length
    · rw [if_pos c]
      have f := a1 (j - b.off.toNat) (by omega) (hin _ (by omega) (by omega))
      rw [show b.off.toNat + (j - b.off.toNat) = j by omega, List.getD_eq_getElem?_getD, List.getD_eq_getElem?_getD, List.getElem?_eq_getElem (by omega : j < p.data.length), List.getElem?_eq_getElem (by omega : j - b.off.toNat < b.payload.length)] at f
      rw [List.getElem?_eq_getElem (by omega : j < p.data.length), List.getElem?_eq_getElem (by omega : j - b.off.toNat < b.payload.length)]
      exact congrArg some f.symm
    · rw [if_neg c]
  have e3 : (if b.off = 0 then b.blocks else p.head.blocks) = p.head.blocks := by
    split
    · rename_i o
      exact (a2 (by omega) (by rw [hf]; exact Int.le_refl 0)).symm
    · rfl
  rw [he]
  simp only [e1, e2, e3]
end Go.Proofs.Ytpnfkmlgelcbgaa
