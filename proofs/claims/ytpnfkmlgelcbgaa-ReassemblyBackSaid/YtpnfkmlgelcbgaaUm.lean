/- Chapter 18: adding again; what a partial bundle holds of the fragments that were added: plain law. -/
import Derived.Test.YtpnfkmlgelcbgaaUe
set_option linter.unusedVariables false
set_option linter.unusedSimpArgs false
namespace Go.Proofs.Ytpnfkmlgelcbgaa
open Go Go.RowKit Iv
theorem writeS_again {d : List UInt8} {b : Bun} (h0 : 0 ≤ b.off) (h1 : b.off + b.payload.length ≤ d.length) : writeS (writeS d b) b = writeS d b := by
  have hk : b.off = (b.off.toNat : Int) := by omega
  have hl := writeS_len h0 h1
  apply List.ext_getElem?
  intro j
  rw [writeS_at (d := writeS d b) hk (by omega), writeS_at hk (by omega)]
  by_cases c : b.off.toNat ≤ j ∧ j < b.off.toNat + b.payload.length
  · rw [if_pos c, if_pos c]
  · rw [if_neg c, if_neg c]
theorem ins_again {l : List Sp} {x : Sp} {b : Int} (h : NF b l) (hb : b < x.1) (hx : x.1 < x.2) : ins (ins l x) x = ins l x :=
  NF.uniq (ins_nf _ _ _ (ins_nf _ _ _ h hb hx) hb hx) (ins_nf _ _ _ h hb hx) (fun t => by
    rw [ins_in _ _ _ (ins_nf _ _ _ h hb hx) hx, ins_in _ _ _ h hx, ← Bool.or_assoc, Bool.or_self])
theorem agr_of {p : Par} {b : Bun} (h0 : 0 ≤ b.off) (hd : ∀ i, i < b.payload.length → inS p.known (b.off + i) = true → p.data.getD (b.off.toNat + i) 0 = b.payload.getD i 0) (hb : b.off = 0 → fromS p.known ≤ 0 → p.head.blocks = b.blocks) : agrB p b = true := by
  unfold agrB agrD
  rw [Bool.and_eq_true, List.all_eq_true]
  refine ⟨fun i hi => ?_, ?_⟩
  · have hi := List.mem_range.1 hi
    cases hk : inS p.known (b.off + i) with
    | false => rfl
    | true =>
      rw [hd i hi hk]
      simp
  · by_cases o : 0 < b.off
    · simp [o]
    · by_cases f : 0 < fromS p.known
      · simp [f]
      · have := hb (by omega) (by omega)
        rw [eqBs_iff.2 this]
        simp
theorem agr_facts {p : Par} {b : Bun} (h : agrB p b = true) : (∀ i, i < b.payload.length → inS p.known (b.off + i) = true → p.data.getD (b.off.toNat + i) 0 = b.payload.getD i 0) ∧ (b.off ≤ 0 → fromS p.known ≤ 0 → p.head.blocks = b.blocks) := by
  unfold agrB agrD at h
  rw [Bool.and_eq_true, List.all_eq_true] at h
  refine ⟨fun i hi hk => ?_, fun h1 h2 => ?_⟩
  · have := h.1 i (List.mem_range.2 hi)
    rw [hk] at this
    simpa using this
  · have h3 := h.2
    have e1 : decide (0 < b.off) = false := decide_eq_false (by omega)
    have e2 : decide (0 < fromS p.known) = false := decide_eq_false (by omega)
    rw [e1, e2] at h3
    exact eqBs_iff.1 (by simpa using h3)
theorem bel_of {p : Par} {b : Bun} (h1 : p.head.src = b.src ∧ p.head.crt = b.crt ∧ p.head.seq = b.seq ∧ p.head.dk = b.dk ∧ p.head.dn = b.dn ∧ p.head.life = b.life ∧ p.head.prio = b.prio ∧ p.head.flags = b.flags) (h2 : b.tot = p.data.length) (h3 : copyB p.head.blocks = copyB b.blocks) : belB p b = true := by
  obtain ⟨a1, a2, a3, a4, a5, a6, a7, a8⟩ := h1
  unfold belB
  rw [Bool.and_eq_true, decide_eq_true_eq]
  exact ⟨⟨a1, a2, a3, a4, a5, a6, a7, a8, h2⟩, eqBs_iff.2 h3⟩
theorem addP_of {p : Par} {b : Bun} (h1 : chkP p = 0) (h2 : chkE b = 0) (h3 : 0 < b.tot) (h4 : belB p b = true) (h5 : agrB p b = true) (h6 : (ins p.known (spanB b)).length ≤ 1000) :
    addP p b = (⟨{ p.head with blocks := if b.off = 0 then b.blocks else p.head.blocks }, ins p.known (spanB b), writeS p.data b⟩, 0) := by
  unfold addP
  rw [if_neg (by simp [h1, h2]), if_neg (by omega), if_neg (by simp [h4]), if_neg (by simp [h5]), if_neg (by omega)]
theorem nf_valid {p : Par} (h : chkP p = 0) : NF (-1) p.known ∧ 0 < p.known.length ∧ p.head.off = 0 ∧ p.head.tot = 0 ∧ p.head.payload = [] ∧ ∀ i : Nat, i < p.data.length → inS p.known i = false → p.data.getD i 0 = 0 := by
  obtain ⟨⟨c1, c2, c3, c4⟩, ⟨c5, c6⟩, c7, c8, c9, c10⟩ := chkP_full h
  obtain ⟨k1, k2, k3⟩ := chkSp_zero c7
  obtain ⟨r1, r2, r3⟩ := rng_ok c8 k2
  have g := valid_facts c1
  have htot : p.head.tot = 0 := by have := g.2.2.1; omega
  refine ⟨r1, r3, g.2.2.2.2.2.2.2.2.1 htot, htot, c3, fun i hi hk => ?_⟩
  by_cases z : p.data.getD i 0 = 0
  · exact z
  · have := dataBad_at (List.getElem?_eq_getElem hi) (by rw [List.getD_eq_getElem?_getD, List.getElem?_eq_getElem hi] at z; exact z) hk
    rw [this] at c9; cases c9
theorem addP_again {p : Par} {b : Bun} (h : (addP p b).2 = 0) : addP (addP p b).1 b = ((addP p b).1, 0) := by
  have hval := addP_valid h
  obtain ⟨hc, hv, ht, hbel, hagr, hlen, he⟩ := addP_ok h
  rw [he] at hval ⊢
  obtain ⟨n1, n2, -⟩ := nf_valid hc
  obtain ⟨s1, s2, s3, s4⟩ := span_nf hv ht
  obtain ⟨v1, v2, v3, v4, v5, v6, v7, v8, v9, v10⟩ := valid_facts hv
  obtain ⟨v11, v12⟩ := v10 ht
  obtain ⟨b1, b2, b3⟩ := bel_facts hbel
  have hw : (writeS p.data b).length = p.data.length := writeS_len v1 (by omega)
  have hk : b.off = (b.off.toNat : Int) := by omega
  have hi : ins (ins p.known (spanB b)) (spanB b) = ins p.known (spanB b) := ins_again n1 (by omega) s2
  have hww : writeS (writeS p.data b) b = writeS p.data b := writeS_again v1 (by omega)
  have := addP_of hval hv ht (bel_of b1 (by show b.tot = ((writeS p.data b).length : Int); rw [hw]; exact b2) (by
      show copyB (if b.off = 0 then b.blocks else p.head.blocks) = _
      split
      · rfl
      · exact b3)) (agr_of v1 (fun i hi hk' => by
        show (writeS p.data b).getD (b.off.toNat + i) 0 = _
        rw [List.getD_eq_getElem?_getD, writeS_at hk (by omega), if_pos ⟨by omega, by omega⟩, Nat.add_sub_cancel_left, ← List.getD_eq_getElem?_getD]) (fun o _ => by
        show (if b.off = 0 then b.blocks else p.head.blocks) = _
        exact if_pos o)) (by show (ins (ins p.known (spanB b)) (spanB b)).length ≤ 1000; rw [hi]; exact hlen)
  rw [this]
  simp only [hi, hww]
  by_cases o : b.off = 0
  · simp only [if_pos o]
  · simp only [if_neg o]
theorem newP_again {b : Bun} (h : (newP b).2 = 0) : addP (newP b).1 b = ((newP b).1, 0) := by
  have hval := newP_valid h
  obtain ⟨hv, ht, he⟩ := newP_ok h
  rw [he] at hval ⊢
  obtain ⟨n1, n2, -⟩ := nf_valid hval
  obtain ⟨s1, s2, s3, s4⟩ := span_nf hv ht
  obtain ⟨v1, v2, v3, v4, v5, v6, v7, v8, v9, v10⟩ := valid_facts hv
  obtain ⟨v11, v12⟩ := v10 ht
  have hr : (List.replicate b.tot.toNat (0 : UInt8)).length = b.tot.toNat := List.length_replicate
  have hl : (newD b).length = b.tot.toNat := by
    unfold newD
    rw [writeS_len v1 (by omega), hr]
  have hk : b.off = (b.off.toNat : Int) := by omega
  have hi : ins [spanB b] (spanB b) = [spanB b] := by
    refine NF.uniq (ins_nf _ _ _ n1 (by omega) s2) n1 (fun t => ?_)
    show inS (ins [spanB b] (spanB b)) t = inS [spanB b] t
    rw [ins_in _ _ _ n1 s2, inS_cons, ← Bool.or_assoc, Bool.or_self]
  have hww : writeS (newD b) b = newD b := by
    unfold newD
    exact writeS_again v1 (by omega)
  have := addP_of hval hv ht (bel_of ⟨rfl, rfl, rfl, rfl, rfl, rfl, rfl, rfl⟩ (by show b.tot = ((newD b).length : Int); omega) (by
      show copyB (if 0 < b.off then copyB b.blocks else b.blocks) = _
      split
      · exact copy_copy _
      · rfl)) (agr_of v1 (fun i hi hk' => by
        show (newD b).getD (b.off.toNat + i) 0 = _
        unfold newD
        rw [List.getD_eq_getElem?_getD, writeS_at hk (by omega), if_pos ⟨by omega, by omega⟩, Nat.add_sub_cancel_left, ← List.getD_eq_getElem?_getD]) (fun o _ => by
        show (if 0 < b.off then copyB b.blocks else b.blocks) = _
        exact if_neg (by omega))) (by show (ins [spanB b] (spanB b)).length ≤ 1000; rw [hi]; simp)
  rw [this]
  simp only [hi, hww]
  by_cases o : b.off = 0
  · have hb : (headB b).blocks = b.blocks := by unfold headB; exact if_neg (by omega)
    simp only [if_pos o]
    rw [← hb]
  · simp only [if_neg o]
/-- what a partial bundle holds of the fragments that were added -/
structure Hold (p : Par) (S : List Bun) : Prop where
  val : chkP p = 0
  mem : ∀ b ∈ S, chkE b = 0 ∧ 0 < b.tot ∧ belB p b = true
  kn : ∀ t, inS p.known t = S.any fun b => decide (b.off ≤ t) && decide (t < b.off + b.payload.length)
  dat : ∀ b ∈ S, ∀ i, i < b.payload.length → p.data.getD (b.off.toNat + i) 0 = b.payload.getD i 0
  blk0 : ∀ b ∈ S, b.off = 0 → p.head.blocks = b.blocks
  blkc : (∀ b ∈ S, b.off ≠ 0) → ∀ b ∈ S, p.head.blocks = copyB b.blocks
  len : p.known.length ≤ S.length
theorem ins_len : ∀ (l : List Sp) (x : Sp), (ins l x).length ≤ l.length + 1
  | [], x => by simp [ins]
  | y :: r, x => by
    have h1 := ins_len r x
    have h2 := ins_len r (min x.1 y.1, max x.2 y.2)
    unfold ins
    repeat' split
    all_goals (simp only [List.length_cons] at *; omega)
theorem Hold.new {b : Bun} (h : (newP b).2 = 0) : Hold (newP b).1 [b] := by
  have hval := newP_valid h
  obtain ⟨hv, ht, he⟩ := newP_ok h
  rw [he] at hval ⊢
  obtain ⟨v1, v2, v3, v4, v5, v6, v7, v8, v9, v10⟩ := valid_facts hv
  obtain ⟨v11, v12⟩ := v10 ht
  have hr : (List.replicate b.tot.toNat (0 : UInt8)).length = b.tot.toNat := List.length_replicate
  have hl : (newD b).length = b.tot.toNat := by
    unfold newD
    rw [writeS_len v1 (by omega), hr]
  have hk : b.off = (b.off.toNat : Int) := by omega
  refine ⟨hval, fun x hx => ?_, fun t => rfl, fun x hx i hi => ?_, fun x hx o => ?_, fun hn x hx => ?_, Nat.le_refl _⟩
  all_goals rw [List.mem_singleton] at hx; subst hx
  · refine ⟨hv, ht, bel_of ⟨rfl, rfl, rfl, rfl, rfl, rfl, rfl, rfl⟩ (by show x.tot = ((newD x).length : Int); omega) ?_⟩
    show copyB (if 0 < x.off then copyB x.blocks else x.blocks) = _
    split
    · exact copy_copy _
    · rfl
  · show (newD x).getD (x.off.toNat + i) 0 = _
    unfold newD
    rw [List.getD_eq_getElem?_getD, writeS_at hk (by omega), if_pos ⟨by omega, by omega⟩, Nat.add_sub_cancel_left, ← List.getD_eq_getElem?_getD]
  · show (if 0 < x.off then copyB x.blocks else x.blocks) = _
    exact if_neg (by omega)
  · show (if 0 < x.off then copyB x.blocks else x.blocks) = _
    exact if_pos (by have := hn x (by simp); omega)
theorem Hold.at {p : Par} {S : List Bun} (h : Hold p S) {t : Int} : inS p.known t = true ↔ ∃ b ∈ S, b.off ≤ t ∧ t < b.off + b.payload.length := by
  rw [h.kn, List.any_eq_true]
  simp
theorem Hold.add {p : Par} {S : List Bun} {b : Bun} (hS : Hold p S) (h : (addP p b).2 = 0) : Hold (addP p b).1 (b :: S) := by
  have hval := addP_valid h
  obtain ⟨hc, hv, ht, hbel, hagr, hlen, he⟩ := addP_ok h
  rw [he] at hval ⊢
  obtain ⟨n1, n2, -⟩ := nf_valid hc
  obtain ⟨s1, s2, s3, s4⟩ := span_nf hv ht
  obtain ⟨v1, v2, v3, v4, v5, v6, v7, v8, v9, v10⟩ := valid_facts hv
  obtain ⟨v11, v12⟩ := v10 ht
  obtain ⟨b1, b2, b3⟩ := bel_facts hbel
  obtain ⟨a1, a2⟩ := agr_facts hagr
  have hw : (writeS p.data b).length = p.data.length := writeS_len v1 (by omega)
  have hk : b.off = (b.off.toNat : Int) := by omega
  have hcov : ∀ x ∈ S, x.off = 0 → fromS p.known ≤ 0 := fun x hx o => by
    obtain ⟨w1, w2, w3⟩ := hS.mem x hx
    have g := (valid_facts w1).2.2.2.2.2.2.2.2.2 w2
    have e1 : inS p.known 0 = true := hS.at.2 ⟨x, hx, by omega, (by omega : (0 : Int) < x.off + x.payload.length)⟩
    rcases Int.lt_or_le 0 (fromS p.known) with z | z
    · have e2 := (from_in n1 n2).2.1 z
      rw [e1] at e2
      cases e2
    · exact z
  refine ⟨hval, fun x hx => ?_, fun t => ?_, fun x hx i hi => ?_, fun x hx o => ?_, fun hn x hx => ?_, ?_⟩
  · have hx' : chkE x = 0 ∧ 0 < x.tot ∧ belB p x = true := by
      rcases List.mem_cons.1 hx with rfl | hx
      · exact ⟨hv, ht, hbel⟩
      · exact hS.mem x hx
    obtain ⟨x1, x2, x3⟩ := hx'
    obtain ⟨y1, y2, y3⟩ := bel_facts x3
    refine ⟨x1, x2, bel_of y1 (by show x.tot = ((writeS p.data b).length : Int); rw [hw]; exact y2) ?_⟩
    show copyB (if b.off = 0 then b.blocks else p.head.blocks) = _
    split
    · rw [← b3, y3]
    · exact y3
  · show inS (ins p.known (spanB b)) t = _
    rw [ins_in _ _ _ n1 s2, List.any_cons, hS.kn]
    rfl
  · show (writeS p.data b).getD (x.off.toNat + i) 0 = _
    have hx' : chkE x = 0 ∧ 0 < x.tot ∧ belB p x = true := by
      rcases List.mem_cons.1 hx with rfl | hx
      · exact ⟨hv, ht, hbel⟩
      · exact hS.mem x hx
    have g0 := (valid_facts hx'.1).1
    rw [List.getD_eq_getElem?_getD, writeS_at hk (by omega)]
    by_cases c : b.off.toNat ≤ x.off.toNat + i ∧ x.off.toNat + i < b.off.toNat + b.payload.length
    · rw [if_pos c, ← List.getD_eq_getElem?_getD]
      rcases List.mem_cons.1 hx with rfl | hx
      · rw [Nat.add_sub_cancel_left]
      · have e1 := hS.dat x hx i hi
        have e2 : inS p.known (b.off + ((x.off.toNat + i - b.off.toNat : Nat) : Int)) = true := hS.at.2 ⟨x, hx, by omega, by omega⟩
        have e3 := a1 (x.off.toNat + i - b.off.toNat) (by omega) e2
        rw [show b.off.toNat + (x.off.toNat + i - b.off.toNat) = x.off.toNat + i by omega, e1] at e3
        exact e3.symm
    · rw [if_neg c, ← List.getD_eq_getElem?_getD]
      rcases List.mem_cons.1 hx with rfl | hx
      · exact absurd ⟨by omega, by omega⟩ c
      · exact hS.dat x hx i hi
  · show (if b.off = 0 then b.blocks else p.head.blocks) = _
    rcases List.mem_cons.1 hx with rfl | hx
    · exact if_pos o
    · by_cases ob : b.off = 0
      · rw [if_pos ob, ← a2 (by omega) (hcov x hx o)]
        exact hS.blk0 x hx o
      · rw [if_neg ob]
        exact hS.blk0 x hx o
  · show (if b.off = 0 then b.blocks else p.head.blocks) = _
    rw [if_neg (hn b (by simp))]
    have hc' := hS.blkc (fun y hy => hn y (by simp [hy]))
    rcases List.mem_cons.1 hx with rfl | hx
    · have hne : 0 < S.length := by have := hS.len; omega
      obtain ⟨y, hy⟩ := List.exists_mem_of_length_pos hne
      rw [← b3, hc' y hy, copy_copy]
    · exact hc' x hx
  · have := ins_len p.known (spanB b)
    have := hS.len
    show (ins p.known (spanB b)).length ≤ S.length + 1
    omega
theorem Hold.uniq {p q : Par} {S T : List Bun} (h : Hold p S) (k : Hold q T) (hm : ∀ b, b ∈ S ↔ b ∈ T) : p = q := by
  obtain ⟨n1, n2, n3, n4, n5, n6⟩ := nf_valid h.val
  obtain ⟨m1, m2, m3, m4, m5, m6⟩ := nf_valid k.val
  have hne : 0 < S.length := by have := h.len; omega
  obtain ⟨x, hx⟩ := List.exists_mem_of_length_pos hne
  have hxT := (hm x).1 hx
  obtain ⟨w1, w2, w3⟩ := h.mem x hx
  obtain ⟨w4, w5, w6⟩ := k.mem x hxT
  obtain ⟨⟨a1, a2, a3, a4, a5, a6, a7, a8⟩, a9, a10⟩ := bel_facts w3
  obtain ⟨⟨c1, c2, c3, c4, c5, c6, c7, c8⟩, c9, c10⟩ := bel_facts w6
  have hk : p.known = q.known := NF.uniq n1 m1 (fun t => by
    rw [Bool.eq_iff_iff, h.at, k.at]
    constructor
    · rintro ⟨b, hb, h2⟩; exact ⟨b, (hm b).1 hb, h2⟩
    · rintro ⟨b, hb, h2⟩; exact ⟨b, (hm b).2 hb, h2⟩)
  have hl : p.data.length = q.data.length := by omega
  have hd : p.data = q.data := by
    apply List.ext_getElem hl
    intro i h1 h2
    have e1 : p.data[i] = p.data.getD i 0 := by rw [List.getD_eq_getElem?_getD, List.getElem?_eq_getElem h1]; rfl
    have e2 : q.data[i] = q.data.getD i 0 := by rw [List.getD_eq_getElem?_getD, List.getElem?_eq_getElem h2]; rfl
    rw [e1, e2]
    cases z : inS p.known i with
    | false => rw [n6 i h1 z, m6 i h2 (by rw [← hk]; exact z)]
    | true =>
      obtain ⟨b, hb, b1, b2⟩ := h.at.1 z
      have g0 := (valid_facts (h.mem b hb).1).1
      have d1 := h.dat b hb (i - b.off.toNat) (by omega)
      have d2 := k.dat b ((hm b).1 hb) (i - b.off.toNat) (by omega)
      rw [show b.off.toNat + (i - b.off.toNat) = i by omega] at d1 d2
      rw [d1, d2]
  have hb : p.head.blocks = q.head.blocks := by
    by_cases ex : ∃ b ∈ S, b.off = 0
    · obtain ⟨b, hb, o⟩ := ex
      rw [h.blk0 b hb o, k.blk0 b ((hm b).1 hb) o]
    · have e1 := h.blkc (fun b hb o => ex ⟨b, hb, o⟩) x hx
      have e2 := k.blkc (fun b hb o => ex ⟨b, (hm b).2 hb, o⟩) x hxT
      rw [e1, e2]
  obtain ⟨⟨p1, p2, p3, p4, p5, p6, p7, p8, p9, p10, p11, p12⟩, pk, pd⟩ := p
  obtain ⟨⟨q1, q2, q3, q4, q5, q6, q7, q8, q9, q10, q11, q12⟩, qk, qd⟩ := q
  simp only at *
  subst hk hd hb n3 n4 n5 m3 m4 m5
  simp only [a1, a2, a3, a4, a5, a6, a7, a8, c1, c2, c3, c4, c5, c6, c7, c8]
theorem Hold.all {p : Par} {S : List Bun} (h : Hold p S) : ∀ {l : List Bun}, (addAll l (p, 0)).2 = 0 → ∃ T, Hold (addAll l (p, 0)).1 T ∧ (∀ b, b ∈ T ↔ b ∈ l ∨ b ∈ S) ∧ T.length = l.length + S.length := by
  intro l
  induction l generalizing p S with
  | nil => intro _; exact ⟨S, h, fun b => by simp, by simp⟩
  | cons x r ih =>
    intro hz
    have e : addAll (x :: r) (p, 0) = addAll r (addP p x) := by
      conv => lhs; unfold addAll
      exact if_neg (by simp)
    rw [e] at hz ⊢
    by_cases hx : (addP p x).2 = 0
    · obtain ⟨q, hq⟩ : ∃ q, (addP p x).1 = q := ⟨_, rfl⟩
      have e2 : addP p x = (q, 0) := by rw [← hq, ← hx]
      have hh := h.add hx
      rw [hq] at hh
      rw [e2] at hz ⊢
      obtain ⟨T, h1, h2, h3⟩ := ih hh hz
      refine ⟨T, h1, fun b => ?_, by rw [h3]; simp only [List.length_cons]; omega⟩
      rw [h2]
      simp only [List.mem_cons]
      constructor
      · rintro (h | rfl | h)
        · exact .inl (.inr h)
        · exact .inl (.inl rfl)
        · exact .inr h
      · rintro ((rfl | h) | h)
        · exact .inr (.inl rfl)
        · exact .inl h
        · exact .inr (.inr h)
    · have : addAll r (addP p x) = addP p x := by
        cases r with
        | nil => rfl
        | cons y s => unfold addAll; rw [if_pos hx]
      rw [this] at hz
      exact absurd hz hx
/-- the sum of two orders is the same partial bundle -/
theorem order_same {a b : Bun} {r s : List Bun} (h1 : (addAll r (newP a)).2 = 0) (h2 : (addAll s (newP b)).2 = 0) (hm : ∀ x, x ∈ a :: r ↔ x ∈ b :: s) : (addAll r (newP a)).1 = (addAll s (newP b)).1 ∧ chkP (addAll r (newP a)).1 = 0 := by
  have key : ∀ {a : Bun} {r : List Bun}, (addAll r (newP a)).2 = 0 → ∃ T, Hold (addAll r (newP a)).1 T ∧ ∀ x, x ∈ T ↔ x ∈ a :: r := by
    intro a r h
    by_cases hx : (newP a).2 = 0
    · obtain ⟨q, hq⟩ : ∃ q, (newP a).1 = q := ⟨_, rfl⟩
      have e2 : newP a = (q, 0) := by rw [← hq, ← hx]
      have hh := Hold.new hx
      rw [hq] at hh
      rw [e2] at h ⊢
      obtain ⟨T, k1, k2, -⟩ := hh.all h
      exact ⟨T, k1, fun x => by rw [k2]; simp [or_comm]⟩
    · have : addAll r (newP a) = newP a := by
        cases r with
        | nil => rfl
        | cons y s => unfold addAll; rw [if_pos hx]
      rw [this] at h
      exact absurd h hx
  obtain ⟨S, k1, k2⟩ := key h1
  obtain ⟨T, k3, k4⟩ := key h2
  exact ⟨k1.uniq k3 (fun x => by rw [k2, k4]; exact hm x), k1.val⟩
end Go.Proofs.Ytpnfkmlgelcbgaa
