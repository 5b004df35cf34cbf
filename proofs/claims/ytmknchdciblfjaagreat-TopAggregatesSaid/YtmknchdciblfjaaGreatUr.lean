/- Joined by port.py: XUm XUn XUr -/
import Derived.Test.YtmknchdciblfjaaGreatUaz
import Derived.Test.YtmknchdciblfjaaGreatJb
import Derived.Test.YtmknchdciblfjaaGreatJd
import Derived.Test.YtmknchdciblfjaaGreatJe
import Derived.Test.YtmknchdciblfjaaGreatJm
import Derived.Test.YtmknchdciblfjaaGreatJo
import Derived.Test.YtmknchdciblfjaaGreatJs
import Derived.Test.YtmknchdciblfjaaGreatJp
import Derived.Test.YtmknchdciblfjaaGreatKaz
import Derived.Test.YtmknchdciblfjaaGreatJw
import Derived.Test.YtmknchdciblfjaaGreatKd
import Derived.Test.YtmknchdciblfjaaGreatSb
import Derived.Test.YtmknchdciblfjaaGreatSkz
import Derived.Test.YtmknchdciblfjaaGreatSm
import Derived.Test.YtmknchdciblfjaaGreatSp
import Derived.Test.YtmknchdciblfjaaGreatUf
set_option linter.unusedVariables false
set_option linter.unusedSimpArgs false
/-! XUm -/
namespace Go.Proofs.YtmknchdciblfjaaGreat
open Go Go.RowKit Iv
theorem agr_of {p : Par} {b : Bun} (h0 : 0 ≤ b.off) (hd : ∀ i, i < b.payload.length → inS p.known (b.off + i) = true → p.data.getD (b.off.toNat + i) 0 = b.payload.getD i 0) (hb : b.off = 0 → fromS p.known ≤ 0 → p.head.blocks = b.blocks) : agrB p b = true := by
  unfold agrB agrD
  rw [Bool.and_eq_true, List.all_eq_true]
  refine ⟨fun i hi => ?_, ?_⟩
  · have hi := List.mem_range.1 hi
    cases hk : inS p.known (b.off + i) with
    | false => rfl
    | true =>
      rw [hd i hi hk]
      simp
  · by_cases o : 0 < b.off
    · simp [o]
    · by_cases f : 0 < fromS p.known
      · simp [f]
      · have := hb (by omega) (by omega)
        rw [eqBs_iff.2 this]
        simp
theorem agr_facts {p : Par} {b : Bun} (h : agrB p b = true) : (∀ i, i < b.payload.length → inS p.known (b.off + i) = true → p.data.getD (b.off.toNat + i) 0 = b.payload.getD i 0) ∧ (b.off ≤ 0 → fromS p.known ≤ 0 → p.head.blocks = b.blocks) := by
  unfold agrB agrD at h
  rw [Bool.and_eq_true, List.all_eq_true] at h
  refine ⟨fun i hi hk => ?_, fun h1 h2 => ?_⟩
  · have := h.1 i (List.mem_range.2 hi)
    rw [hk] at this
    simpa using this
  · have h3 := h.2
    have e1 : decide (0 < b.off) = false := decide_eq_false (by omega)
    have e2 : decide (0 < fromS p.known) = false := decide_eq_false (by omega)
    rw [e1, e2] at h3
    exact eqBs_iff.1 (by simpa using h3)
theorem bel_of {p : Par} {b : Bun} (h1 : p.head.src = b.src ∧ p.head.crt = b.crt ∧ p.head.seq = b.seq ∧ p.head.dk = b.dk ∧ p.head.dn = b.dn ∧ p.head.life = b.life ∧ p.head.prio = b.prio ∧ p.head.flags = b.flags) (h2 : b.tot = p.data.length) (h3 : copyB p.head.blocks = copyB b.blocks) : belB p b = true := by
  obtain ⟨a1, a2, a3, a4, a5, a6, a7, a8⟩ := h1
  unfold belB
  rw [Bool.and_eq_true, decide_eq_true_eq]
  exact ⟨⟨a1, a2, a3, a4, a5, a6, a7, a8, h2⟩, eqBs_iff.2 h3⟩
theorem addP_of {p : Par} {b : Bun} (h1 : chkP p = 0) (h2 : chkE b = 0) (h3 : 0 < b.tot) (h4 : belB p b = true) (h5 : agrB p b = true) (h6 : (ins p.known (spanB b)).length ≤ 1000) :
    addP p b = (⟨{ p.head with blocks := if b.off = 0 then b.blocks else p.head.blocks }, ins p.known (spanB b), writeS p.data b⟩, 0) := by
  unfold addP
  rw [if_neg (by simp [h1, h2]), if_neg (by omega), if_neg (by simp [h4]), if_neg (by simp [h5]), if_neg (by omega)]
theorem nf_valid {p : Par} (h : chkP p = 0) : NF (-1) p.known ∧ 0 < p.known.length ∧ p.head.off = 0 ∧ p.head.tot = 0 ∧ p.head.payload = [] ∧ ∀ i : Nat, i < p.data.length → inS p.known i = false → p.data.getD i 0 = 0 := by
  obtain ⟨⟨c1, c2, c3, c4⟩, ⟨c5, c6⟩, c7, c8, c9, c10⟩ := chkP_full h
  obtain ⟨k1, k2, k3⟩ := chkSp_zero c7
  obtain ⟨r1, r2, r3⟩ := rng_ok c8 k2
  have g := valid_facts c1
  have htot : p.head.tot = 0 := by have := g.2.2.1; omega
  refine ⟨r1, r3, g.2.2.2.2.2.2.2.2.1 htot, htot, c3, fun i hi hk => ?_⟩
  by_cases z : p.data.getD i 0 = 0
  · exact z
  · have := dataBad_at (List.getElem?_eq_getElem hi) (by rw [List.getD_eq_getElem?_getD, List.getElem?_eq_getElem hi] at z; exact z) hk
    rw [this] at c9; cases c9
/-- what a partial bundle holds of the fragments that were added -/
structure Hold (p : Par) (S : List Bun) : Prop where
  val : chkP p = 0
  mem : ∀ b ∈ S, chkE b = 0 ∧ 0 < b.tot ∧ belB p b = true
  kn : ∀ t, inS p.known t = S.any fun b => decide (b.off ≤ t) && decide (t < b.off + b.payload.length)
  dat : ∀ b ∈ S, ∀ i, i < b.payload.length → p.data.getD (b.off.toNat + i) 0 = b.payload.getD i 0
  blk0 : ∀ b ∈ S, b.off = 0 → p.head.blocks = b.blocks
  blkc : (∀ b ∈ S, b.off ≠ 0) → ∀ b ∈ S, p.head.blocks = copyB b.blocks
  len : p.known.length ≤ S.length
theorem ins_len : ∀ (l : List Sp) (x : Sp), (ins l x).length ≤ l.length + 1
  | [], x => by simp [ins]
  | y :: r, x => by
    have h1 := ins_len r x
    have h2 := ins_len r (min x.1 y.1, max x.2 y.2)
    unfold ins
    repeat' split
    all_goals (simp only [List.length_cons] at *; omega)
theorem Hold.new {b : Bun} (h : (newP b).2 = 0) : Hold (newP b).1 [b] := by
  have hval := newP_valid h
  obtain ⟨hv, ht, he⟩ := newP_ok h
  rw [he] at hval ⊢
  obtain ⟨v1, v2, v3, v4, v5, v6, v7, v8, v9, v10⟩ := valid_facts hv
  obtain ⟨v11, v12⟩ := v10 ht
  have hr : (List.replicate b.tot.toNat (0 : UInt8)).length = b.tot.toNat := List.length_replicate
  have hl : (newD b).length = b.tot.toNat := by
    unfold newD
    rw [writeS_len v1 (by omega), hr]
  have hk : b.off = (b.off.toNat : Int) := by omega
  refine ⟨hval, fun x hx => ?_, fun t => rfl, fun x hx i hi => ?_, fun x hx o => ?_, fun hn x hx => ?_, Nat.le_refl _⟩
  all_goals rw [List.mem_singleton] at hx; subst hx
  · refine ⟨hv, ht, bel_of ⟨rfl, rfl, rfl, rfl, rfl, rfl, rfl, rfl⟩ (by show x.tot = ((newD x).length : Int); omega) ?_⟩
    show copyB (if 0 < x.off then copyB x.blocks else x.blocks) = _
    split
    · exact copy_copy _
    · rfl
  · show (newD x).getD (x.off.toNat + i) 0 = _
    unfold newD
    rw [List.getD_eq_getElem?_getD, writeS_at hk (by omega), if_pos ⟨by omega, by omega⟩, Nat.add_sub_cancel_left, ← List.getD_eq_getElem?_getD]
  · show (if 0 < x.off then copyB x.blocks else x.blocks) = _
    exact if_neg (by omega)
  · show (if 0 < x.off then copyB x.blocks else x.blocks) = _
    exact if_pos (by have := hn x (by simp); omega)
theorem Hold.at {p : Par} {S : List Bun} (h : Hold p S) {t : Int} : inS p.known t = true ↔ ∃ b ∈ S, b.off ≤ t ∧ t < b.off + b.payload.length := by
  rw [h.kn, List.any_eq_true]
  simp
theorem Hold.add {p : Par} {S : List Bun} {b : Bun} (hS : Hold p S) (h : (addP p b).2 = 0) : Hold (addP p b).1 (b :: S) := by
  have hval := addP_valid h
  obtain ⟨hc, hv, ht, hbel, hagr, hlen, he⟩ := addP_ok h
  rw [he] at hval ⊢
  obtain ⟨n1, n2, -⟩ := nf_valid hc
  obtain ⟨s1, s2, s3, s4⟩ := span_nf hv ht
  obtain ⟨v1, v2, v3, v4, v5, v6, v7, v8, v9, v10⟩ := valid_facts hv
  obtain ⟨v11, v12⟩ := v10 ht
  obtain ⟨b1, b2, b3⟩ := bel_facts hbel
  obtain ⟨a1, a2⟩ := agr_facts hagr
  have hw : (writeS p.data b).length = p.data.length := writeS_len v1 (by omega)
  have hk : b.off = (b.off.toNat : Int) := by omega
  have hcov : ∀ x ∈ S, x.off = 0 → fromS p.known ≤ 0 := fun x hx o => by
    obtain ⟨w1, w2, w3⟩ := hS.mem x hx
    have g := (valid_facts w1).2.2.2.2.2.2.2.2.2 w2
    have e1 : inS p.known 0 = true := hS.at.2 ⟨x, hx, by omega, (by omega : (0 : Int) < x.off + x.payload.length)⟩
    rcases Int.lt_or_le 0 (fromS p.known) with z | z
    · have e2 := (from_in n1 n2).2.1 z
      rw [e1] at e2
      cases e2
    · exact z
  refine ⟨hval, fun x hx => ?_, fun t => ?_, fun x hx i hi => ?_, fun x hx o => ?_, fun hn x hx => ?_, ?_⟩
  · have hx' : chkE x = 0 ∧ 0 < x.tot ∧ belB p x = true := by
      rcases List.mem_cons.1 hx with rfl | hx
      · exact ⟨hv, ht, hbel⟩
      · exact hS.mem x hx
    obtain ⟨x1, x2, x3⟩ := hx'
    obtain ⟨y1, y2, y3⟩ := bel_facts x3
    refine ⟨x1, x2, bel_of y1 (by show x.tot = ((writeS p.data b).length : Int); rw [hw]; exact y2) ?_⟩
    show copyB (if b.off = 0 then b.blocks else p.head.blocks) = _
    split
    · rw [← b3, y3]
    · exact y3
  · show inS (ins p.known (spanB b)) t = _
    rw [ins_in _ _ _ n1 s2, List.any_cons, hS.kn]
    rfl
  · show (writeS p.data b).getD (x.off.toNat + i) 0 = _
    have hx' : chkE x = 0 ∧ 0 < x.tot ∧ belB p x = true := by
      rcases List.mem_cons.1 hx with rfl | hx
      · exact ⟨hv, ht, hbel⟩
      · exact hS.mem x hx
    have g0 := (valid_facts hx'.1).1
    rw [List.getD_eq_getElem?_getD, writeS_at hk (by omega)]
    by_cases c : b.off.toNat ≤ x.off.toNat + i ∧ x.off.toNat + i < b.off.toNat + b.payload.length
    · rw [if_pos c, ← List.getD_eq_getElem?_getD]
      rcases List.mem_cons.1 hx with rfl | hx
      · rw [Nat.add_sub_cancel_left]
      · have e1 := hS.dat x hx i hi
        have e2 : inS p.known (b.off + ((x.off.toNat + i - b.off.toNat : Nat) : Int)) = true := hS.at.2 ⟨x, hx, by omega, by omega⟩
        have e3 := a1 (x.off.toNat + i - b.off.toNat) (by omega) e2
        rw [show b.off.toNat + (x.off.toNat + i - b.off.toNat) = x.off.toNat + i by omega, e1] at e3
        exact e3.symm
    · rw [if_neg c, ← List.getD_eq_getElem?_getD]
      rcases List.mem_cons.1 hx with rfl | hx
      · exact absurd ⟨by omega, by omega⟩ c
      · exact hS.dat x hx i hi
  · show (if b.off = 0 then b.blocks else p.head.blocks) = _
    rcases List.mem_cons.1 hx with rfl | hx
    · exact if_pos o
    · by_cases ob : b.off = 0
      · rw [if_pos ob, ← a2 (by omega) (hcov x hx o)]
        exact hS.blk0 x hx o
      · rw [if_neg ob]
        exact hS.blk0 x hx o
  · show (if b.off = 0 then b.blocks else p.head.blocks) = _
    rw [if_neg (hn b (by simp))]
    have hc' := hS.blkc (fun y hy => hn y (by simp [hy]))
    rcases List.mem_cons.1 hx with rfl | hx
    · have hne : 0 < S.length := by have := hS.len; omega
      obtain ⟨y, hy⟩ := List.exists_mem_of_length_pos hne
      rw [← b3, hc' y hy, copy_copy]
    · exact hc' x hx
  · have := ins_len p.known (spanB b)
    have := hS.len
    show (ins p.known (spanB b)).length ≤ S.length + 1
    omega
theorem Hold.uniq {p q : Par} {S T : List Bun} (h : Hold p S) (k : Hold q T) (hm : ∀ b, b ∈ S ↔ b ∈ T) : p = q := by
  obtain ⟨n1, n2, n3, n4, n5, n6⟩ := nf_valid h.val
  obtain ⟨m1, m2, m3, m4, m5, m6⟩ := nf_valid k.val
  have hne : 0 < S.length := by have := h.len; omega
  obtain ⟨x, hx⟩ := List.exists_mem_of_length_pos hne
  have hxT := (hm x).1 hx
  obtain ⟨w1, w2, w3⟩ := h.mem x hx
  obtain ⟨w4, w5, w6⟩ := k.mem x hxT
  obtain ⟨⟨a1, a2, a3, a4, a5, a6, a7, a8⟩, a9, a10⟩ := bel_facts w3
  obtain ⟨⟨c1, c2, c3, c4, c5, c6, c7, c8⟩, c9, c10⟩ := bel_facts w6
  have hk : p.known = q.known := NF.uniq n1 m1 (fun t => by
    rw [Bool.eq_iff_iff, h.at, k.at]
    constructor
    · rintro ⟨b, hb, h2⟩; exact ⟨b, (hm b).1 hb, h2⟩
    · rintro ⟨b, hb, h2⟩; exact ⟨b, (hm b).2 hb, h2⟩)
  have hl : p.data.length = q.data.length := by omega
  have hd : p.data = q.data := by
    apply List.ext_getElem hl
    intro i h1 h2
    have e1 : p.data[i] = p.data.getD i 0 := by rw [List.getD_eq_getElem?_getD, List.getElem?_eq_getElem h1]; rfl
    have e2 : q.data[i] = q.data.getD i 0 := by rw [List.getD_eq_getElem?_getD, List.getElem?_eq_getElem h2]; rfl
    rw [e1, e2]
    cases z : inS p.known i with
    | false => rw [n6 i h1 z, m6 i h2 (by rw [← hk]; exact z)]
    | true =>
      obtain ⟨b, hb, b1, b2⟩ := h.at.1 z
      have g0 := (valid_facts (h.mem b hb).1).1
      have d1 := h.dat b hb (i - b.off.toNat) (by omega)
      have d2 := k.dat b ((hm b).1 hb) (i - b.off.toNat) (by omega)
      rw [show b.off.toNat + (i - b.off.toNat) = i by omega] at d1 d2
      rw [d1, d2]
  have hb : p.head.blocks = q.head.blocks := by
    by_cases ex : ∃ b ∈ S, b.off = 0
    · obtain ⟨b, hb, o⟩ := ex
      rw [h.blk0 b hb o, k.blk0 b ((hm b).1 hb) o]
    · have e1 := h.blkc (fun b hb o => ex ⟨b, hb, o⟩) x hx
      have e2 := k.blkc (fun b hb o => ex ⟨b, (hm b).2 hb, o⟩) x hxT
      rw [e1, e2]
  obtain ⟨⟨p1, p2, p3, p4, p5, p6, p7, p8, p9, p10, p11, p12⟩, pk, pd⟩ := p
  obtain ⟨⟨q1, q2, q3, q4, q5, q6, q7, q8, q9, q10, q11, q12⟩, qk, qd⟩ := q
  simp only at *
  subst hk hd hb n3 n4 n5 m3 m4 m5
  simp only [a1, a2, a3, a4, a5, a6, a7, a8, c1, c2, c3, c4, c5, c6, c7, c8]
theorem Hold.all {p : Par} {S : List Bun} (h : Hold p S) : ∀ {l : List Bun}, (addAll l (p, 0)).2 = 0 → ∃ T, Hold (addAll l (p, 0)).1 T ∧ (∀ b, b ∈ T ↔ b ∈ l ∨ b ∈ S) ∧ T.length = l.length + S.length := by
  intro l
  induction l generalizing p S with
  | nil => intro _; exact ⟨S, h, fun b => by simp, by simp⟩
  | cons x r ih =>
    intro hz
    have e : addAll (x :: r) (p, 0) = addAll r (addP p x) := by
      conv => lhs; unfold addAll
      exact if_neg (by simp)
    rw [e] at hz ⊢
    by_cases hx : (addP p x).2 = 0
    · obtain ⟨q, hq⟩ : ∃ q, (addP p x).1 = q := ⟨_, rfl⟩
      have e2 : addP p x = (q, 0) := by rw [← hq, ← hx]
      have hh := h.add hx
      rw [hq] at hh
      rw [e2] at hz ⊢
      obtain ⟨T, h1, h2, h3⟩ := ih hh hz
      refine ⟨T, h1, fun b => ?_, by rw [h3]; simp only [List.length_cons]; omega⟩
      rw [h2]
      simp only [List.mem_cons]
      constructor
      · rintro (h | rfl | h)
        · exact .inl (.inr h)
        · exact .inl (.inl rfl)
        · exact .inr h
      · rintro ((rfl | h) | h)
        · exact .inr (.inl rfl)
        · exact .inl h
        · exact .inr (.inr h)
    · have : addAll r (addP p x) = addP p x := by
        cases r with
        | nil => rfl
        | cons y s => unfold addAll; rw [if_pos hx]
      rw [this] at hz
      exact absurd hz hx
end Go.Proofs.YtmknchdciblfjaaGreat
/-! XUn -/
namespace Go.Proofs.YtmknchdciblfjaaGreat
open Go Go.RowKit Iv
theorem known_all {p : Par} (h : chkP p = 0) : NF (-1) p.known ∧ (∀ x ∈ p.known, 0 ≤ x.1 ∧ x.2 ≤ (p.data.length : Int)) ∧ chkSp p.known = 0 ∧ 1 ≤ p.data.length ∧ p.data.length ≤ 4096 := by
  obtain ⟨⟨c1, c2, c3, c4⟩, ⟨c5, c6⟩, c7, c8, c9, c10⟩ := chkP_full h
  obtain ⟨k1, k2, k3⟩ := chkSp_zero c7
  exact ⟨(rng_ok c8 k2).1, rng_all c8 k2, c7, c5, c6⟩
theorem res_iff {p : Par} (h : chkP p = 0) : ((resP p).2 = 0 ↔ p.known = [(0, (p.data.length : Int))]) ∧ ((resP p).2 = 0 → resP p = ({ p.head with payload := p.data }, 0)) := by
  unfold resP
  rw [if_neg (by simp [h])]
  by_cases c : p.known.length = 1 ∧ p.known[0]? = some (0, (p.data.length : Int))
  · rw [if_pos c]
    refine ⟨⟨fun _ => ?_, fun _ => rfl⟩, fun _ => rfl⟩
    obtain ⟨c1, c2⟩ := c
    match hk : p.known, c1, c2 with
    | [x], _, c2 => simp at c2; rw [c2]
  · rw [if_neg c]
    refine ⟨⟨fun hh => by simp at hh, fun hh => absurd ⟨by rw [hh]; rfl, by rw [hh]; rfl⟩ c⟩, fun hh => by simp at hh⟩
end Go.Proofs.YtmknchdciblfjaaGreat
/-! XUr -/
namespace Go.Proofs.YtmknchdciblfjaaGreat
open Go Go.RowKit Iv
/-- a fragment of a whole bundle, or a fragment of such -/
structure FragOf (b x : Bun) : Prop where
  valid : chkE x = 0
  cuts : cutE x = 0
  flds : x.src = b.src ∧ x.crt = b.crt ∧ x.seq = b.seq ∧ x.dk = b.dk ∧ x.dn = b.dn ∧ x.life = b.life ∧ x.prio = b.prio ∧ x.flags = b.flags
  tot : x.tot = b.payload.length
  off : 0 ≤ x.off
  bnd : x.off + x.payload.length ≤ b.payload.length
  pos : 0 < x.payload.length
  pay : ∀ i, i < x.payload.length → x.payload.getD i 0 = b.payload.getD (x.off.toNat + i) 0
  blk : x.blocks = if 0 < x.off then copyB b.blocks else b.blocks
theorem FragOf.copy {b x : Bun} (h : FragOf b x) : copyB x.blocks = copyB b.blocks := by
  rw [h.blk]
  split
  · exact copy_copy _
  · rfl
theorem Hold.pos {p : Par} {S : List Bun} (h : Hold p S) : ∃ y, y ∈ S := by
  have := (nf_valid h.val).2.1
  exact List.exists_mem_of_length_pos (by have := h.len; omega)
theorem frag_add {b x : Bun} {p : Par} {S : List Bun} (h : Hold p S) (hS : ∀ y ∈ S, FragOf b y) (hx : FragOf b x) (hl : S.length ≤ 999) : (addP p x).2 = 0 := by
  obtain ⟨y, hy⟩ := h.pos
  have fy := hS y hy
  obtain ⟨n1, n2, n3, n4, n5, n6⟩ := nf_valid h.val
  obtain ⟨a1, a2, a3, a4, a5, a6, a7, a8⟩ := fy.flds
  obtain ⟨c1, c2, c3, c4, c5, c6, c7, c8⟩ := hx.flds
  obtain ⟨⟨d1, d2, d3, d4, d5, d6, d7, d8⟩, d9, d10⟩ := bel_facts (h.mem y hy).2.2
  have ht : 0 < x.tot := by have := hx.tot; have := hx.bnd; have := hx.pos; have := hx.off; omega
  have := addP_of h.val hx.valid ht (bel_of ⟨by omega, by omega, by omega, by omega, by omega, by omega, by omega, by omega⟩ (by have := hx.tot; have := fy.tot; omega) (by rw [d10, fy.copy, hx.copy])) (agr_of hx.off (fun i hi hk => by
    obtain ⟨z, hz, z1, z2⟩ := h.at.1 hk
    have fz := hS z hz
    have o1 := hx.off
    have o2 := fz.off
    have e1 := h.dat z hz (x.off.toNat + i - z.off.toNat) (by omega)
    have e2 := fz.pay (x.off.toNat + i - z.off.toNat) (by omega)
    rw [show z.off.toNat + (x.off.toNat + i - z.off.toNat) = x.off.toNat + i by omega] at e1 e2
    rw [e1, e2, hx.pay i hi]) (fun o hf => by
    have e0 : inS p.known 0 = true := by
      cases hk : inS p.known 0 with
      | true => rfl
      | false => have := (from_in n1 n2).2.2 hk; omega
    obtain ⟨z, hz, z1, z2⟩ := h.at.1 e0
    have fz := hS z hz
    have o2 := fz.off
    rw [h.blk0 z hz (by omega), fz.blk, hx.blk, if_neg (by omega), if_neg (by omega)])) (by have := ins_len p.known (spanB x); have := h.len; omega)
  rw [this]
theorem frag_new {b x : Bun} (hx : FragOf b x) : (newP x).2 = 0 := by
  have ht : 0 < x.tot := by have := hx.tot; have := hx.bnd; have := hx.pos; have := hx.off; omega
  unfold newP
  rw [if_neg (by simp [hx.valid]), if_neg (by omega)]
theorem frag_all {b : Bun} : ∀ {l : List Bun} {p : Par} {S : List Bun}, Hold p S → (∀ y ∈ S, FragOf b y) → (∀ y ∈ l, FragOf b y) → S.length + l.length ≤ 999 → (addAll l (p, 0)).2 = 0
  | [], p, S, _, _, _, _ => rfl
  | x :: r, p, S, h, hS, hl, hn => by
    simp only [List.length_cons] at hn
    have hx := hl x (by simp)
    have h2 := frag_add h hS hx (by omega)
    have h3 := h.add h2
    obtain ⟨q, hq⟩ : ∃ q, (addP p x).1 = q := ⟨_, rfl⟩
    have e2 : addP p x = (q, 0) := by rw [← hq, ← h2]
    rw [hq] at h3
    have e : addAll (x :: r) (p, 0) = addAll r (addP p x) := by
      conv => lhs; unfold addAll
      exact if_neg (by simp)
    rw [e, e2]
    exact frag_all h3 (fun y hy => by rcases List.mem_cons.1 hy with rfl | hy; exact hx; exact hS y hy) (fun y hy => hl y (by simp [hy])) (by simp only [List.length_cons]; omega)
/-- the fragments, if they cover the bundle, make it -/
theorem frag_whole_all {b : Bun} (hv : chkE b = 0) (ht : b.tot = 0) {x : Bun} {r : List Bun} (hl : ∀ y ∈ x :: r, FragOf b y) (hn : r.length ≤ 900) (hc : ∀ t : Int, 0 ≤ t → t < b.payload.length → ∃ y ∈ x :: r, y.off ≤ t ∧ t < y.off + y.payload.length) : allP (x :: r) = (b, 0) := by
  have h0 := frag_new (hl x (by simp))
  obtain ⟨q, hq⟩ : ∃ q, (newP x).1 = q := ⟨_, rfl⟩
  have e0 : newP x = (q, 0) := by rw [← hq, ← h0]
  have hh := Hold.new h0
  rw [hq] at hh
  have h1 := frag_all hh (fun y hy => hl y (List.mem_cons.2 (.inl (List.mem_singleton.1 hy)))) (fun y hy => hl y (List.mem_cons.2 (.inr hy))) (by simp only [List.length_cons, List.length_nil]; omega)
  obtain ⟨T, hT, hm, -⟩ := hh.all h1
  obtain ⟨P, hP⟩ : ∃ P, (addAll r (q, 0)).1 = P := ⟨_, rfl⟩
  rw [hP] at hT
  have hmT : ∀ y, y ∈ T ↔ y ∈ x :: r := fun y => by rw [hm]; simp [or_comm]
  have e1 : allP (x :: r) = resP P := by
    show (if (addAll r (newP x)).2 ≠ 0 then (zBun, (addAll r (newP x)).2) else resP (addAll r (newP x)).1) = _
    rw [e0, if_neg (by rw [h1]; simp), hP]
  rw [e1]
  obtain ⟨n1, n2, n3, n4, n5, n6⟩ := nf_valid hT.val
  obtain ⟨k1, kx, k3, k4, k5⟩ := known_all hT.val
  have fx := hl x (by simp)
  have hxT := (hmT x).2 (by simp)
  obtain ⟨⟨d1, d2, d3, d4, d5, d6, d7, d8⟩, d9, d10⟩ := bel_facts (hT.mem x hxT).2.2
  obtain ⟨a1, a2, a3, a4, a5, a6, a7, a8⟩ := fx.flds
  have hlen : P.data.length = b.payload.length := by have := fx.tot; omega
  have hin : ∀ t : Int, 0 ≤ t → t < P.data.length → inS P.known t = true := fun t t1 t2 => by
    obtain ⟨y, hy, y1, y2⟩ := hc t t1 (by omega)
    exact hT.at.2 ⟨y, (hmT y).2 hy, y1, y2⟩
  have hkn : P.known = [(0, (P.data.length : Int))] := NF.uniq (b := -1) (c := -1) n1 ⟨by show (-1 : Int) < 0; omega, by show (0 : Int) < P.data.length; omega, trivial⟩ (fun t => by
    rw [inS_cons, inS_nil]
    by_cases c : 0 ≤ t ∧ t < P.data.length
    · rw [hin t c.1 c.2]; simp [c.1, c.2]
    · have hf : inS P.known t = false := by
        rw [← Bool.not_eq_true]
        intro hk
        obtain ⟨z, hz, z1, z2⟩ := inS_iff.1 hk
        have := kx z hz
        omega
      rw [hf]
      by_cases c1 : 0 ≤ t
      · have : ¬ t < (P.data.length : Int) := fun h => c ⟨c1, h⟩
        simp [this]
      · simp [c1])
  have hpos : 0 < P.data.length := by omega
  have hblk : P.head.blocks = b.blocks := by
    obtain ⟨z, hz, z1, z2⟩ := hT.at.1 (hin 0 (Int.le_refl _) (by omega))
    have fz := hl z ((hmT z).1 hz)
    have o2 := fz.off
    rw [hT.blk0 z hz (by omega), fz.blk, if_neg (by omega)]
  have hdat : P.data = b.payload := by
    apply List.ext_getElem hlen
    intro i i1 i2
    have e1 : P.data[i] = P.data.getD i 0 := by rw [List.getD_eq_getElem?_getD, List.getElem?_eq_getElem i1]; rfl
    have e2 : b.payload[i] = b.payload.getD i 0 := by rw [List.getD_eq_getElem?_getD, List.getElem?_eq_getElem i2]; rfl
    rw [e1, e2]
    obtain ⟨z, hz, z1, z2⟩ := hT.at.1 (hin (i : Int) (by omega) (by omega))
    have fz := hl z ((hmT z).1 hz)
    have o2 := fz.off
    have f1 := hT.dat z hz (i - z.off.toNat) (by omega)
    have f2 := fz.pay (i - z.off.toNat) (by omega)
    rw [show z.off.toNat + (i - z.off.toNat) = i by omega] at f1 f2
    rw [f1, f2]
  have g := valid_facts hv
  have hoff : b.off = 0 := g.2.2.2.2.2.2.2.2.1 ht
  rw [(res_iff hT.val).2 ((res_iff hT.val).1.2 hkn)]
  obtain ⟨⟨p1, p2, p3, p4, p5, p6, p7, p8, p9, p10, p11, p12⟩, pk, pd⟩ := P
  obtain ⟨b1, b2, b3, b4, b5, b6, b7, b8, b9, b10, b11, b12⟩ := b
  simp only at *
  subst n3 n4 hblk hdat ht hoff
  simp only [Prod.mk.injEq, Bun.mk.injEq, and_true, true_and]
  omega
theorem frag_cut {b : Bun} {f t : Int} (hv : chkE b = 0) (ht : b.tot = 0) (hc : cutE b = 0) (h1 : 0 ≤ f) (h2 : f < t) (h3 : t ≤ b.payload.length) : FragOf b (cutS b f t) := by
  have g := valid_facts hv
  have hoff : b.off = 0 := g.2.2.2.2.2.2.2.2.1 ht
  have hp := cutS_pay (b := b) (f := f) (t := t) (by omega) (by omega) (by omega)
  refine ⟨chk_cutS hv hc (by omega) h2 (by omega), isF_cutS hc (by omega) h2 (by omega), ⟨rfl, rfl, rfl, rfl, rfl, rfl, rfl, rfl⟩, if_pos ht, h1, ?_, ?_, fun i hi => ?_, rfl⟩
  · show f + ((cutS b f t).payload.length : Int) ≤ _
    omega
  · omega
  · show ((b.payload.drop (f - b.off).toNat).take (t - f).toNat).getD i 0 = b.payload.getD (f.toNat + i) 0
    rw [hoff, List.getD_eq_getElem?_getD, List.getD_eq_getElem?_getD, List.getElem?_take, if_pos (by omega), List.getElem?_drop, Int.sub_zero]
end Go.Proofs.YtmknchdciblfjaaGreat
