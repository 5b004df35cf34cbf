/- Chapter 18: the fragments of a bundle make the bundle: plain law. -/
import Derived.Test.YtpnfkmlgelcbgaaUn
set_option linter.unusedVariables false
set_option linter.unusedSimpArgs false
namespace Go.Proofs.Ytpnfkmlgelcbgaa
open Go Go.RowKit Iv
/-- a fragment of a whole bundle, or a fragment of such -/
structure FragOf (b x : Bun) : Prop where
  valid : chkE x = 0
  cuts : cutE x = 0
  flds : x.src = b.src ∧ x.crt = b.crt ∧ x.seq = b.seq ∧ x.dk = b.dk ∧ x.dn = b.dn ∧ x.life = b.life ∧ x.prio = b.prio ∧ x.flags = b.flags
  tot : x.tot = b.payload.length
  off : 0 ≤ x.off
  bnd : x.off + x.payload.length ≤ b.payload.length
  pos : 0 < x.payload.length
  pay : ∀ i, i < x.payload.length → x.payload.getD i 0 = b.payload.getD (x.off.toNat + i) 0
  blk : x.blocks = if 0 < x.off then copyB b.blocks else b.blocks
theorem FragOf.copy {b x : Bun} (h : FragOf b x) : copyB x.blocks = copyB b.blocks := by
  rw [h.blk]
  split
  · exact copy_copy _
  · rfl
theorem Hold.pos {p : Par} {S : List Bun} (h : Hold p S) : ∃ y, y ∈ S := by
  have := (nf_valid h.val).2.1
  exact List.exists_mem_of_length_pos (by have := h.len; omega)
theorem frag_add {b x : Bun} {p : Par} {S : List Bun} (h : Hold p S) (hS : ∀ y ∈ S, FragOf b y) (hx : FragOf b x) (hl : S.length ≤ 999) : (addP p x).2 = 0 := by
  obtain ⟨y, hy⟩ := h.pos
  have fy := hS y hy
  obtain ⟨n1, n2, n3, n4, n5, n6⟩ := nf_valid h.val
  obtain ⟨a1, a2, a3, a4, a5, a6, a7, a8⟩ := fy.flds
  obtain ⟨c1, c2, c3, c4, c5, c6, c7, c8⟩ := hx.flds
  obtain ⟨⟨d1, d2, d3, d4, d5, d6, d7, d8⟩, d9, d10⟩ := bel_facts (h.mem y hy).2.2
  have ht : 0 < x.tot := by have := hx.tot; have := hx.bnd; have := hx.pos; have := hx.off; omega
  have := addP_of h.val hx.valid ht (bel_of ⟨by omega, by omega, by omega, by omega, by omega, by omega, by omega, by omega⟩ (by have := hx.tot; have := fy.tot; omega) (by rw [d10, fy.copy, hx.copy])) (agr_of hx.off (fun i hi hk => by
    obtain ⟨z, hz, z1, z2⟩ := h.at.1 hk
    have fz := hS z hz
    have o1 := hx.off
    have o2 := fz.off
    have e1 := h.dat z hz (x.off.toNat + i - z.off.toNat) (by omega)
    have e2 := fz.pay (x.off.toNat + i - z.off.toNat) (by omega)
    rw [show z.off.toNat + (x.off.toNat + i - z.off.toNat) = x.off.toNat + i by omega] at e1 e2
    rw [e1, e2, hx.pay i hi]) (fun o hf => by
    have e0 : inS p.known 0 = true := by
      cases hk : inS p.known 0 with
      | true => rfl
      | false => have := (from_in n1 n2).2.2 hk; omega
    obtain ⟨z, hz, z1, z2⟩ := h.at.1 e0
    have fz := hS z hz
    have o2 := fz.off
    rw [h.blk0 z hz (by omega), fz.blk, hx.blk, if_neg (by omega), if_neg (by omega)])) (by have := ins_len p.known (spanB x); have := h.len; omega)
  rw [this]
theorem frag_new {b x : Bun} (hx : FragOf b x) : (newP x).2 = 0 := by
  have ht : 0 < x.tot := by have := hx.tot; have := hx.bnd; have := hx.pos; have := hx.off; omega
  unfold newP
  rw [if_neg (by simp [hx.valid]), if_neg (by omega)]
theorem frag_all {b : Bun} : ∀ {l : List Bun} {p : Par} {S : List Bun}, Hold p S → (∀ y ∈ S, FragOf b y) → (∀ y ∈ l, FragOf b y) → S.length + l.length ≤ 999 → (addAll l (p, 0)).2 = 0
  | [], p, S, _, _, _, _ => rfl
  | x :: r, p, S, h, hS, hl, hn => by
    simp only [List.length_cons] at hn
    have hx := hl x (by simp)
    have h2 := frag_add h hS hx (by omega)
    have h3 := h.add h2
    obtain ⟨q, hq⟩ : ∃ q, (addP p x).1 = q := ⟨_, rfl⟩
    have e2 : addP p x = (q, 0) := by rw [← hq, ← h2]
    rw [hq] at h3
    have e : addAll (x :: r) (p, 0) = addAll r (addP p x) := by
      conv => lhs; unfold addAll
      exact if_neg (by simp)
    rw [e, e2]
    exact frag_all h3 (fun y hy => by rcases List.mem_cons.1 hy with rfl | hy; exact hx; exact hS y hy) (fun y hy => hl y (by simp [hy])) (by simp only [List.length_cons]; omega)
/-- the fragments, if they cover the bundle, make it -/
theorem frag_whole_all {b : Bun} (hv : chkE b = 0) (ht : b.tot = 0) {x : Bun} {r : List Bun} (hl : ∀ y ∈ x :: r, FragOf b y) (hn : r.length ≤ 900) (hc : ∀ t : Int, 0 ≤ t → t < b.payload.length → ∃ y ∈ x :: r, y.off ≤ t ∧ t < y.off + y.payload.length) : allP (x :: r) = (b, 0) := by
  have h0 := frag_new (hl x (by simp))
  obtain ⟨q, hq⟩ : ∃ q, (newP x).1 = q := ⟨_, rfl⟩
  have e0 : newP x = (q, 0) := by rw [← hq, ← h0]
  have hh := Hold.new h0
  rw [hq] at hh
  have h1 := frag_all hh (fun y hy => hl y (List.mem_cons.2 (.inl (List.mem_singleton.1 hy)))) (fun y hy => hl y (List.mem_cons.2 (.inr hy))) (by simp only [List.length_cons, List.length_nil]; omega)
  obtain ⟨T, hT, hm, -⟩ := hh.all h1
  obtain ⟨P, hP⟩ : ∃ P, (addAll r (q, 0)).1 = P := ⟨_, rfl⟩
  rw [hP] at hT
  have hmT : ∀ y, y ∈ T ↔ y ∈ x :: r := fun y => by rw [hm]; simp [or_comm]
  have e1 : allP (x :: r) = resP P := by
    show (if (addAll r (newP x)).2 ≠ 0 then (zBun, (addAll r (newP x)).2) else resP (addAll r (newP x)).1) = _
    rw [e0, if_neg (by rw [h1]; simp), hP]
  rw [e1]
  obtain ⟨n1, n2, n3, n4, n5, n6⟩ := nf_valid hT.val
  obtain ⟨k1, kx, k3, k4, k5⟩ := known_all hT.val
  have fx := hl x (by simp)
  have hxT := (hmT x).2 (by simp)
  obtain ⟨⟨d1, d2, d3, d4, d5, d6, d7, d8⟩, d9, d10⟩ := bel_facts (hT.mem x hxT).2.2
  obtain ⟨a1, a2, a3, a4, a5, a6, a7, a8⟩ := fx.flds
  have hlen : P.data.length = b.payload.length := by have := fx.tot; omega
  have hin : ∀ t : Int, 0 ≤ t → t < P.data.length → inS P.known t = true := fun t t1 t2 => by
    obtain ⟨y, hy, y1, y2⟩ := hc t t1 (by omega)
    exact hT.at.2 ⟨y, (hmT y).2 hy, y1, y2⟩
  have hkn : P.known = [(0, (P.data.length : Int))] := NF.uniq (b := -1) (c := -1) n1 ⟨by show (-1 : Int) < 0; omega, by show (0 : Int) < P.data.length; omega, trivial⟩ (fun t => by
    rw [inS_cons, inS_nil]
    by_cases c : 0 ≤ t ∧ t < P.data.length
    · rw [hin t c.1 c.2]; simp [c.1, c.2]
    · have hf : inS P.known t = false := by
        rw [← Bool.not_eq_true]
        intro hk
        obtain ⟨z, hz, z1, z2⟩ := inS_iff.1 hk
        have := kx z hz
        omega
      rw [hf]
      by_cases c1 : 0 ≤ t
      · have : ¬ t < (P.data.length : Int) := fun h => c ⟨c1, h⟩
        simp [this]
      · simp [c1])
  have hpos : 0 < P.data.length := by omega
  have hblk : P.head.blocks = b.blocks := by
    obtain ⟨z, hz, z1, z2⟩ := hT.at.1 (hin 0 (Int.le_refl _) (by omega))
    have fz := hl z ((hmT z).1 hz)
    have o2 := fz.off
    rw [hT.blk0 z hz (by omega), fz.blk, if_neg (by omega)]
  have hdat : P.data = b.payload := by
    apply List.ext_getElem hlen
    intro i i1 i2
    have e1 : P.data[i] = P.data.getD i 0 := by rw [List.getD_eq_getElem?_getD, List.getElem?_eq_getElem i1]; rfl
    have e2 : b.payload[i] = b.payload.getD i 0 := by rw [List.getD_eq_getElem?_getD, List.getElem?_eq_getElem i2]; rfl
    rw [e1, e2]
    obtain ⟨z, hz, z1, z2⟩ := hT.at.1 (hin (i : Int) (by omega) (by omega))
    have fz := hl z ((hmT z).1 hz)
    have o2 := fz.off
    have f1 := hT.dat z hz (i - z.off.toNat) (by omega)
    have f2 := fz.pay (i - z.off.toNat) (by omega)
    rw [show z.off.toNat + (i - z.off.toNat) = i by omega] at f1 f2
    rw [f1, f2]
  have g := valid_facts hv
  have hoff : b.off = 0 := g.2.2.2.2.2.2.2.2.1 ht
  rw [(res_iff hT.val).2 ((res_iff hT.val).1.2 hkn)]
  obtain ⟨⟨p1, p2, p3, p4, p5, p6, p7, p8, p9, p10, p11, p12⟩, pk, pd⟩ := P
  obtain ⟨b1, b2, b3, b4, b5, b6, b7, b8, b9, b10, b11, b12⟩ := b
  simp only at *
  subst n3 n4 hblk hdat ht hoff
  simp only [Prod.mk.injEq, Bun.mk.injEq, and_true, true_and]
  omega
theorem frag_cut {b : Bun} {f t : Int} (hv : chkE b = 0) (ht : b.tot = 0) (hc : cutE b = 0) (h1 : 0 ≤ f) (h2 : f < t) (h3 : t ≤ b.payload.length) : FragOf b (cutS b f t) := by
  have g := valid_facts hv
  have hoff : b.off = 0 := g.2.2.2.2.2.2.2.2.1 ht
  have hp := cutS_pay (b := b) (f := f) (t := t) (by omega) (by omega) (by omega)
  refine ⟨chk_cutS hv hc (by omega) h2 (by omega), isF_cutS hc (by omega) h2 (by omega), ⟨rfl, rfl, rfl, rfl, rfl, rfl, rfl, rfl⟩, if_pos ht, h1, ?_, ?_, fun i hi => ?_, rfl⟩
  · show f + ((cutS b f t).payload.length : Int) ≤ _
    omega
  · omega
  · show ((b.payload.drop (f - b.off).toNat).take (t - f).toNat).getD i 0 = b.payload.getD (f.toNat + i) 0
    rw [hoff, List.getD_eq_getElem?_getD, List.getD_eq_getElem?_getD, List.getElem?_take, if_pos (by omega), List.getElem?_drop, Int.sub_zero]
theorem frag_frag {b x : Bun} {f t : Int} (h : FragOf b x) (h1 : x.off ≤ f) (h2 : f < t) (h3 : t ≤ x.off + x.payload.length) : FragOf b (cutS x f t) := by
  have o := h.off
  have hp := cutS_pay (b := x) (f := f) (t := t) h1 (by omega) h3
  have ht : x.tot ≠ 0 := by have := h.tot; have := h.bnd; have := h.pos; omega
  have hb := h.bnd
  refine ⟨chk_cutS h.valid h.cuts h1 h2 h3, isF_cutS h.cuts h1 h2 h3, h.flds, (if_neg ht).trans h.tot, by show 0 ≤ f; omega, ?_, by omega, fun i hi => ?_, ?_⟩
  · show f + ((cutS x f t).payload.length : Int) ≤ _
    omega
  · show ((x.payload.drop (f - x.off).toNat).take (t - f).toNat).getD i 0 = b.payload.getD (f.toNat + i) 0
    rw [List.getD_eq_getElem?_getD, List.getElem?_take, if_pos (by omega), List.getElem?_drop, ← List.getD_eq_getElem?_getD, h.pay _ (by omega)]
    congr 1
    omega
  · show (if 0 < f then x.blocks.filter keepC else x.blocks) = if 0 < f then copyB b.blocks else b.blocks
    split
    · exact h.copy
    · rw [h.blk, if_neg (by omega)]
end Go.Proofs.Ytpnfkmlgelcbgaa
