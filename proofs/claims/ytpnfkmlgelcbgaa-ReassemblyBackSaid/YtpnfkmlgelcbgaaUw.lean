/- Chapter 18: what the law Back wants: rows of bundles of one's own, whose blocks lie anywhere else; the law's cut, whole; what the fragments cover. -/
import Derived.Test.YtpnfkmlgelcbgaaUu
set_option linter.unusedVariables false
set_option linter.unusedSimpArgs false
namespace Go.Proofs.Ytpnfkmlgelcbgaa
open Go Go.RowKit Iv
/-- a row of bundles of one's own, whose blocks lie anywhere but in the row -/
def OwnX (w : World) (base : Nat) (v : Value) (us : List BV) : Prop := w.ownsRow base 28 12 v us.length (flatU us) ∧ ∀ r ∈ us, RBlksD w (fun q => q < w.heap.size ∧ v.ownBlock ≠ some q) r.2 r.1.blocks
theorem OwnX.buns {w : World} {base : Nat} {v : Value} {us : List BV} (h : OwnX w base v us) : RBuns w w.heap.size v (us.map (·.1)) := RBuns.of_own h.1 (fun r hr => (h.2 r hr).to fun q hq => hq.1)
theorem OwnX.below {w w' : World} {base : Nat} {v : Value} {us : List BV} (h : OwnX w base v us) (k : Below w.heap.size w w') : OwnX w' base v us := by
  refine ⟨⟨h.1.1, ?_⟩, fun r hr => (h.2 r hr).keep (fun q o hq => k.cell (p := ⟨q, o, none⟩) hq.1) (fun q hq => ⟨by have := hq.1; have := k.size; omega, hq.2⟩)⟩
  rcases h.1.2 with ⟨e1, e2⟩ | ⟨g, cap, cur, e1, e2, e3, e4⟩
  · exact .inl ⟨e1, e2⟩
  · exact .inr ⟨g, cap, cur, e1, e2, (k.block _ (Array.getElem?_eq_some_iff.1 e3).1).trans e3, e4⟩
theorem OwnX.lt {w : World} {base g n cap : Nat} {us : List BV} (h : OwnX w base (.slice (some ⟨g, 0, none⟩) n cap) us) : g < w.heap.size := by
  rcases h.1.2 with ⟨e1, e2⟩ | ⟨g', cap', cur, e1, e2, e3, e4⟩
  · cases e1
  · cases e1; exact (Array.getElem?_eq_some_iff.1 e3).1
theorem OwnX.ge {w : World} {base g n cap : Nat} {us : List BV} (h : OwnX w base (.slice (some ⟨g, 0, none⟩) n cap) us) : base ≤ g := by
  rcases h.1.2 with ⟨e1, e2⟩ | ⟨g', cap', cur, e1, e2, e3, e4⟩
  · cases e1
  · cases e1; exact e2
theorem OwnX.row {w : World} {base g n cap : Nat} {us : List BV} {r : BV} (h : OwnX w base (.slice (some ⟨g, 0, none⟩) n cap) us) (hr : r ∈ us) : RBlksD w (fun q => q < w.heap.size ∧ q ≠ g) r.2 r.1.blocks :=
  (h.2 r hr).keep (fun _ _ _ => rfl) (fun q hq => ⟨hq.1, fun e => hq.2 (by rw [e]; rfl)⟩)
theorem OwnX.store {w : World} {base g n cap i : Nat} {us : List BV} {r s : BV} (h : OwnX w base (.slice (some ⟨g, 0, none⟩) n cap) us) (hn : us.length = n) (hi : us[i]? = some r) (hs : RBlksD w (fun q => q < w.heap.size ∧ q ≠ g) s.2 s.1.blocks) :
    OwnX (w.setCells g (i * 12) (bunC s.1 s.2)) base (.slice (some ⟨g, 0, none⟩) n cap) (us.set i s) := by
  subst hn
  have hk : ∀ b o, (b < w.heap.size ∧ b ≠ g) → (w.setCells g (i * 12) (bunC s.1 s.2)).cell? ⟨b, o, none⟩ = w.cell? ⟨b, o, none⟩ := fun b o hb => World.cell?_of_block (setCells_other g b hb.2 _ _ _)
  have hD : ∀ q, (q < w.heap.size ∧ q ≠ g) → (q < (w.setCells g (i * 12) (bunC s.1 s.2)).heap.size ∧ (Value.slice (some ⟨g, 0, none⟩) us.length cap).ownBlock ≠ some q) := fun q hq => ⟨by rw [setCells_size]; exact hq.1, fun e => hq.2 (Option.some.inj e).symm⟩
  refine ⟨?_, fun t ht => ?_⟩
  · have := own_setCells (bunC s.1 s.2) (i * 12) w _ h.1
    rw [flatU_set hi] at this
    rw [List.length_set]
    exact this
  · rcases List.mem_or_eq_of_mem_set ht with ht | rfl
    · exact (h.row ht).keep hk hD
    · exact hs.keep hk hD
theorem OwnX.cell {w : World} {base g n cap i d : Nat} {us : List BV} {r : BV} {v : Value} (h : OwnX w base (.slice (some ⟨g, 0, none⟩) n cap) us) (hn : us.length = n) (hi : us[i]? = some r) (hv : (bunC r.1 r.2)[d]? = some v) : w.cell? ⟨g, i * 12 + d, none⟩ = some v := by
  subst hn
  have h1 := (List.getElem?_eq_some_iff.1 hi).1
  have h2 := (List.getElem?_eq_some_iff.1 hv).1
  rw [bunC_len] at h2
  rw [h.1.cellAt _ (by omega)]
  exact flatU_at hi hv
theorem OwnX.there {w : World} {base g n cap i : Nat} {us : List BV} {r : BV} (h : OwnX w base (.slice (some ⟨g, 0, none⟩) n cap) us) (hn : us.length = n) (hi : us[i]? = some r) : w.there g (i * 12) 12 := fun j hj => by
  obtain ⟨v, hv⟩ : ∃ v, (bunC r.1 r.2)[j]? = some v := ⟨_, List.getElem?_eq_getElem (by rw [bunC_len]; exact hj)⟩
  refine ⟨by rw [h.cell hn hi hv]; rfl, ?_⟩
  subst hn
  exact h.1.frozenAt _
theorem OwnX.append {w w' : World} {base g cap : Nat} {v uc : Value} {us : List BV} {c : Bun} (h : OwnX w base v us) (ho : w'.ownsRow base 28 12 (.slice (some ⟨g, 0, none⟩) (us.length + 1) cap) (us.length + 1) (flatU us ++ bunC c uc)) (hg : w.grownBy w' v.ownBlock)
    (hat : v.ownBlock = some g ∨ g = w.heap.size) (hc : RBlksD w (fun q => q < w.heap.size ∧ v.ownBlock ≠ some q) uc c.blocks) : OwnX w' base (.slice (some ⟨g, 0, none⟩) (us.length + 1) cap) (us ++ [(c, uc)]) := by
  have hk : ∀ b o, (b < w.heap.size ∧ v.ownBlock ≠ some b) → w'.cell? ⟨b, o, none⟩ = w.cell? ⟨b, o, none⟩ := fun b o hb => World.cell?_of_block (hg.block b hb.1 (fun e => hb.2 e.symm))
  have hD : ∀ q, (q < w.heap.size ∧ v.ownBlock ≠ some q) → (q < w'.heap.size ∧ (Value.slice (some ⟨g, 0, none⟩) (us.length + 1) cap).ownBlock ≠ some q) := fun q hq => ⟨by have := hq.1; have := hg.size; omega, fun e => by
    have e' : g = q := Option.some.inj e
    subst e'
    rcases hat with hat | hat
    · exact hq.2 hat
    · have := hq.1; omega⟩
  refine ⟨?_, fun t ht => ?_⟩
  · rw [List.length_append, flatU_app]
    have e : flatU [(c, uc)] = bunC c uc := by unfold flatU; simp
    rw [e]
    exact ho
  · rcases List.mem_append.1 ht with ht | ht
    · exact (h.2 t ht).keep hk hD
    · have : t = (c, uc) := by simpa using ht
      subst this
      exact hc.keep hk hD
/-- the part that the law cuts out -/
def cutX (b : Bun) (x : Pt5) : Bun :=
  if x.ag then cutS (cutS b (loS b x.f x.t) (hiS b x.f x.t)) (loS (cutS b (loS b x.f x.t) (hiS b x.f x.t)) x.i x.o) (hiS (cutS b (loS b x.f x.t) (hiS b x.f x.t)) x.i x.o) else cutS b (loS b x.f x.t) (hiS b x.f x.t)
theorem lcut_any (b : Bun) (x : Pt5) (u : Value) (D : Nat → Prop) (w : World) (hD : ∀ q, D q → q < w.heap.size) (h : RBlksD w D u b.blocks) (hf : Fits b) (hv : chkE b = 0) (hc : cutE b = 0) (hx : x.ok) :
    Calls Try.prog 33 #[.agg (bunC b u).toArray, .agg (ptC x).toArray] w (LCutPost D (cutX b x) w) := by
  cases hag : x.ag with
  | false => unfold cutX; rw [hag]; exact lcut1_any b x u D w hD h hf hv hc hx hag
  | true => unfold cutX; rw [hag]; exact lcut2_any b x u D w hD h hf hv hc hx hag
theorem cutE_pos {b : Bun} (hc : cutE b = 0) : 0 < b.payload.length := by cases hp : b.payload with | nil => exact absurd hp (cutE_zero hc).2 | cons y r => simp
theorem frag_cutX {b : Bun} (x : Pt5) (hv : chkE b = 0) (ht : b.tot = 0) (hc : cutE b = 0) : FragOf b (cutX b x) := by
  have g := valid_facts hv
  have hoff : b.off = 0 := g.2.2.2.2.2.2.2.2.1 ht
  obtain ⟨h1, h2, h3⟩ := lohi (b := b) x.f x.t (cutE_pos hc)
  have f1 : FragOf b (cutS b (loS b x.f x.t) (hiS b x.f x.t)) := frag_cut hv ht hc (by omega) h2 (by omega)
  unfold cutX
  split
  · obtain ⟨k1, k2, k3⟩ := lohi (b := cutS b (loS b x.f x.t) (hiS b x.f x.t)) x.i x.o (cutE_pos f1.cuts)
    exact frag_frag f1 k1 k2 k3
  · exact f1
theorem FragOf.fits {b x : Bun} (h : FragOf b x) (hf : Fits b) : Fits x := by
  refine ⟨by have := h.bnd; have := h.off; have := hf.1; omega, fun y hy => ?_⟩
  rw [h.blk] at hy
  split at hy
  · exact hf.2 y (List.mem_filter.1 hy).1
  · exact hf.2 y hy
/-- the two halves cover the bundle -/
theorem halves_cover {b : Bun} {h : Int} (hv : chkE b = 0) (ht : b.tot = 0) (hc : cutE b = 0) (h0 : 0 < h) (h1 : h < b.payload.length) {l : List Bun} (hl : cutS b 0 h ∈ l) (hr : cutS b h b.payload.length ∈ l) :
    ∀ t : Int, 0 ≤ t → t < b.payload.length → ∃ y ∈ l, y.off ≤ t ∧ t < y.off + y.payload.length := fun t t0 t1 => by
  have g := valid_facts hv
  have hoff : b.off = 0 := g.2.2.2.2.2.2.2.2.1 ht
  rcases Int.lt_or_le t h with z | z
  · refine ⟨_, hl, t0, ?_⟩
    have := cutS_pay (b := b) (f := 0) (t := h) (by omega) (by omega) (by omega)
    show t < 0 + ((cutS b 0 h).payload.length : Int)
    omega
  · refine ⟨_, hr, z, ?_⟩
    have := cutS_pay (b := b) (f := h) (t := b.payload.length) (by omega) (by omega) (by omega)
    show t < h + ((cutS b h b.payload.length).payload.length : Int)
    omega
end Go.Proofs.Ytpnfkmlgelcbgaa
