/- storage.Free: the closures. -/
import Derived.BigQuiet
import Derived.BigRegion
import Derived.Deep.DeepCutAuto
import Derived.Deep.CutBlock
import Derived.OwnWalkIn
import Derived.Lib.MinMax
import Derived.Laws.EntriesVeiled
import Derived.Test.YtkokiahmgmeokaaGreatYi
import Derived.Test.YtkokiahmgmeokaaGreatYqz
set_option linter.unusedVariables false
set_option linter.unusedSimpArgs false
namespace Go.Proofs.YtkokiahmgmeokaaGreat
open Go Go.RowKit Iv
attribute [local go_sem] Oper.semAt_some
attribute [local go_sem] B_getElem B_size B_app B_extract B_get B_toList
def endL (L : List Sp) (a t : Int) : List Sp := if 0 ≤ a ∧ a < t then L ++ [(a, t)] else L
/-- the list out (box Z), from when on (box Z + 1); the list's own row lies from B on -/
def FrV (B Z : Nat) (vo : Value) (L : List Sp) (a : Int) (W : World) : Prop := Boxed W Z 45 vo ∧ W.ownsRow B 50 2 vo L.length (sps L) ∧ Boxed W (Z + 1) 3 (.int .i64 a)
def KpG (B Z : Nat) (W W' : World) : Prop := W.heap.size ≤ W'.heap.size ∧ ∀ q, q < W.heap.size → q < B → q ≠ Z → q ≠ Z + 1 → W'.heap[q]? = W.heap[q]?
theorem KpG.trans {B Z : Nat} {a b c : World} (h : KpG B Z a b) (k : KpG B Z b c) : KpG B Z a c := ⟨Nat.le_trans h.1 k.1, fun q h1 h2 h3 h4 => (k.2 q (by have := h.1; omega) h2 h3 h4).trans (h.2 q h1 h2 h3 h4)⟩
theorem KpG.of {B Z : Nat} {a b : World} (h : Below a.heap.size a b) : KpG B Z a b := ⟨h.size, fun q h1 _ _ _ => h.block q h1⟩
theorem FrV.keep {B Z : Nat} {vo : Value} {L : List Sp} {a : Int} {W W' : World} (h : FrV B Z vo L a W) (k : Below W.heap.size W W') : FrV B Z vo L a W' :=
  ⟨(k.block _ h.1.lt).trans h.1, own_kept1 h.2.1 (fun q hq => k.block q (h.2.1.lt q hq).2), (k.block _ h.2.2.lt).trans h.2.2⟩
def EndPost (B Z : Nat) (vo : Value) (L L' : List Sp) (a' : Int) (W : World) (e : Ending) (W' : World) : Prop := e = .returned (.tuple #[]) ∧ (∃ vo', FrV B Z vo' L' a' W' ∧ (L' = L → vo' = vo)) ∧ KpG B Z W W' ∧ Below Z W W'
set_option maxRecDepth 100000 in
set_option maxHeartbeats 4000000 in
theorem send_any (B Z : Nat) (vo : Value) (L : List Sp) (a t : Int) (W : World) (hZ : Z + 1 < B) (hB : B ≤ W.heap.size) (h : FrV B Z vo L a W) (hl : L.length ≤ 2000) :
    Calls Tryz.prog 98 #[.int .i64 t, .pointer (some ⟨Z + 1, 0, none⟩), .pointer (some ⟨Z, 0, none⟩)] W (EndPost B Z vo L (endL L a t) (-1) W) := by
  obtain ⟨bo, ow, ba⟩ := h
  obtain ⟨va, vc, rfl⟩ := own_shape ow
  obtain ⟨i0, hin, hz0, hz1, hz2⟩ := info_parts infoSpan
  have HBO := Lib.hid bo
  have HOW := Lib.hid ow
  have HBA := Lib.hid ba
  have ca := ba.cell
  have fa := ba.frozen
  have co := bo.cell
  have fo := bo.frozen
  have zo := bo.lt
  have za := ba.lt
  clear bo ow ba
  have HSET : Hid (endL L a t = L → EndPost B Z (.slice va L.length vc) L (endL L a t) (-1) W (.returned (.tuple #[])) (W.setCell ⟨Z + 1, 0, none⟩ (.int .i64 (-1)))) := Lib.hid (fun he => by
    have hne : ∀ q, q ≠ Z + 1 → (W.setCell ⟨Z + 1, 0, none⟩ (.int .i64 (-1))).heap[q]? = W.heap[q]? := fun q h => heap_setCell_other W ⟨Z + 1, 0, none⟩ q _ h
    rw [he]
    exact ⟨rfl, ⟨_, ⟨(hne _ (by omega)).trans HBO.out, own_kept1 HOW.out (fun q hq => hne q (by have := (HOW.out.lt q hq).1; omega)), HBA.out.set _⟩, fun _ => rfl⟩, ⟨by simp, fun q _ _ _ h => hne q h⟩, bset (Below.refl _ _) (by show Z ≤ Z + 1; omega)⟩)
  by_cases z0 : 0 ≤ a
  case neg =>
    have d0 : decide (a ≥ 0) = false := decide_eq_false (by omega)
    have HE : Hid (endL L a t = L) := Lib.hid (if_neg (fun h => z0 h.1))
    clear z0
    go_enter Tryz.func98, Tryz.ntmps98
    go_wp2
    go_end0
    exact HSET.out HE.out
  have d0 : decide (a ≥ 0) = true := decide_eq_true z0
  by_cases z1 : a < t
  case neg =>
    have d1 : decide (a < t) = false := decide_eq_false z1
    have HE : Hid (endL L a t = L) := Lib.hid (if_neg (fun h => z1 h.2))
    clear z0 z1
    go_enter Tryz.func98, Tryz.ntmps98
    go_wp2
    go_end0
    exact HSET.out HE.out
  have d1 : decide (a < t) = true := decide_eq_true z1
  have HE : Hid (endL L a t = L ++ [(a, t)]) := Lib.hid (if_pos ⟨z0, z1⟩)
  rw [HE.out]
  clear z0 z1
  go_enter Tryz.func98, Tryz.ntmps98
  go_wp2_with (at_builtin; refine wpList_append_F _ rfl _ _ _ rfl B 50 i0 _ 2 16 Tryz.underlying45 hin hz0 hz1 hz2 rfl (by omega) (.slice va L.length vc) L.length (sps L) rfl (own_kept1 HOW.out (fun q hq => Below.heap_alloc _ _ _ (HOW.out.lt q hq).2)) ⟨W.heap.size, 0, none⟩ 1 1 (spC (a, t)) rfl rfl (news_one heap_new) (by simp [spC, Value.oneCell']) (by simp only [maxLen]; omega) (by omega) (by simp; omega) (by omega) ?_; intro vo w9 ho9 hg9 hf9; obtain ⟨av, cv, rfl⟩ := own_shape ho9; have hz9 : Z + 1 < w9.heap.size := (by have := hg9.size; simp at this; omega); have HB9 : Hid (Boxed w9 Z 45 (.slice va L.length vc)) := Lib.hid ((grown_keep hg9 (by simp; omega) (fun e => by have := (HOW.out.lt _ e).1; omega)).trans ((Below.heap_alloc _ _ _ (by omega)).trans HBO.out)); have HA9 : Hid (Boxed w9 (Z + 1) 3 (.int .i64 a)) := Lib.hid ((grown_keep hg9 (by simp; omega) (fun e => by have := (HOW.out.lt _ e).1; omega)).trans ((Below.heap_alloc _ _ _ (by omega)).trans HBA.out)); have c9 := HB9.out.cell; have f9 := HB9.out.frozen; have ca9 := HA9.out.cell; have fa9 := HA9.out.frozen)
  go_end0
  have hal : Below W.heap.size W (W.alloc (.cells (spC (a, t)).toArray 50)) := balloc0 (Below.refl _ _)
  have hne : ∀ q, q ≠ Z → q ≠ Z + 1 → ∀ u v : Value, ((w9.setCell ⟨Z, 0, none⟩ u).setCell ⟨Z + 1, 0, none⟩ v).heap[q]? = w9.heap[q]? := fun q h1 h2 u v => (heap_setCell_other _ ⟨Z + 1, 0, none⟩ q _ h2).trans (heap_setCell_other _ ⟨Z, 0, none⟩ q _ h1)
  have hkeep : ∀ q, q < W.heap.size → (Value.slice va L.length vc).ownBlock ≠ some q → w9.heap[q]? = W.heap[q]? := fun q hq hn => (grown_keep hg9 (by simp; omega) hn).trans (hal.block q hq)
  unfold EndPost
  refine ⟨rfl, ⟨.slice (av) (L.length + 1) cv, ⟨?_, ?_, ?_⟩, fun e => ?_⟩, ⟨?_, fun q hq hqB hqz hqz1 => (hne q hqz hqz1 _ _).trans (hkeep q hq (fun e => by have := (HOW.out.lt q e).1; omega))⟩, ?_⟩
  · exact (HB9.out.set _).other (by omega) _
  · rw [List.length_append, sps_append]
    refine own_kept1 (w := w9) (by simpa [sps] using ho9) fun q hq => hne q (fun e => ?_) (fun e => ?_) _ _
    · subst e; have := (ho9.lt _ hq).1; omega
    · subst e; have := (ho9.lt _ hq).1; omega
  · exact (HA9.out.other (by omega) _).set _
  · exfalso
    have := congrArg List.length e
    simp at this
  · have := hg9.size
    simp at this ⊢
    omega
  · exact bset (bset (Below.grown (hal.mono (by omega)) hg9 (by simp; omega) (fun q hq => by have := (HOW.out.lt q hq).1; omega)) (Nat.le_refl _)) (by show Z ≤ Z + 1; omega)
/-- the boxes that storage.Free's closures read -/
structure FrB (B Z pB : Nat) (uq uc : Value) (n sz : Int) (W : World) : Prop where
  p : W.heap[pB]? = some (.cells #[uq, uc] 25 (0, 0))
  n : W.heap[pB + 1]? = some (.cells #[.int .i64 n] 3 (0, 0))
  s : W.heap[pB + 1 + 1]? = some (.cells #[.int .i64 sz] 3 (0, 0))
  e : W.heap[Z + 1 + 1]? = some (.cells #[.func (.func 98) #[] #[.pointer (some ⟨Z + 1, 0, none⟩), .pointer (some ⟨Z, 0, none⟩)]] 121 (0, 0))
  lt : pB + 1 + 1 < Z ∧ Z + 1 + 1 < B
theorem FrB.keep {B Z pB : Nat} {uq uc : Value} {n sz : Int} {W W' : World} (h : FrB B Z pB uq uc n sz W) (k : KpG B Z W W') : FrB B Z pB uq uc n sz W' := by
  obtain ⟨h1, h2, h3, h4, h5⟩ := h
  have g : ∀ q cs e f, W.heap[q]? = some (Obj.cells cs e f) → q < B → q ≠ Z → q ≠ Z + 1 → W'.heap[q]? = some (.cells cs e f) := fun q cs e f hq a b c => (k.2 q (Array.getElem?_eq_some_iff.1 hq).1 a b c).trans hq
  exact ⟨g _ _ _ _ h1 (by omega) (by omega) (by omega), g _ _ _ _ h2 (by omega) (by omega) (by omega), g _ _ _ _ h3 (by omega) (by omega) (by omega), g _ _ _ _ h4 (by omega) (by omega) (by omega), h5⟩
def atS (q sz : Int) (p : List Sp × Int) (t s : Int) : List Sp × Int := if IntKind.i64.wrap (q - s) < sz then (endL p.1 p.2 t, -1) else (p.1, if p.2 < 0 then t else p.2)
set_option maxRecDepth 100000 in
set_option maxHeartbeats 4000000 in
theorem sat_any (B Z pB : Nat) (vo : Value) (L : List Sp) (a t s : Int) (qs : List Int) (n : Nat) (q sz : Int) (aq : Option Addr) (cq : Nat) (uc : Value) (w0 W : World) (hB : B ≤ W.heap.size) (h : FrV B Z vo L a W) (hl : L.length ≤ 2000) (hb : FrB B Z pB (.slice aq qs.length cq) uc n sz W) (hq0 : RRow intC 1 w0 w0.heap.size (.slice aq qs.length cq) qs) (hw0 : Below w0.heap.size w0 W) (hq : qs[n]? = some q) :
    Calls Tryz.prog 99 #[.int .i64 t, .int .i64 s, .pointer (some ⟨pB, 0, none⟩), .pointer (some ⟨pB + 1, 0, none⟩), .pointer (some ⟨pB + 1 + 1, 0, none⟩), .pointer (some ⟨Z + 1 + 1, 0, none⟩), .pointer (some ⟨Z + 1, 0, none⟩)] W (EndPost B Z vo L (atS q sz (L, a) t s).1 (atS q sz (L, a) t s).2 W) := by
  have HB := Lib.hid hb
  have HF := Lib.hid h
  have hlt := hb.lt
  obtain ⟨a', c', e, h1, h2, h3, h4⟩ := hq0
  have hnl := (List.getElem?_eq_some_iff.1 hq).1
  obtain ⟨bb, o, e2, hbn, hcell⟩ := h4 (by omega)
  have e3 : aq = some ⟨bb, o, none⟩ := by injection e with q1 q2 q3; rw [q1, e2]
  subst e3
  have pq : W.cell? ⟨bb, o + n, none⟩ = some (.int .i64 q) := (hw0.cell (p := ⟨bb, o + n, none⟩) hbn).trans (by have := hcell n q hq 0 _ rfl; simpa using this)
  have hbW : bb < W.heap.size := by have := hw0.size; omega
  have n0 : (0 : Int) ≤ (n : Int) := by omega
  have n1 : (n : Int) < (qs.length : Int) := by omega
  have c1 := fun q => cellB hb.p q
  have c2 := cellB hb.n 0
  have c3 := cellB hb.s 0
  have c4 := cellB hb.e 0
  have c5 := h.2.2.cell
  have f5 := h.2.2.frozen
  have z5 := h.2.2.lt
  have z1 : pB + 1 + 1 < W.heap.size := by omega
  have z2 : Z + 1 + 1 < W.heap.size := by omega
  clear e e2 h1 h2 h3 h4 hcell hq hb h
  obtain ⟨D, hD⟩ : ∃ D, IntKind.i64.wrap (q - s) = D := ⟨_, rfl⟩
  have HD := Lib.hid hD
  by_cases z : D < sz
  · have dz : decide (D < sz) = true := decide_eq_true z
    have HA : Hid (atS q sz (L, a) t s = (endL L a t, -1)) := Lib.hid (by unfold atS; rw [hD, if_pos z])
    rw [HA.out]
    clear z
    go_enter Tryz.func99, Tryz.ntmps99
    go_upto_region 0 with fail
    go_quiet (fail)
    obtain ⟨w1, hw1⟩ : ∃ q, W.drewN nq = q := ⟨_, rfl⟩
    rw [hw1]
    have hb1 : Below W.heap.size W w1 := by rw [← hw1]; exact bdrewN (Below.refl _ _) _
    have k1 : KpG B Z W w1 := KpG.of hb1
    have c41 := cellB (HB.out.keep k1).e 0
    have HF1 := Lib.hid (HF.out.keep hb1)
    have hs1 := hb1.size
    have hb1' : Below Z W w1 := by rw [← hw1]; exact bdrewN (Below.refl _ _) _
    have HK1 := Lib.hid (And.intro k1 hb1')
    clear hw1 k1 c1 c2 c3 c4 c5 f5 pq hb1 hb1'
    have z11 : Z + 1 + 1 < w1.heap.size := by omega
    go_wp2_with fail
    refine (send_any B Z vo L a t _ (by omega) (by omega) HF1.out hl).mono ?_
    unfold EndPost
    rintro e w2 ⟨rfl, hv, hk2, hb2⟩
    have HV := Lib.hid hv
    have HK2 := Lib.hid (And.intro hk2 hb2)
    clear hv hk2 hb2 c41
    go_wp2
    go_end0
    exact ⟨rfl, HV.out, HK1.out.1.trans HK2.out.1, HK1.out.2.trans HK2.out.2⟩
  · have dz : decide (D < sz) = false := decide_eq_false z
    have HA : Hid (atS q sz (L, a) t s = (L, if a < 0 then t else a)) := Lib.hid (by unfold atS; rw [hD, if_neg z])
    rw [HA.out]
    clear z
    by_cases y : a < 0
    · have dy : decide (a < 0) = true := decide_eq_true y
      rw [if_pos y]
      clear y
      go_enter Tryz.func99, Tryz.ntmps99
      go_upto_region 0 with fail
      go_quiet (fail)
      obtain ⟨w1, hw1⟩ : ∃ q, W.drewN nq = q := ⟨_, rfl⟩
      rw [hw1]
      have hb1 : Below W.heap.size W w1 := by rw [← hw1]; exact bdrewN (Below.refl _ _) _
      have hb1' : Below Z W w1 := by rw [← hw1]; exact bdrewN (Below.refl _ _) _
      have hs1 := hb1.size
      have HF1 := Lib.hid (HF.out.keep hb1)
      have c51 := HF1.out.2.2.cell
      have f51 := HF1.out.2.2.frozen
      have HK1 := Lib.hid (And.intro hb1 hb1')
      have z51 : Z + 1 < w1.heap.size := by omega
      clear hw1 c1 c2 c3 c4 c5 f5 pq hb1 hb1'
      go_wp2
      go_end0
      have hne : ∀ q, q ≠ Z + 1 → (w1.setCell ⟨Z + 1, 0, none⟩ (.int .i64 t)).heap[q]? = w1.heap[q]? := fun q h => heap_setCell_other w1 ⟨Z + 1, 0, none⟩ q _ h
      exact ⟨rfl, ⟨vo, ⟨(hne _ (by omega)).trans HF1.out.1, own_kept1 HF1.out.2.1 (fun q hq => hne q (by have := (HF1.out.2.1.lt q hq).1; omega)), HF1.out.2.2.set _⟩, fun _ => rfl⟩, (KpG.of HK1.out.1).trans ⟨by simp, fun q _ _ _ h => hne q h⟩, HK1.out.2.trans (bset (Below.refl _ _) (by show Z ≤ Z + 1; omega))⟩
    · have dy : decide (a < 0) = false := decide_eq_false y
      rw [if_neg y]
      clear y
      go_enter Tryz.func99, Tryz.ntmps99
      go_upto_region 0 with fail
      go_quiet (fail)
      obtain ⟨w1, hw1⟩ : ∃ q, W.drewN nq = q := ⟨_, rfl⟩
      rw [hw1]
      have hb1 : Below W.heap.size W w1 := by rw [← hw1]; exact bdrewN (Below.refl _ _) _
      have hb1' : Below Z W w1 := by rw [← hw1]; exact bdrewN (Below.refl _ _) _
      have hs1 := hb1.size
      have HF1 := Lib.hid (HF.out.keep hb1)
      have c51 := HF1.out.2.2.cell
      have HK1 := Lib.hid (And.intro hb1 hb1')
      have z51 : Z + 1 < w1.heap.size := by omega
      clear hw1 c1 c2 c3 c4 c5 f5 pq hb1 hb1'
      go_wp2
      go_end0
      exact ⟨rfl, ⟨vo, HF1.out, fun _ => rfl⟩, KpG.of HK1.out.1, HK1.out.2⟩
end Go.Proofs.YtkokiahmgmeokaaGreat
