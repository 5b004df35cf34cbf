/- TopFragmentsMissing: plain law: of adjoining fragments one is left out. -/
import Derived.Test.YthlbddcllikolaaGreatHa
import Derived.BigQuiet
import Derived.BigRegion
import Derived.Test.YthlbddcllikolaaGreatUa
import Derived.Test.YthlbddcllikolaaGreatJa
import Derived.Test.YthlbddcllikolaaGreatJb
import Derived.Test.YthlbddcllikolaaGreatJh
import Derived.Test.YthlbddcllikolaaGreatJo
import Derived.Test.YthlbddcllikolaaGreatJp
import Derived.Test.YthlbddcllikolaaGreatJu
import Derived.Test.YthlbddcllikolaaGreatSb
import Derived.Test.YthlbddcllikolaaGreatSg
import Derived.Test.YthlbddcllikolaaGreatSi
import Derived.Test.YthlbddcllikolaaGreatRT
import Derived.Test.YthlbddcllikolaaGreatJm
import Derived.Deep.RegionLaw
import Derived.Lib.SliceRun
import Derived.Laws.OwnMore
set_option linter.unusedVariables false
set_option linter.unusedSimpArgs false
namespace Go.Proofs.YthlbddcllikolaaGreat
open Go Go.RowKit Iv
theorem Adj.split {A B : List Bun} {f t : Int} (h : Adj f (A ++ B) t) : ∃ g, Adj f A g ∧ Adj g B t := by
  induction A generalizing f with
  | nil => exact ⟨f, rfl, h⟩
  | cons y A ih => obtain ⟨g, h1, h2⟩ := ih h.2; exact ⟨g, ⟨h.1, h1⟩, h2⟩
theorem Adj.le {A : List Bun} {f t : Int} (h : Adj f A t) : f ≤ t := by
  induction A generalizing f with
  | nil => have e : f = t := h; omega
  | cons y A ih => have := ih h.2; have := h.1; omega
theorem Adj.bnd {A : List Bun} {f t : Int} (h : Adj f A t) : ∀ z ∈ A, f ≤ z.off ∧ z.off + z.payload.length ≤ t := by
  induction A generalizing f with
  | nil => intro z hz; cases hz
  | cons y A ih =>
    intro z hz
    have e := h.1
    have l := Adj.le h.2
    rcases List.mem_cons.1 hz with rfl | hz
    · omega
    · have := ih h.2 z hz; omega
/-- what is left of l without its d-th -/
def without (l : List Bun) (d : Nat) : List Bun := l.take d ++ l.drop (d + 1)
theorem without_mem {l : List Bun} {d : Nat} {y : Bun} (h : l[d]? = some y) : ∀ z, z ∈ without l d ∨ z = y ↔ z ∈ l := fun z => by
  obtain ⟨h1, h2⟩ := List.getElem?_eq_some_iff.1 h
  have e : l = l.take d ++ y :: l.drop (d + 1) := by
    rw [← h2, ← List.drop_eq_getElem_cons h1, List.take_append_drop]
  unfold without
  constructor
  · intro hz
    rw [e]
    simp only [List.mem_append, List.mem_cons] at hz ⊢
    rcases hz with (hz | hz) | hz
    · exact .inl hz
    · exact .inr (.inr hz)
    · exact .inr (.inl hz)
  · intro hz
    rw [e] at hz
    simp only [List.mem_append, List.mem_cons] at hz ⊢
    rcases hz with hz | hz | hz
    · exact .inl (.inl hz)
    · exact .inr hz
    · exact .inl (.inr hz)
/-- the places that the others hold: all but those of the one -/
theorem without_in {l : List Bun} {d : Nat} {y : Bun} {n : Int} (h : l[d]? = some y) (ha : Adj 0 l n) (t : Int) : (∃ z ∈ without l d, z.off ≤ t ∧ t < z.off + z.payload.length) ↔ (0 ≤ t ∧ t < n ∧ ¬ (y.off ≤ t ∧ t < y.off + y.payload.length)) := by
  obtain ⟨h1, h2⟩ := List.getElem?_eq_some_iff.1 h
  have e : l = l.take d ++ y :: l.drop (d + 1) := by
    rw [← h2, ← List.drop_eq_getElem_cons h1, List.take_append_drop]
  have ha' := ha
  rw [e] at ha'
  obtain ⟨g, a1, a2⟩ := ha'.split
  have a3 := a2.1
  have a4 := a2.2
  constructor
  · rintro ⟨z, hz, z1, z2⟩
    have b0 := ha.bnd z ((without_mem h z).1 (.inl hz))
    rcases List.mem_append.1 hz with hz | hz
    · have := a1.bnd z hz; omega
    · have := a4.bnd z hz; omega
  · rintro ⟨t0, t1, t2⟩
    obtain ⟨z, hz, z1, z2⟩ := ha.cover t t0 t1
    rcases (without_mem h z).2 hz with hz | rfl
    · exact ⟨z, hz, z1, z2⟩
    · exact absurd ⟨z1, z2⟩ t2
theorem addAll_snoc : ∀ {r : List Bun} {q : Par × Int} {y : Bun}, (addAll r q).2 = 0 → addAll (r ++ [y]) q = addP (addAll r q).1 y
  | [], q, y, h => by
    have h' : q.2 = 0 := h
    show addAll [y] q = addP q.1 y
    unfold addAll
    rw [if_neg (by rw [h']; simp)]
    rfl
  | x :: r, q, y, h => by
    by_cases c : q.2 = 0
    · have e : addAll (x :: r) q = addAll r (addP q.1 x) := by
        conv => lhs; unfold addAll
        rw [if_neg (by rw [c]; simp)]
      have e2 : addAll ((x :: r) ++ [y]) q = addAll (r ++ [y]) (addP q.1 x) := by
        show addAll (x :: (r ++ [y])) q = _
        conv => lhs; unfold addAll
        rw [if_neg (by rw [c]; simp)]
      rw [e] at h ⊢
      rw [e2]
      exact addAll_snoc h
    · have e : addAll (x :: r) q = q := by
        unfold addAll
        rw [if_pos c]
      rw [e] at h
      exact absurd h c
/-- the partial of the others, and what is missing in it -/
theorem miss_facts {b x y : Bun} {m : Int} {l r : List Bun} {d : Nat} (hb : Big b m) (hl : ∀ z ∈ l, FragOf b z) (ha : Adj 0 l b.payload.length) (hn : l.length ≤ 800) (hd : l[d]? = some y) (hw : without l d = x :: r) :
    (newP x).2 = 0 ∧ (∀ k, k ≤ r.length → (addAll (r.take k) (newP x)).2 = 0) ∧ missP (addAll r (newP x)).1 = ([(y.off, y.off + y.payload.length)], 0) ∧ allP (x :: r) = (zBun, 25) ∧
      (addP (addAll r (newP x)).1 y).2 = 0 ∧ resP (addP (addAll r (newP x)).1 y).1 = (b, 0) := by
  have hm : ∀ z ∈ x :: r, FragOf b z := fun z hz => hl z ((without_mem hd z).1 (.inl (by rw [hw]; exact hz)))
  have hy : FragOf b y := hl y ((without_mem hd y).1 (.inr rfl))
  have hlen : (x :: r).length ≤ 800 := by
    rw [← hw]
    unfold without
    rw [List.length_append, List.length_take, List.length_drop]
    omega
  have h0 : (newP x).2 = 0 := frag_new (hm x (by simp))
  obtain ⟨q, hq⟩ : ∃ q, (newP x).1 = q := ⟨_, rfl⟩
  have e0 : newP x = (q, 0) := by rw [← hq, ← h0]
  have hh := Hold.new h0
  rw [hq] at hh
  have hall : ∀ k, k ≤ r.length → (addAll (r.take k) (newP x)).2 = 0 := fun k hk => by
    rw [e0]
    exact frag_all hh (fun z hz => hm z (List.mem_cons.2 (.inl (List.mem_singleton.1 hz)))) (fun z hz => hm z (List.mem_cons.2 (.inr (List.mem_of_mem_take hz)))) (by simp only [List.length_cons, List.length_nil, List.length_take] at hlen ⊢; omega)
  have h1 := hall r.length (Nat.le_refl _)
  rw [List.take_length, e0] at h1
  obtain ⟨T, hT, hmT, hlT⟩ := hh.all h1
  rw [e0]
  obtain ⟨P, hP⟩ : ∃ P, (addAll r (q, 0)).1 = P := ⟨_, rfl⟩
  have eP : addAll r (q, 0) = (P, 0) := Prod.ext hP h1
  rw [hP] at hT
  have hTm : ∀ z, z ∈ T ↔ z ∈ x :: r := fun z => by rw [hmT]; simp [or_comm]
  obtain ⟨n1, n2, n3, n4, n5, n6⟩ := nf_valid hT.val
  obtain ⟨k1, kx, k3, k4, k5⟩ := known_all hT.val
  have fx := hm x (by simp)
  obtain ⟨⟨d1, d2, d3, d4, d5, d6, d7, d8⟩, d9, d10⟩ := bel_facts (hT.mem x ((hTm x).2 (by simp))).2.2
  have hdl : P.data.length = b.payload.length := by have := fx.tot; omega
  have hin : ∀ t : Int, inS P.known t = true ↔ (0 ≤ t ∧ t < b.payload.length ∧ ¬ (y.off ≤ t ∧ t < y.off + y.payload.length)) := fun t => by
    rw [hT.at, ← without_in hd ha t, hw]
    constructor
    · rintro ⟨z, hz, h⟩; exact ⟨z, (hTm z).1 hz, h⟩
    · rintro ⟨z, hz, h⟩; exact ⟨z, (hTm z).2 hz, h⟩
  have yo := hy.off
  have yb := hy.bnd
  have yp := hy.pos
  have hout : outs P.data.length 0 P.known = [(y.off, y.off + y.payload.length)] := NF.uniq (b := -1) (c := -1) (outs_nf _ _ 0 k1) ⟨by show (-1 : Int) < y.off; omega, by show y.off < y.off + (y.payload.length : Int); omega, trivial⟩ (fun t => by
    rw [outs_in _ _ 0 k1 (fun z hz => (kx z hz).2), inS_cons, inS_nil, Bool.or_false]
    by_cases c : inS P.known t = true
    · have c2 := (hin t).1 c
      rw [c]
      simp only [Bool.not_true, Bool.and_false]
      symm
      rw [← Bool.not_eq_true]
      intro h
      simp only [Bool.and_eq_true, decide_eq_true_eq] at h
      exact c2.2.2 h
    · have c2 : ¬ (0 ≤ t ∧ t < (b.payload.length : Int) ∧ ¬ (y.off ≤ t ∧ t < y.off + (y.payload.length : Int))) := fun h => c ((hin t).2 h)
      have c3 : inS P.known t = false := by simpa using c
      rw [c3]
      by_cases c4 : y.off ≤ t ∧ t < y.off + (y.payload.length : Int)
      · have e1 : 0 ≤ t := by omega
        have e2 : t < (P.data.length : Int) := by omega
        simp [c4.1, c4.2, e1, e2]
      · have e1 : ¬ (0 ≤ t ∧ t < (P.data.length : Int)) := fun h => c2 ⟨h.1, by omega, c4⟩
        have e3 : (decide (0 ≤ t) && decide (t < (P.data.length : Int))) = false := by
          rw [← Bool.not_eq_true]; intro h; simp only [Bool.and_eq_true, decide_eq_true_eq] at h; exact e1 h
        have e4 : (decide (y.off ≤ t) && decide (t < y.off + (y.payload.length : Int))) = false := by
          rw [← Bool.not_eq_true]; intro h; simp only [Bool.and_eq_true, decide_eq_true_eq] at h; exact c4 h
        rw [e3]
        simpa using e4.symm)
  have hS : ∀ z ∈ T, FragOf b z := fun z hz => hm z ((hTm z).1 hz)
  have hTl : T.length ≤ 900 := by rw [hlT]; simp only [List.length_cons, List.length_nil] at hlen ⊢; omega
  have ha1 : (addP P y).2 = 0 := frag_add hT hS hy (by omega)
  refine ⟨rfl, fun k hk => by rw [← e0]; exact hall k hk, ?_, ?_, ?_, ?_⟩
  · rw [eP, miss_eq hT.val, hout]
    unfold limS
    rw [if_neg (by simp)]
  · show (if (addAll r (newP x)).2 ≠ 0 then (zBun, (addAll r (newP x)).2) else resP (addAll r (newP x)).1) = _
    rw [e0, eP, if_neg (by simp)]
    refine resP_2 hT.val fun h => ?_
    have c := (hin y.off)
    have e1 : P.known = [(0, (P.data.length : Int))] := by
      match hk : P.known, h.1, h.2 with
      | [z], _, h2 => simp at h2; rw [h2]
    have c3 : inS P.known y.off = true := by
      rw [e1, inS_cons, inS_nil, Bool.or_false]
      simp only [Bool.and_eq_true, decide_eq_true_eq]
      omega
    have := (c.1 c3).2.2
    omega
  · rw [eP]; exact ha1
  · have hw2 := frag_whole_all hb.valid hb.tot (x := x) (r := r ++ [y]) (fun z hz => by
      rcases List.mem_cons.1 hz with rfl | hz
      · exact fx
      · rcases List.mem_append.1 hz with hz | hz
        · exact hm z (by simp [hz])
        · simp at hz; subst hz; exact hy) (by simp only [List.length_append, List.length_cons, List.length_nil] at hlen ⊢; omega) (fun t t0 t1 => by
      by_cases c : y.off ≤ t ∧ t < y.off + (y.payload.length : Int)
      · exact ⟨y, by simp, c.1, c.2⟩
      · obtain ⟨z, hz, hz2⟩ := (without_in hd ha t).2 ⟨t0, t1, c⟩
        rw [hw] at hz
        refine ⟨z, ?_, hz2⟩
        rcases List.mem_cons.1 hz with rfl | hz
        · simp
        · simp [hz])
    have e2 : allP (x :: (r ++ [y])) = resP (addAll (r ++ [y]) (newP x)).1 := by
      show (if (addAll (r ++ [y]) (newP x)).2 ≠ 0 then (zBun, (addAll (r ++ [y]) (newP x)).2) else resP (addAll (r ++ [y]) (newP x)).1) = _
      rw [e0, addAll_snoc (by rw [eP]), eP, if_neg (by rw [ha1]; simp)]
    rw [e2, e0, addAll_snoc (by rw [eP])] at hw2
    exact hw2
end Go.Proofs.YthlbddcllikolaaGreat
/- Joined by port.py: XUd -/
set_option linter.unusedVariables false
set_option linter.unusedSimpArgs false
/-! XUd -/
namespace Go.Proofs.YthlbddcllikolaaGreat
open Go Go.RowKit Iv
attribute [local go_sem] Oper.semAt_some
attribute [local go_sem] B_getElem B_size B_app B_extract B_get B_toList
attribute [local go_sem ↓] neSpI
set_option maxRecDepth 100000 in
set_option maxHeartbeats 4000000 in
theorem eqSp_any (l : List Sp) (u v : Value) (w : World) (h : RSps w w.heap.size u l) (k : RSps w w.heap.size v l) :
    Calls Tryz.prog 17 #[u, v] w (Says w) := by
  obtain ⟨a, c, rfl, h1, h2, h3, h4⟩ := h
  obtain ⟨a', c', rfl, k1, k2, k3, k4⟩ := k
  unfold maxLen at h2 k2
  have hlen : l.length ≤ 9223372036854775807 := by omega
  have H4 := Lib.hid h4
  have K4 := Lib.hid k4
  clear h3 h4 k3 k4
  go_enter Tryz.func17, Tryz.ntmps17
  go_wp2
  go_loopw [13] (fun i wr => ∃ k : Nat, k ≤ l.length ∧ i = .int .i64 k ∧ Below w.heap.size w wr) (fun i _ => l.length - (intOf i).toNat)
  case atStart => exact ⟨0, Nat.zero_le _, rfl, Below.refl _ _⟩
  case round =>
    obtain ⟨k, hk, rfl, hB⟩ := hrel
    by_cases hlt : k < l.length
    · obtain ⟨b, o, rfl, hbn, hcell⟩ := H4.out (by omega)
      obtain ⟨b', o', rfl, hbn', hcell'⟩ := K4.out (by omega)
      obtain ⟨x, hx⟩ : ∃ x, l[k]? = some x := ⟨_, List.getElem?_eq_getElem hlt⟩
      have c1 := (hB.cell (p := ⟨b, o + k * 2, none⟩) hbn).trans (sp0 hcell hx)
      have c2 := (hB.cell (p := ⟨b, o + k * 2 + 1, none⟩) hbn).trans (sp1 hcell hx)
      have d1 := (hB.cell (p := ⟨b', o' + k * 2, none⟩) hbn').trans (sp0 hcell' hx)
      have d2 := (hB.cell (p := ⟨b', o' + k * 2 + 1, none⟩) hbn').trans (sp1 hcell' hx)
      have k0 : (0 : Int) ≤ (k : Int) := by omega
      have k1' : (k : Int) < (l.length : Int) := by omega
      clear hcell hcell' hx
      go_wp2
      go_quiet (fail)
      go_wp2
      refine ⟨⟨k + 1, by omega, by go_num, belowA⟩, by simp [intOf]; omega⟩
    · obtain rfl : k = l.length := by omega
      go_wp2
      go_ret
      exact ⟨rfl, belowA⟩
end Go.Proofs.YthlbddcllikolaaGreat
/- fragment.Span (from chapter 17's texts, for TopFragmentsMissing) -/
set_option linter.unusedVariables false
set_option linter.unusedSimpArgs false
namespace Go.Proofs.YthlbddcllikolaaGreat
open Go Go.RowKit
attribute [local go_sem] B_getElem B_size B_app B_extract B_get B_toList
def spanR (b : Bun) : Int × Int × Int := if chkE b ≠ 0 then (0, 0, 1) else (b.off, b.off + b.payload.length, 0)
set_option maxHeartbeats 1000000 in
theorem spanr_any (b : Bun) (u : Value) (w : World) (h : RBlks w w.heap.size u b.blocks) (hf : Fits b) :
    Calls Tryz.prog 15 #[.agg (bunC b u).toArray] w fun e w' => e = .returned (.tuple #[.agg #[.int .i64 (spanR b).1, .int .i64 (spanR b).2.1], .int .i64 (spanR b).2.2]) ∧ Below w.heap.size w w' := by
  obtain ⟨E, hE⟩ : ∃ E, chkE b = E := ⟨_, rfl⟩
  obtain ⟨ua, uc, rfl, _⟩ := id h
  have HR := Lib.hid h
  have HF := Lib.hid hf
  have HE := Lib.hid hE
  clear h hf
  by_cases z : E = 0
  · subst z
    obtain ⟨v1, v2, v3, v4, v5, _⟩ := valid_facts hE
    have hr : spanR b = (b.off, b.off + b.payload.length, 0) := by unfold spanR; rw [hE, if_neg (by simp)]
    rw [hr]
    clear hr hE
    go_enter Tryz.func15, Tryz.ntmps15
    simp only [bunC]
    go_wp2_with fail
    refine (check_any b _ _ (HR.out.below (C := w.heap.size) belowA (Nat.le_refl _) (by first | omega | (simp; done) | (simp; omega))) HF.out).mono ?_
    rintro e w1 ⟨rfl, hb1⟩
    rw [HE.out]
    obtain ⟨k1, f1⟩ := bcell hb1
    have z1 : w.heap.size + 1 < w1.heap.size := by have := hb1.size; simp at this; omega
    have z1' : w.heap.size < w1.heap.size := by omega
    go_wp2_with fail
    refine (span_any b _ _ v1 (by omega) (by omega)).mono ?_
    rintro e w3 ⟨rfl, hb3⟩
    obtain ⟨k3, f3⟩ := bcell hb3
    have z3 : w.heap.size + 1 < w3.heap.size := by have := hb3.size; omega
    go_wp2
    refine bodyPost_ret (v := .tuple #[.agg #[.int .i64 b.off, .int .i64 (b.off + b.payload.length)], .int .i64 0]) (by simp [results, Tryz.results15, go_sem, World.cell?_setCell_same', k1, k3, z1, z1', z3]) rfl ?_
    exact ⟨rfl, belowA⟩
  · have z' : (E != 0) = true := by simpa using z
    have hr : spanR b = (0, 0, 1) := by unfold spanR; rw [hE, if_pos z]
    rw [hr]
    clear hr hE z
    go_enter Tryz.func15, Tryz.ntmps15
    simp only [bunC]
    go_wp2_with fail
    refine (check_any b _ _ (HR.out.below (C := w.heap.size) belowA (Nat.le_refl _) (by first | omega | (simp; done) | (simp; omega))) HF.out).mono ?_
    rintro e w1 ⟨rfl, hb1⟩
    rw [HE.out]
    obtain ⟨k1, f1⟩ := bcell hb1
    have z1 : w.heap.size + 1 < w1.heap.size := by have := hb1.size; simp at this; omega
    go_wp2
    refine bodyPost_ret (v := .tuple #[.agg #[.int .i64 0, .int .i64 0], .int .i64 1]) (by simp [results, Tryz.results15, go_sem, World.cell?_setCell_same', k1, z1]) rfl ?_
    exact ⟨rfl, belowA⟩
end Go.Proofs.YthlbddcllikolaaGreat
/- slices.Delete of one bundle in a row of one's own. -/
set_option linter.unusedVariables false
set_option linter.unusedSimpArgs false
namespace Go.Proofs.YthlbddcllikolaaGreat
open Go Go.RowKit Iv
attribute [local go_sem] Oper.semAt_some
theorem run_clear_one {P : Program} (w : World) (t e ty : TypeId) (z : Value) (zs : List Value) (ht : P.underlying t = some (.slice e)) (hv : ∀ w, (zeroValue e).run P w = .ok z w) (hz : z.cells = zs.toArray) (h1 : ∀ v ∈ zs, v.oneCell' = true) (b o c : Nat)
    (hc : ∀ j, j < zs.length → (w.cell? ⟨b, o + j, none⟩).isSome = true) (hf : ∀ j, j < zs.length → w.frozen? ⟨b, o + j, none⟩ = false) :
    (Builtin.clear_ #[t] ty #[.slice (some ⟨b, o, none⟩) 1 c]).run P w = .ok (.tuple #[]) (w.setCells b o zs) := by
  have hzc : (Builtin.zeroCells z.cells 1).toList = zs := by
    rw [hz]
    simp [Builtin.zeroCells]
    apply List.ext_getElem
    · simp
    · intro i h1 h2
      simp [Nat.mod_eq_of_lt h2, List.getElem?_eq_getElem h2]
  have hst := run_storeCells_cells (P := P) b o zs 0 w (by simpa using hc) (by simpa using hf) h1
  simp only [Nat.add_zero] at hst
  simp [Builtin.clear_, run_underlying ht, hv, hzc, hst]
theorem own_take {w : World} {base n k cap g size : Nat} {e : TypeId} {xs : List Value} (h : w.ownsRow base e size (.slice (some ⟨g, 0, none⟩) n cap) n xs) (hk : k ≤ n) : w.ownsRow base e size (.slice (some ⟨g, 0, none⟩) k cap) k (xs.take (k * size)) := by
  have hle : k * size ≤ n * size := Nat.mul_le_mul_right _ hk
  refine ⟨by rw [List.length_take, h.1]; omega, ?_⟩
  rcases h.2 with ⟨e1, e2⟩ | ⟨g', cap', cur, e1, e2, e3, e4, e5, e6, e7⟩
  · cases e1
  · cases e1
    exact .inr ⟨g, cap, cur, rfl, e2, e3, by omega, e5, e6, by rw [← e7, List.take_take, Nat.min_eq_left hle]⟩
def DelBPost (us : List BV) (n base g cap d : Nat) (w : World) (e : Ending) (w' : World) : Prop :=
  e = .returned (.slice (some ⟨g, 0, none⟩) (n - 1) cap) ∧ OwnX w' base (.slice (some ⟨g, 0, none⟩) (n - 1) cap) (us.take d ++ us.drop (d + 1)) ∧ Below g w w'
/-- the zero bundle's cells -/
def delZ : List Value := [.int .i64 0, .int .i64 0, .int .i64 0, .int .i64 0, .int .i64 0, .int .i64 0, .int .i64 0, .int .i64 0, .int .i64 0, .int .i64 0, .slice none 0 0, .string ⟨#[]⟩]
set_option maxRecDepth 100000 in
set_option maxHeartbeats 4000000 in
theorem del_any (us : List BV) (n base g cap d : Nat) (w : World) (hn : us.length = n) (h : OwnX w base (.slice (some ⟨g, 0, none⟩) n cap) us) (hd : d < n) (hl : n ≤ 1000) :
    Calls Tryz.prog 10 #[.slice (some ⟨g, 0, none⟩) n cap, .int .i64 d, .int .i64 (d + 1)] w (DelBPost us n base g cap d w) := by
  obtain ⟨hcap, hcm⟩ : n ≤ cap ∧ cap ≤ 9223372036854775807 := by
    rcases h.1.2 with ⟨e1, e2⟩ | ⟨g', cap', cur, e1, e2, e3, e4, e5, _⟩
    · cases e1
    · cases e1
      rw [hn] at e4
      exact ⟨e4, e5⟩
  obtain ⟨x, hx⟩ : ∃ x, us[d]? = some x := ⟨_, List.getElem?_eq_getElem (by omega)⟩
  have hsp := flatU_split hx
  have hAl : (sflatU (us.take d)).length = d * 12 := by rw [flatU_len, List.length_take]; omega
  have hRl : (sflatU (us.drop (d + 1))).length = (n - (d + 1)) * 12 := by rw [flatU_len, List.length_drop, hn]
  have hXl : (bunC x.1 x.2).length = 12 := bunC_len _
  obtain ⟨A, hA⟩ : ∃ A, sflatU (us.take d) = A := ⟨_, rfl⟩
  obtain ⟨R, hR⟩ : ∃ R, sflatU (us.drop (d + 1)) = R := ⟨_, rfl⟩
  have hsl : ∀ r ∈ us, ∃ a n c, r.2 = .slice a n c := fun r hr => by obtain ⟨a, c, e, _⟩ := h.2 r hr; exact ⟨a, _, c, e⟩
  have hR1 : ∀ v ∈ R, v.oneCell' = true := by rw [← hR]; exact flatU_one _ (fun r hr => hsl r (List.mem_of_mem_drop hr))
  rw [hA, hR] at hsp
  rw [hA] at hAl
  rw [hR] at hRl
  have hown := h.1
  rw [hn, hsp] at hown
  have hown0 : w.drew.ownsRow base 28 12 (.slice (some ⟨g, 0, none⟩) n cap) n (A ++ (bunC x.1 x.2 ++ R)) := hown
  -- the cells that are moved
  obtain ⟨W1, hW1⟩ : ∃ W1, W1 = w.drew.setCells g (0 + d * 12) R := ⟨_, rfl⟩
  obtain ⟨Bx, Cx, hBC, hBl, hCl⟩ : ∃ Bx Cx, bunC x.1 x.2 ++ R = Bx ++ Cx ∧ Bx.length = R.length ∧ Cx.length = 12 := ⟨(bunC x.1 x.2 ++ R).take R.length, (bunC x.1 x.2 ++ R).drop R.length, (List.take_append_drop _ _).symm, by rw [List.length_take, List.length_append]; omega, by rw [List.length_drop, List.length_append]; omega⟩
  have o1 : W1.ownsRow base 28 12 (.slice (some ⟨g, 0, none⟩) n cap) n (A ++ (R ++ Cx)) := by
    rw [hW1]
    have := own_setCells R (0 + d * 12) _ _ hown0
    rw [hBC, Nat.zero_add, ← hAl, setL_mid Cx R A Bx hBl] at this
    rw [Nat.zero_add, ← hAl]
    exact this
  obtain ⟨W2, hW2⟩ : ∃ W2, W1.setCells g ((n - 1) * 12) delZ = W2 := ⟨_, rfl⟩
  have hAR : (A ++ R).length = (n - 1) * 12 := by rw [List.length_append, hAl, hRl]; omega
  have o2 : W2.ownsRow base 28 12 (.slice (some ⟨g, 0, none⟩) n cap) n (A ++ R ++ (delZ ++ [])) := by
    rw [← hW2]
    have := own_setCells delZ ((n - 1) * 12) _ _ o1
    rw [← hAR, show A ++ (R ++ Cx) = (A ++ R) ++ (Cx ++ []) by simp, setL_mid [] delZ (A ++ R) Cx (by rw [hCl]; rfl)] at this
    rw [← hAR]
    exact this
  have o3 := own_take (k := n - 1) o2 (by omega)
  rw [← hAR, List.take_left] at o3
  have hks : ∀ q, q ≠ g → W2.heap[q]? = w.heap[q]? := fun q hq => by rw [← hW2, setCells_other g q hq, hW1, setCells_other g q hq]; rfl
  have hsz : W2.heap.size = w.heap.size := by rw [← hW2, setCells_size, hW1, setCells_size]; rfl
  have hfin : DelBPost us n base g cap d w (.returned (.slice (some ⟨g, 0, none⟩) (n - 1) cap)) W2 := by
    refine ⟨rfl, ⟨?_, fun r hr => ?_⟩, ?_⟩
    · rw [List.length_append, List.length_take, List.length_drop, hn, flatU_app, hA, hR, show min d n + (n - (d + 1)) = n - 1 by omega]
      exact o3
    · have hr' : r ∈ us := by
        rcases List.mem_append.1 hr with hr | hr
        · exact List.mem_of_mem_take hr
        · exact List.mem_of_mem_drop hr
      refine (h.2 r hr').keep (fun q o hq => World.cell?_of_block (hks q fun e => hq.2 (by rw [e]; rfl))) (fun q hq => ⟨by rw [hsz]; exact hq.1, fun e => hq.2 (by rw [← e]; rfl)⟩)
    · rw [← hW2, hW1]
      exact (bdrew (Below.refl _ _)).trans ((setCells_below g _ _ _ _ (Nat.le_refl _)).trans (setCells_below g _ _ _ _ (Nat.le_refl _)))
  obtain ⟨Ad, hAd, hsrc⟩ : ∃ Ad : Addr, (if cap = d + 1 then (some ⟨g, 0, none⟩ : Option Addr) else some ⟨g, (d + 1) * 12, none⟩) = some Ad ∧ Hid (∀ t u, R[t]? = some u → w.drew.cell? (Ad.add t) = some u) := by
    by_cases hc : cap = d + 1
    · refine ⟨⟨g, 0, none⟩, by simp [hc], fun t u hu => ?_⟩
      have h0 : R.length = 0 := by rw [hRl]; omega
      rw [List.length_eq_zero_iff.1 h0] at hu
      simp at hu
    · refine ⟨⟨g, (d + 1) * 12, none⟩, by simp [hc], fun t u hu => ?_⟩
      have ht : t < (n - (d + 1)) * 12 := by have := (List.getElem?_eq_some_iff.1 hu).1; omega
      rw [addN, hown0.cellAt _ (by omega), List.getElem?_append_right (by omega), List.getElem?_append_right (by omega)]
      rw [← hu]
      congr 1
      omega
  have s3 : Hid (∀ t, t < R.length → (w.drew.cell? ⟨g, 0 + d * 12 + t, none⟩).isSome = true ∧ w.drew.frozen? ⟨g, 0 + d * 12 + t, none⟩ = false) := by
    intro t ht
    refine ⟨?_, hown0.frozenAt _⟩
    rw [hown0.cellAt _ (by omega), List.getElem?_eq_getElem (by rw [← hsp, flatU_len, hn]; omega)]
    rfl
  have hcl : ∀ ty c, (Builtin.clear_ #[33] ty #[.slice (some ⟨g, (n - 1) * 12, none⟩) 1 c]).run Tryz.prog W1 = .ok (.tuple #[]) W2 := fun ty c => by
    rw [← hW2]
    refine run_clear_one W1 _ _ ty _ delZ Tryz.underlying33 (fun w => Tryz.zeroValue28 w) rfl (by decide) g _ c (fun j hj => ?_) (fun j hj => o1.frozenAt _)
    have hj' : j < 12 := hj
    rw [o1.cellAt _ (by omega), List.getElem?_eq_getElem (by rw [List.length_append, List.length_append, hCl]; omega)]
    rfl
  have hcl2 : ∀ ty, (Builtin.clear_ #[33] ty #[.slice (some ⟨g, (d + (n - (d + 1))) * 12, none⟩) (n - (d + (n - (d + 1)))) (cap - (d + (n - (d + 1))))]).run Tryz.prog W1 = .ok (.tuple #[]) W2 := fun ty => by
    rw [show d + (n - (d + 1)) = n - 1 by omega, show n - (n - 1) = 1 by omega]
    exact hcl ty _
  clear hcl
  obtain ⟨i0, hi, hz0, hz1, hz2⟩ := info_parts infoBun
  have HF := Lib.hid hfin
  have HW1 : Hid (W1 = w.drew.setCells g (0 + d * 12) R) := hW1
  have HR1 := Lib.hid hR1
  have HRl := Lib.hid hRl
  have i0_ : (0 : Int) ≤ (d : Int) := by omega
  have i1_ : (0 : Int) ≤ (d : Int) + 1 := by omega
  have i2_ : (d : Int) + 1 ≤ (n : Int) := by omega
  have hic : d ≤ cap := by omega
  have hjc : d + 1 ≤ cap := by omega
  clear hW1 hW2 hfin hks hsz o1 o2 o3 hown0 hown hsp hA hR hAl hRl hXl hBC hBl hCl hAR hR1 hsl hx hn h
  go_enter Tryz.func10, Tryz.ntmps10
  go_wp2_with fail
  go_region_law (refine step_append_room rfl (.tmp 22) (.tmp 25) 33 rfl 28 i0 12 Tryz.underlying33 hi hz1 g 0 d cap (by simp [Act.eval, Act.put]) Ad (n - (d + 1)) (cap - (d + 1)) R (by simp [Act.eval, Act.put]) HRl.out hsrc.out HR1.out (by omega) s3.out ?_; rw [← HW1.out])
  go_wp2
  go_ret
  rw [show d + (n - (d + 1)) = n - 1 by omega]
  exact HF.out
end Go.Proofs.YthlbddcllikolaaGreat
