/- TopMirrorTight: contact: pass (printed by gen/g22.py) -/
import Derived.BigQuiet
import Derived.BigRegion
import Derived.Test.YtbpmccfbfpgijaaGreatNb
set_option linter.unusedVariables false
set_option linter.unusedSimpArgs false
namespace Go.Proofs.YtbpmccfbfpgijaaGreat
open Go Go.RowKit Iv
attribute [local go_sem] Oper.semAt_some
attribute [local go_sem] B_getElem B_size B_app B_extract B_get B_toList
open Go.Shelf
set_option maxRecDepth 100000 in
set_option maxHeartbeats 2000000 in
theorem pass_any (c : Con) (s : Nat) (w : World) (h : 1 ≤ c.ra) (h2 : c.ra ≤ 1000) (hs : s ≤ 65536) :
    Calls Tryz.prog 75 #[.agg #[.int .i64 c.fr, .int .i64 c.tt, .int .i64 c.st, .int .i64 c.en, .int .i64 c.ra, .int .i64 c.rg, .int .i64 c.lo], .int .i64 (s : Int)] w fun e w' => e = .returned (.int .i64 (passS c s)) ∧ Below w.heap.size w w' := by
  refine (callsIn_wide (n := 12)).1 ?_
  refine callsIn_of_wp_marks Tryz.func75 rfl trivial ?_ rfl
  simp only [Tryz.ntmps75, List.size_toArray, List.length_cons, List.length_nil, Nat.reduceAdd, Nat.reduceSub, Array.replicate_succ, Array.replicate_zero, List.push_toArray, List.append_toArray, List.nil_append, List.cons_append]
  gi_wp2_with fail
  refine ⟨trivial, (segments_in Fence.wide _ trivial rfl _ _).mono ?_⟩
  rintro e w2 ⟨rfl, rfl⟩
  obtain ⟨W0, hW0⟩ : ∃ W0, ((w.alloc (.cells #[.int .i64 c.fr, .int .i64 c.tt, .int .i64 c.st, .int .i64 c.en, .int .i64 c.ra, .int .i64 c.rg, .int .i64 c.lo] 58)).alloc (.cells #[.int .i64 0] 3)).alloc (.cells #[.int .i64 (s : Int)] 3) = W0 := ⟨_, rfl⟩
  have hs0 : W0.heap.size = w.heap.size + 3 := by rw [← hW0]; simp
  have hB0 : Below w.heap.size w W0 := by rw [← hW0]; exact belowA
  have hout0 : Boxed W0 (w.heap.size + 1) 3 (.int .i64 0) := by rw [← hW0]; exact (Below.heap_alloc _ _ _ (by simp)).trans (heap_new' (by simp))
  have hx0 : W0.heap[w.heap.size]? = some (.cells #[.int .i64 c.fr, .int .i64 c.tt, .int .i64 c.st, .int .i64 c.en, .int .i64 c.ra, .int .i64 c.rg, .int .i64 c.lo] 58 (0, 0)) := by rw [← hW0]; exact (Below.heap_alloc _ _ _ (by simp; omega)).trans ((Below.heap_alloc _ _ _ (by simp)).trans heap_new)
  have hx1 : W0.heap[w.heap.size + 2]? = some (.cells #[.int .i64 (s : Int)] 3 (0, 0)) := by rw [← hW0]; exact heap_new' (by simp)
  have cs0 : W0.cell? ⟨w.heap.size + 2, 0, none⟩ = some (.int .i64 (s : Int)) := cellB hx1 0
  have HX0 := Lib.hid hx0
  have hsz : w.heap.size + 2 < W0.heap.size := by omega
  have e2 : ((w.alloc (.cells #[.int .i64 c.fr, .int .i64 c.tt, .int .i64 c.st, .int .i64 c.en, .int .i64 c.ra, .int .i64 c.rg, .int .i64 c.lo] 58)).alloc (.cells #[.int .i64 0] 3)).heap.size = w.heap.size + 2 := by simp
  rw [e2, hW0]
  have HS0 := Lib.hid hs0
  clear hW0 hs0 e2 hx0 hx1
  gi_wp2
  refine wpIn_rangeFunc_ownH rfl (by omega) (gf := 141) (lb := #[.pointer (some ⟨w.heap.size + 2, 0, none⟩)]) rfl trivial (enters_of Tryz.func141 (by kernel_rfl) rfl)
    (segments_stops Fence.wide 11 trivial rfl (by omega) (w.heap.size + 2) W0.heap.size (w.heap.size + 1) s hs W0 hsz (by omega) hsz cs0) (fun h k => h.trans k) (fun W l o o' hl _ _ _ => KpX.putObj W o' hl) (Below.refl _ _) (fun _ => rfl)
    (fun pre W => Boxed W (w.heap.size + 1) 3 (.int .i64 ((pre.map (·.1)).map (tickS c)).sum) ∧ (W.heap[w.heap.size]? = some (.cells #[.int .i64 c.fr, .int .i64 c.tt, .int .i64 c.st, .int .i64 c.en, .int .i64 c.ra, .int .i64 c.rg, .int .i64 c.lo] 58 (0, 0)) ∧ Below w.heap.size w W ∧ W0.heap.size ≤ W.heap.size))
    (fun _ _ _ => False) ?hI (fun _ _ _ _ _ hs _ _ => hs) ?h0
    (fun x a' W => a' = { tmps := #[.agg #[.int .i64 c.fr, .int .i64 c.tt, .int .i64 c.st, .int .i64 c.en, .int .i64 c.ra, .int .i64 c.rg, .int .i64 c.lo], .int .i64 (s : Int), .pointer (some ⟨w.heap.size, 0, none⟩), undef, .int .i64 0, .pointer (some ⟨w.heap.size + 1, 0, none⟩), .int .i64 x.1, .int .i64 (s : Int), .func (.func 141) #[] #[.pointer (some ⟨w.heap.size + 2, 0, none⟩)], .int .i64 x.1, undef, undef, undef, undef, undef, undef], defers := [] }) ?hA ?assign ?body ?done ?stop
  case hI =>
    exact OwnFrom.and (fun s' A C row hs' hg hr' => (ownC hg hr' _ _ _ _ hs').trans hs') (OwnFrom.and (fun s' A C row hs' hg hr' => (ownC hg hr' _ _ _ _ hs').trans hs') (OwnFrom.and (ownFrom_below (Nat.le_refl _) hB0.size) (fun s' A C row hs' hg hr' => Nat.le_trans hs' hg.size)))
  case h0 => exact ⟨hout0, HX0.out, hB0, Nat.le_refl _⟩
  case hA => exact fun x a' s' A C row hs' hg hr' => hs'
  case assign =>
    rintro l pre x W K' ⟨h1, h3, hB, hW0⟩ hK'
    gi_wp2
    exact hK' _ _ (KeepsFrom.refl _ _) (KpX.refl _ _ _) ⟨h1, h3, hB, hW0⟩ rfl
  case body =>
    rintro l pre x a' W hll ⟨q, hq⟩ ⟨h1, h3, hB, hW0⟩ rfl hlt
    obtain ⟨v, hv⟩ : ∃ v, ((pre.map (·.1)).map (tickS c)).sum = v := ⟨_, rfl⟩
    have hvb := sum_bnd h h2 (pre.map (·.1)) (fun n hn => by obtain ⟨y, hy, rfl⟩ := List.mem_map.1 hn; exact y.2)
    rw [hv, List.length_map] at hvb
    have hpl : pre.length ≤ 65536 := by have := segs_len s; omega
    rw [hv] at h1
    have HV := Lib.hid hv
    have hx1 := x.2.1
    have hx2 := x.2.2
    obtain ⟨t, ht⟩ : ∃ t, tickS c x.1 = t := ⟨_, rfl⟩
    have htb := tickS_bnd h h2 hx1 hx2
    rw [ht] at htb
    have HT := Lib.hid ht
    have v0 : 0 ≤ v := by omega
    have v1 : v ≤ 2000000 := by omega
    clear hv ht hvb
    have c1 := h1.cell
    have c2 : ∀ o, W.cell? ⟨w.heap.size, o, none⟩ = #[.int .i64 c.fr, .int .i64 c.tt, .int .i64 c.st, .int .i64 c.en, .int .i64 c.ra, .int .i64 c.rg, .int .i64 c.lo][o]? := fun o => cellB h3 o
    have l1 := h1.lt
    have l0 : w.heap.size < W.heap.size := by omega
    have hS : ∀ V : World, (∀ q o, q < W.heap.size → V.cell? ⟨q, o, none⟩ = W.cell? ⟨q, o, none⟩) → V.cell? ⟨w.heap.size + 1, 0, none⟩ = some (.int .i64 v) ∧ ∀ o, V.cell? ⟨w.heap.size, o, none⟩ = #[.int .i64 c.fr, .int .i64 c.tt, .int .i64 c.st, .int .i64 c.en, .int .i64 c.ra, .int .i64 c.rg, .int .i64 c.lo][o]? := fun V hV => ⟨(hV _ _ l1).trans c1, fun o => (hV _ _ l0).trans (c2 o)⟩
    have HSS := Lib.hid hS
    clear hS
    gi_wp2
    refine wpIn_region_plan (fun V => V.cell? ⟨w.heap.size + 1, 0, none⟩ = some (.int .i64 v) ∧ ∀ o, V.cell? ⟨w.heap.size, o, none⟩ = #[.int .i64 c.fr, .int .i64 c.tt, .int .i64 c.st, .int .i64 c.en, .int .i64 c.ra, .int .i64 c.rg, .int .i64 c.lo][o]?) [1, 1, 0, 2, 0, 3] [0, 1, 2, 3, 4, 5] (by kernel_rfl) (by kernel_rfl) ?_ ?_
    · exact ⟨c1, c2⟩
    (iterate 3 (refine plan_heldI rfl (by decide) (by rfl) (fun w1 => by rfl) (fun w1 hS => by (try (have hS := hS rfl; obtain hS := hS; repeat (obtain ⟨_, hS⟩ := hS))); go_simp; rfl) ?_; simp only [Act.put, List.setIfInBounds_toArray, List.set_cons_zero, List.set_cons_succ]))
    (refine plan_keepI rfl rfl (by rfl) (fun K hK => ?_); go_simp)
    refine ⟨trivial, CallsIn.inRound l (callsIn_wide.2 ((tick_any c x.1 W.drew h h2 (by omega) hx2).mono ?_))⟩
    rw [HT.out]
    rintro e w2 ⟨rfl, hb2⟩
    have hb2' : Below W.heap.size W w2 := ⟨hb2.os, hb2.tape, hb2.output, hb2.size, hb2.block⟩
    have z2 : W.heap.size ≤ w2.heap.size := hb2'.size
    (refine hK _ _ (by exact HSS.out _ (fun q o hq => hb2'.cell (p := ⟨q, o, none⟩) hq)) ?_; clear hK K; (try simp only [Act.put, List.setIfInBounds_toArray, List.set_cons_zero, List.set_cons_succ]))
    (iterate 1 (refine plan_heldI rfl (by decide) (by rfl) (fun w1 => by rfl) (fun w1 hS => by (try (have hS := hS rfl; obtain hS := hS; repeat (obtain ⟨_, hS⟩ := hS))); go_simp; rfl) ?_; simp only [Act.put, List.setIfInBounds_toArray, List.set_cons_zero, List.set_cons_succ]))
    have d1 : Boxed w2 (w.heap.size + 1) 3 (.int .i64 v) := (hb2'.block _ l1).trans h1
    have e1c := d1.cell
    have f1 := d1.frozen
    have HD1 := Lib.hid d1
    clear d1
    (refine plan_lateI rfl rfl (by rfl) (fun K hK => ?_); go_simp)
    (refine hK _ _ ?_; clear hK K; (try simp only [Act.put, List.setIfInBounds_toArray, List.set_cons_zero, List.set_cons_succ]))
    refine plan_doneI ?_
    gi_wp2
    have hh : ∀ k, k < W.heap.size → k ≠ w.heap.size + 1 → ∀ u : Value, (w2.setCell ⟨w.heap.size + 1, 0, none⟩ u).heap[k]? = W.heap[k]? := fun k hk hne u => (Below.heap_setCell _ _ _ _ hne).trans (hb2'.block k hk)
    refine ⟨⟨by simp; omega, fun k o hk ho hc' => ?_⟩, ⟨by simp; omega, fun k hk hne => hh k (by omega) hne _⟩, ?_, (hh _ (by omega) (by omega) _).trans h3, bset (btrans0 hB hb2') (by show w.heap.size ≤ w.heap.size + 1; omega), by simp; omega⟩
    · have hkl : k < W.heap.size := (Array.getElem?_eq_some_iff.1 ho).1
      rw [hh k hkl (by omega)]; exact ho
    · rw [List.map_append, List.map_append, List.sum_append, HV.out]
      have e9 : (List.map (tickS c) (List.map (·.1) [x])).sum = t := by simp [HT.out]
      have e8 : IntKind.i64.wrap (v + t) = v + t := by rw [IntKind.wrap_i64]; omega
      rw [e9, e8]
      exact HD1.out.set _
  case done =>
    rintro D ys W hD hys ⟨h1, h3, hB, hW0⟩ hK'
    have c1 := h1.cell
    gi_wp2
    refine ⟨by simp, .inl ⟨_, _, rfl, run_takeDeferred hK', ?_⟩⟩
    refine ⟨_, results_tmp rfl _ _ _, ?_, hB.grown (grownBy_putObj' W D _) hB.size (fun q hq => by injection hq with hq; omega)⟩
    rfl
  case stop =>
    rintro D c' pre W _ _ h _
    exact h.elim
end Go.Proofs.YtbpmccfbfpgijaaGreat
