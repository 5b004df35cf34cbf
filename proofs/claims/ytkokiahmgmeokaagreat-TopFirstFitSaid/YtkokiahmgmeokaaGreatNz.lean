/- TopMirrorTight: contact: pass (printed by gen/g22.py) -/
import Derived.BigQuiet
import Derived.BigRegion
import Derived.RangeFuncNested
import Derived.RangeFuncBound
import Derived.RangeFuncCalls
import Derived.RangeFuncLeaves
import Derived.RangeFuncBox
import Derived.RangeFuncFrom
import Derived.Shelf.Abstract
import Derived.Shelf.RegionOpen
import Derived.OwnWalkIn
import Derived.LoopIn
import Derived.LoopNIn
import Derived.TacticsInMore
import Derived.Lib.MinMax
import Derived.Test.YtkokiahmgmeokaaGreatNa
import Derived.Deep.DeepCutAuto
set_option linter.unusedVariables false
set_option linter.unusedSimpArgs false
namespace Go.Proofs.YtkokiahmgmeokaaGreat
open Go Go.RowKit Iv
attribute [local go_sem] Oper.semAt_some
attribute [local go_sem] B_getElem B_size B_app B_extract B_get B_toList
open Go.Shelf
/-- a segment -/
abbrev Sg := {n : Int // 1 ≤ n ∧ n ≤ 16}
theorem segments_in (F : Fence) (n : Nat) (h : F.fn 125) (hro : F.round = none) (s : Int) (w : World) :
    CallsIn F n Tryz.prog 125 #[.int .i64 s] w fun e W' => e = .returned (.func (.func 158) #[] #[.pointer (some ⟨w.heap.size, 0, none⟩)]) ∧ W' = w.alloc (.cells #[.int .i64 s] 3) := by
  refine callsIn_of_wp Tryz.func125 rfl h ?_ hro
  simp only [Tryz.ntmps125, List.size_toArray, List.length_cons, List.length_nil, Nat.reduceAdd, Nat.reduceSub, Array.replicate_succ, Array.replicate_zero, List.push_toArray, List.append_toArray, List.nil_append, List.cons_append]
  gi_wp2
  refine bodyPost_ret (results_tmp rfl _ _ _) rfl ?_
  exact ⟨rfl, rfl⟩
set_option maxRecDepth 100000 in
set_option maxHeartbeats 1000000 in
theorem segments1_in (F : Fence) (n : Nat) (h8 : F.fn 158) (hro : F.round = none) (hn : 1 ≤ n) (l Bn n₀ z : Nat) (s : Nat) (hs : s ≤ 65536) (hb : Bn < n₀) (hbz : Bn ≠ z) (J Jx : List Sg → World → Prop)
    (hY : ∀ pre x W, J pre W → pre.length < (segs s).length → YieldAt F (n - 1) Tryz.prog l #[.int .i64 x.1] W fun e W' =>
      (e = .returned (.bool true) ∧ J (pre ++ [x]) W' ∧ KpX n₀ z W W') ∨ (e = .returned (.bool false) ∧ Jx (pre ++ [x]) W'))
    (W : World) (hBn : W.cell? ⟨Bn, 0, none⟩ = some (.int .i64 (s : Int))) (h0 : J [] W) :
    CallsIn F n Tryz.prog 158 #[.func (.yield l) #[] #[], .pointer (some ⟨Bn, 0, none⟩)] W fun e W' => (∃ v, e = .returned v) ∧
      ((∃ ys, ys.map (·.1) = segs s ∧ J ys W') ∨ (∃ pre, True ∧ Jx pre W')) := by
  refine callsIn_of_wp Tryz.func158 rfl h8 ?_ hro
  simp only [Tryz.ntmps158, List.size_toArray, List.length_cons, List.length_nil, Nat.reduceAdd, Nat.reduceSub, Array.replicate_succ, Array.replicate_zero, List.push_toArray, List.append_toArray, List.nil_append, List.cons_append]
  gi_wp2
  gi_loopw [3] (fun i w1 => ∃ (v : Int) (pre : List Sg), -16 ≤ v ∧ v ≤ s ∧ i = .int .i64 v ∧ Hid (segs s = pre.map (·.1) ++ segs v.toNat) ∧ J pre w1 ∧ KpX n₀ z W w1) (fun i _ => (intOf i).toNat)
  case atStart => exact ⟨s, [], by omega, by omega, rfl, Lib.hid (by rw [Int.toNat_natCast]; rfl), h0, KpX.refl _ _ _⟩
  case round =>
    obtain ⟨v, pre, v0, v1, rfl, HS, hJ, hB⟩ := hrel
    by_cases hlt : 0 < v
    · have hSK := segs_pos (s := v.toNat) (by omega)
      obtain ⟨x, hx⟩ : ∃ x : Sg, ((min v.toNat 16 : Nat) : Int) = x.1 := ⟨⟨((min v.toNat 16 : Nat) : Int), by have : min v.toNat 16 ≥ 1 := Nat.le_min.2 ⟨by omega, by omega⟩; omega, by have : min v.toNat 16 ≤ 16 := Nat.min_le_right _ _; omega⟩, rfl⟩
      have hx2 : min v 16 = x.1 := by omega
      have HS2 : Hid (segs s = (pre ++ [x]).map (·.1) ++ segs (v - 16).toNat) := Lib.hid (by rw [HS.out, hSK, hx, show v.toNat - 16 = (v - 16).toNat by omega]; simp)
      have hpl : pre.length < (segs s).length := by rw [HS2.out]; simp only [List.length_append, List.length_map, List.length_cons, List.length_nil]; omega
      have HX2 := Lib.hid hx2
      clear hSK hx
      gi_wp2
      obtain ⟨fn, tmps, assign, body, hy, hR⟩ := hY pre x _ hJ hpl
      try dsimp only at hy
      rw [hy]
      gi_wp2
      refine hR.mono ?_
      rintro e W3 (⟨rfl, hJ3, hk3⟩ | ⟨rfl, hJx3⟩)
      · gi_wp2
        go_roundw
        case rel => exact ⟨v - 16, pre ++ [x], by omega, by omega, rfl, HS2, hJ3, hB.trans hk3⟩
        case measure => simp [intOf]; omega
      · gi_wp2
        refine bodyPost_ret (results_none rfl _ _ _) rfl ?_
        exact ⟨⟨_, rfl⟩, .inr ⟨_, trivial, hJx3⟩⟩
    · have hz : v.toNat = 0 := by omega
      have HE : Hid (segs s = pre.map (·.1)) := Lib.hid (by rw [HS.out, hz, segs_zero, List.append_nil])
      clear hz
      gi_wp2
      go_end0
      exact ⟨⟨_, rfl⟩, .inl ⟨_, HE.out.symm, hJ⟩⟩
theorem segments_stops (F : Fence) (n : Nat) (h8 : F.fn 158) (hro : F.round = none) (hn : 1 ≤ n) (Bn n₀ z : Nat) (s : Nat) (hs : s ≤ 65536) (w : World) (hb : Bn < n₀) (hbz : Bn ≠ z) (hbw : Bn < w.heap.size)
    (hc : w.cell? ⟨Bn, 0, none⟩ = some (.int .i64 (s : Int))) :
    SeqStopsK F n Tryz.prog 158 #[.pointer (some ⟨Bn, 0, none⟩)] (fun x : Sg => #[Value.int .i64 x.1]) (KpX n₀ z) (fun ys => ys.map (·.1) = segs s) (fun _ => True) (segs s).length w := fun l J Jx W hW _ _ hY h0 =>
  segments1_in F n h8 hro hn l Bn n₀ z s hs hb hbz J Jx hY W ((hW.cell (p := ⟨Bn, 0, none⟩) (by simp; omega)).trans hc) h0
end Go.Proofs.YtkokiahmgmeokaaGreat
/- TopMirrorTight: contact: pass (printed by gen/g22.py) -/
set_option linter.unusedVariables false
set_option linter.unusedSimpArgs false
namespace Go.Proofs.YtkokiahmgmeokaaGreat
open Go Go.RowKit Iv
attribute [local go_sem] Oper.semAt_some
attribute [local go_sem] B_getElem B_size B_app B_extract B_get B_toList
open Go.Shelf
set_option maxRecDepth 100000 in
set_option maxHeartbeats 2000000 in
theorem pass_any (c : Con) (s : Nat) (w : World) (h : 1 ≤ c.ra) (h2 : c.ra ≤ 1000) (hs : s ≤ 65536) :
    Calls Tryz.prog 96 #[.agg #[.int .i64 c.fr, .int .i64 c.tt, .int .i64 c.st, .int .i64 c.en, .int .i64 c.ra, .int .i64 c.rg, .int .i64 c.lo], .int .i64 (s : Int)] w fun e w' => e = .returned (.int .i64 (passS c s)) ∧ Below w.heap.size w w' := by
  refine (callsIn_wide (n := 12)).1 ?_
  refine callsIn_of_wp_marks Tryz.func96 rfl trivial ?_ rfl
  simp only [Tryz.ntmps96, List.size_toArray, List.length_cons, List.length_nil, Nat.reduceAdd, Nat.reduceSub, Array.replicate_succ, Array.replicate_zero, List.push_toArray, List.append_toArray, List.nil_append, List.cons_append]
  gi_wp2_with fail
  refine ⟨trivial, (segments_in Fence.wide _ trivial rfl _ _).mono ?_⟩
  rintro e w2 ⟨rfl, rfl⟩
  obtain ⟨W0, hW0⟩ : ∃ W0, ((w.alloc (.cells #[.int .i64 c.fr, .int .i64 c.tt, .int .i64 c.st, .int .i64 c.en, .int .i64 c.ra, .int .i64 c.rg, .int .i64 c.lo] 38)).alloc (.cells #[.int .i64 0] 3)).alloc (.cells #[.int .i64 (s : Int)] 3) = W0 := ⟨_, rfl⟩
  have hs0 : W0.heap.size = w.heap.size + 3 := by rw [← hW0]; simp
  have hB0 : Below w.heap.size w W0 := by rw [← hW0]; exact belowA
  have hout0 : Boxed W0 (w.heap.size + 1) 3 (.int .i64 0) := by rw [← hW0]; exact (Below.heap_alloc _ _ _ (by simp)).trans (heap_new' (by simp))
  have hx0 : W0.heap[w.heap.size]? = some (.cells #[.int .i64 c.fr, .int .i64 c.tt, .int .i64 c.st, .int .i64 c.en, .int .i64 c.ra, .int .i64 c.rg, .int .i64 c.lo] 38 (0, 0)) := by rw [← hW0]; exact (Below.heap_alloc _ _ _ (by simp; omega)).trans ((Below.heap_alloc _ _ _ (by simp)).trans heap_new)
  have hx1 : W0.heap[w.heap.size + 2]? = some (.cells #[.int .i64 (s : Int)] 3 (0, 0)) := by rw [← hW0]; exact heap_new' (by simp)
  have cs0 : W0.cell? ⟨w.heap.size + 2, 0, none⟩ = some (.int .i64 (s : Int)) := cellB hx1 0
  have HX0 := Lib.hid hx0
  have hsz : w.heap.size + 2 < W0.heap.size := by omega
  have e2 : ((w.alloc (.cells #[.int .i64 c.fr, .int .i64 c.tt, .int .i64 c.st, .int .i64 c.en, .int .i64 c.ra, .int .i64 c.rg, .int .i64 c.lo] 38)).alloc (.cells #[.int .i64 0] 3)).heap.size = w.heap.size + 2 := by simp
  rw [e2, hW0]
  have HS0 := Lib.hid hs0
  clear hW0 hs0 e2 hx0 hx1
  gi_wp2
  refine wpIn_rangeFunc_ownH rfl (by omega) (gf := 158) (lb := #[.pointer (some ⟨w.heap.size + 2, 0, none⟩)]) rfl trivial (enters_of Tryz.func158 (by kernel_rfl) rfl)
    (segments_stops Fence.wide 11 trivial rfl (by omega) (w.heap.size + 2) W0.heap.size (w.heap.size + 1) s hs W0 hsz (by omega) hsz cs0) (fun h k => h.trans k) (fun W l o o' hl _ _ _ => KpX.putObj W o' hl) (Below.refl _ _) (fun _ => rfl)
    (fun pre W => Boxed W (w.heap.size + 1) 3 (.int .i64 ((pre.map (·.1)).map (tickS c)).sum) ∧ (W.heap[w.heap.size]? = some (.cells #[.int .i64 c.fr, .int .i64 c.tt, .int .i64 c.st, .int .i64 c.en, .int .i64 c.ra, .int .i64 c.rg, .int .i64 c.lo] 38 (0, 0)) ∧ Below w.heap.size w W ∧ W0.heap.size ≤ W.heap.size))
    (fun _ _ _ => False) ?hI (fun _ _ _ _ _ hs _ _ => hs) ?h0
    (fun x a' W => a' = { tmps := #[.agg #[.int .i64 c.fr, .int .i64 c.tt, .int .i64 c.st, .int .i64 c.en, .int .i64 c.ra, .int .i64 c.rg, .int .i64 c.lo], .int .i64 (s : Int), .pointer (some ⟨w.heap.size, 0, none⟩), undef, .int .i64 0, .pointer (some ⟨w.heap.size + 1, 0, none⟩), .int .i64 x.1, .int .i64 (s : Int), .func (.func 158) #[] #[.pointer (some ⟨w.heap.size + 2, 0, none⟩)], .int .i64 x.1, undef, undef, undef, undef, undef, undef], defers := [] }) ?hA ?assign ?body ?done ?stop
  case hI =>
    exact OwnFrom.and (fun s' A C row hs' hg hr' => (ownC hg hr' _ _ _ _ hs').trans hs') (OwnFrom.and (fun s' A C row hs' hg hr' => (ownC hg hr' _ _ _ _ hs').trans hs') (OwnFrom.and (ownFrom_below (Nat.le_refl _) hB0.size) (fun s' A C row hs' hg hr' => Nat.le_trans hs' hg.size)))
  case h0 => exact ⟨hout0, HX0.out, hB0, Nat.le_refl _⟩
  case hA => exact fun x a' s' A C row hs' hg hr' => hs'
  case assign =>
    rintro l pre x W K' ⟨h1, h3, hB, hW0⟩ hK'
    gi_wp2
    exact hK' _ _ (KeepsFrom.refl _ _) (KpX.refl _ _ _) ⟨h1, h3, hB, hW0⟩ rfl
  case body =>
    rintro l pre x a' W hll ⟨q, hq⟩ ⟨h1, h3, hB, hW0⟩ rfl hlt
    obtain ⟨v, hv⟩ : ∃ v, ((pre.map (·.1)).map (tickS c)).sum = v := ⟨_, rfl⟩
    have hvb := sum_bnd h h2 (pre.map (·.1)) (fun n hn => by obtain ⟨y, hy, rfl⟩ := List.mem_map.1 hn; exact y.2)
    rw [hv, List.length_map] at hvb
    have hpl : pre.length ≤ 65536 := by have := segs_len s; omega
    rw [hv] at h1
    have HV := Lib.hid hv
    have hx1 := x.2.1
    have hx2 := x.2.2
    obtain ⟨t, ht⟩ : ∃ t, tickS c x.1 = t := ⟨_, rfl⟩
    have htb := tickS_bnd h h2 hx1 hx2
    rw [ht] at htb
    have HT := Lib.hid ht
    have v0 : 0 ≤ v := by omega
    have v1 : v ≤ 2000000 := by omega
    clear hv ht hvb
    have c1 := h1.cell
    have c2 : ∀ o, W.cell? ⟨w.heap.size, o, none⟩ = #[.int .i64 c.fr, .int .i64 c.tt, .int .i64 c.st, .int .i64 c.en, .int .i64 c.ra, .int .i64 c.rg, .int .i64 c.lo][o]? := fun o => cellB h3 o
    have l1 := h1.lt
    have l0 : w.heap.size < W.heap.size := by omega
    have hS : ∀ V : World, (∀ q o, q < W.heap.size → V.cell? ⟨q, o, none⟩ = W.cell? ⟨q, o, none⟩) → V.cell? ⟨w.heap.size + 1, 0, none⟩ = some (.int .i64 v) ∧ ∀ o, V.cell? ⟨w.heap.size, o, none⟩ = #[.int .i64 c.fr, .int .i64 c.tt, .int .i64 c.st, .int .i64 c.en, .int .i64 c.ra, .int .i64 c.rg, .int .i64 c.lo][o]? := fun V hV => ⟨(hV _ _ l1).trans c1, fun o => (hV _ _ l0).trans (c2 o)⟩
    have HSS := Lib.hid hS
    clear hS
    gi_wp2
    refine wpIn_region_plan (fun V => V.cell? ⟨w.heap.size + 1, 0, none⟩ = some (.int .i64 v) ∧ ∀ o, V.cell? ⟨w.heap.size, o, none⟩ = #[.int .i64 c.fr, .int .i64 c.tt, .int .i64 c.st, .int .i64 c.en, .int .i64 c.ra, .int .i64 c.rg, .int .i64 c.lo][o]?) [1, 1, 0, 2, 0, 3] [0, 1, 2, 3, 4, 5] (by kernel_rfl) (by kernel_rfl) ?_ ?_
    · exact ⟨c1, c2⟩
    (iterate 3 (refine plan_heldI rfl (by decide) (by rfl) (fun w1 => by rfl) (fun w1 hS => by (try (have hS := hS rfl; obtain hS := hS; repeat (obtain ⟨_, hS⟩ := hS))); go_simp; rfl) ?_; simp only [Act.put, List.setIfInBounds_toArray, List.set_cons_zero, List.set_cons_succ]))
    (refine plan_keepI rfl rfl (by rfl) (fun K hK => ?_); go_simp)
    refine ⟨trivial, CallsIn.inRound l (callsIn_wide.2 ((tick_any c x.1 W.drew h h2 (by omega) hx2).mono ?_))⟩
    rw [HT.out]
    rintro e w2 ⟨rfl, hb2⟩
    have hb2' : Below W.heap.size W w2 := ⟨hb2.os, hb2.tape, hb2.output, hb2.size, hb2.block⟩
    have z2 : W.heap.size ≤ w2.heap.size := hb2'.size
    (refine hK _ _ (by exact HSS.out _ (fun q o hq => hb2'.cell (p := ⟨q, o, none⟩) hq)) ?_; clear hK K; (try simp only [Act.put, List.setIfInBounds_toArray, List.set_cons_zero, List.set_cons_succ]))
    (iterate 1 (refine plan_heldI rfl (by decide) (by rfl) (fun w1 => by rfl) (fun w1 hS => by (try (have hS := hS rfl; obtain hS := hS; repeat (obtain ⟨_, hS⟩ := hS))); go_simp; rfl) ?_; simp only [Act.put, List.setIfInBounds_toArray, List.set_cons_zero, List.set_cons_succ]))
    have d1 : Boxed w2 (w.heap.size + 1) 3 (.int .i64 v) := (hb2'.block _ l1).trans h1
    have e1c := d1.cell
    have f1 := d1.frozen
    have HD1 := Lib.hid d1
    clear d1
    (refine plan_lateI rfl rfl (by rfl) (fun K hK => ?_); go_simp)
    (refine hK _ _ ?_; clear hK K; (try simp only [Act.put, List.setIfInBounds_toArray, List.set_cons_zero, List.set_cons_succ]))
    refine plan_doneI ?_
    gi_wp2
    have hh : ∀ k, k < W.heap.size → k ≠ w.heap.size + 1 → ∀ u : Value, (w2.setCell ⟨w.heap.size + 1, 0, none⟩ u).heap[k]? = W.heap[k]? := fun k hk hne u => (Below.heap_setCell _ _ _ _ hne).trans (hb2'.block k hk)
    refine ⟨⟨by simp; omega, fun k o hk ho hc' => ?_⟩, ⟨by simp; omega, fun k hk hne => hh k (by omega) hne _⟩, ?_, (hh _ (by omega) (by omega) _).trans h3, bset (btrans0 hB hb2') (by show w.heap.size ≤ w.heap.size + 1; omega), by simp; omega⟩
    · have hkl : k < W.heap.size := (Array.getElem?_eq_some_iff.1 ho).1
      rw [hh k hkl (by omega)]; exact ho
    · rw [List.map_append, List.map_append, List.sum_append, HV.out]
      have e9 : (List.map (tickS c) (List.map (·.1) [x])).sum = t := by simp [HT.out]
      have e8 : IntKind.i64.wrap (v + t) = v + t := by rw [IntKind.wrap_i64]; omega
      rw [e9, e8]
      exact HD1.out.set _
  case done =>
    rintro D ys W hD hys ⟨h1, h3, hB, hW0⟩ hK'
    have c1 := h1.cell
    gi_wp2
    refine ⟨by simp, .inl ⟨_, _, rfl, run_takeDeferred hK', ?_⟩⟩
    refine ⟨_, results_tmp rfl _ _ _, ?_, hB.grown (grownBy_putObj' W D _) hB.size (fun q hq => by injection hq with hq; omega)⟩
    rfl
  case stop =>
    rintro D c' pre W _ _ h _
    exact h.elim
end Go.Proofs.YtkokiahmgmeokaaGreat
/- TopMirrorTight: contact: duration (printed by gen/g22.py) -/
set_option linter.unusedVariables false
set_option linter.unusedSimpArgs false
namespace Go.Proofs.YtkokiahmgmeokaaGreat
open Go Go.RowKit Iv
attribute [local go_sem] Oper.semAt_some
attribute [local go_sem] B_getElem B_size B_app B_extract B_get B_toList
/-- a contact's numbers are in their bounds -/
structure CF (c : Con) : Prop where
  fr0 : 0 ≤ c.fr
  fr1 : c.fr ≤ 15
  tt0 : 0 ≤ c.tt
  tt1 : c.tt ≤ 15
  ra0 : 1 ≤ c.ra
  ra1 : c.ra ≤ 1000
  rg0 : 1 ≤ c.rg
  rg1 : c.rg ≤ 1048576
  lo0 : 0 ≤ c.lo
  lo1 : c.lo ≤ 16
  ne : c.fr ≠ c.tt
  st0 : 0 ≤ c.st
  en0 : c.st < c.en
  en1 : c.en ≤ 1099511627776 - 2 * c.rg
theorem con_facts {c : Con} (h : chkCon c = 0) : CF c := by
  unfold chkCon at h
  split at h
  · cases h
  · rename_i h1
    split at h
    · cases h
    · rename_i h2
      split at h
      · cases h
      · rename_i h3
        have g : ∀ n lo hi : Int, ¬ wth n lo hi = false → lo ≤ n ∧ n ≤ hi := fun n lo hi hz => wth_iff.1 (by simpa using hz)
        have g1 := g _ _ _ (fun z => h1 (.inl z))
        have g2 := g _ _ _ (fun z => h1 (.inr (.inl z)))
        have g3 := g _ _ _ (fun z => h1 (.inr (.inr (.inl z))))
        have g4 := g _ _ _ (fun z => h1 (.inr (.inr (.inr (.inl z)))))
        have g5 := g _ _ _ (fun z => h1 (.inr (.inr (.inr (.inr z)))))
        exact ⟨g1.1, g1.2, g2.1, g2.2, g3.1, g3.2, g4.1, g4.2, g5.1, g5.2, h2, by omega, by omega, by omega⟩
theorem passS_bnd {c : Con} (hc : CF c) (s : Nat) (hs : s ≤ 65536) : 0 ≤ passS c s ∧ passS c s ≤ 1572864 := by
  have h1 := sum_bnd hc.ra0 hc.ra1 (segs s) (segs_bnd s)
  have h2 := segs_len s
  unfold passS
  omega
theorem passS_pos {c : Con} (hc : CF c) {s : Nat} (hs : 0 < s) : 1 ≤ passS c s := by
  have h1 := sum_bnd hc.ra0 hc.ra1 (segs s) (segs_bnd s)
  have h2 : 0 < (segs s).length := by rw [segs_pos hs]; simp
  unfold passS
  omega
theorem lo_bnd {c : Con} (hc : CF c) {X : Int} (h0 : 0 ≤ X) (h1 : X ≤ 3000000) : 0 ≤ c.lo * X ∧ c.lo * X ≤ 48000000 := by
  have a := hc.lo0
  have b := hc.lo1
  refine ⟨Int.mul_nonneg a h0, ?_⟩
  have : c.lo * X ≤ 16 * X := Int.mul_le_mul_of_nonneg_right b h0
  omega
theorem durS_bnd {c : Con} (hc : CF c) {s : Nat} (hs : 0 < s) (hs2 : s ≤ 65536) : 1 ≤ durS c s ∧ durS c s ≤ 50000000 := by
  have h1 := passS_pos hc hs
  have h2 := passS_bnd hc s hs2
  have h3 := tickS_bnd hc.ra0 hc.ra1 (n := 16) (by omega) (by omega)
  have h4 := hc.rg0
  have h5 := hc.rg1
  have h6 := lo_bnd hc (X := 2 * c.rg + 1 + tickS c 16) (by omega) (by omega)
  unfold durS
  omega
set_option maxRecDepth 100000 in
set_option maxHeartbeats 2000000 in
theorem dur_any (c : Con) (s : Nat) (w : World) (hc : CF c) (hs : s ≤ 65536) :
    Calls Tryz.prog 55 #[.agg #[.int .i64 c.fr, .int .i64 c.tt, .int .i64 c.st, .int .i64 c.en, .int .i64 c.ra, .int .i64 c.rg, .int .i64 c.lo], .int .i64 (s : Int)] w fun e w' => e = .returned (.int .i64 (durS c s)) ∧ Below w.heap.size w w' := by
  have h2 := passS_bnd hc s hs
  have h3 := tickS_bnd hc.ra0 hc.ra1 (n := 16) (by omega) (by omega)
  have h4 := hc.rg0
  have h5 := hc.rg1
  have h6 := lo_bnd hc (X := 2 * c.rg + 1 + tickS c 16) (by omega) (by omega)
  obtain ⟨D, hD⟩ : ∃ D, durS c s = D := ⟨_, rfl⟩
  have hD2 : D = passS c s + c.lo * (2 * c.rg + 1 + tickS c 16) := by rw [← hD]; rfl
  rw [hD]
  obtain ⟨P, hP⟩ : ∃ P, passS c s = P := ⟨_, rfl⟩
  obtain ⟨T, hT⟩ : ∃ T, tickS c 16 = T := ⟨_, rfl⟩
  rw [hP] at h2 hD2
  rw [hT] at h3 h6 hD2
  have w1_ : IntKind.i64.wrap (2 * c.rg) = 2 * c.rg := by rw [IntKind.wrap_i64]; omega
  have w2_ : IntKind.i64.wrap (2 * c.rg + 1) = 2 * c.rg + 1 := by rw [IntKind.wrap_i64]; omega
  have w3_ : IntKind.i64.wrap (2 * c.rg + 1 + T) = 2 * c.rg + 1 + T := by rw [IntKind.wrap_i64]; omega
  have w4_ : IntKind.i64.wrap (c.lo * (2 * c.rg + 1 + T)) = c.lo * (2 * c.rg + 1 + T) := by rw [IntKind.wrap_i64]; omega
  have w5_ : IntKind.i64.wrap (P + c.lo * (2 * c.rg + 1 + T)) = D := by rw [IntKind.wrap_i64]; omega
  have HP := Lib.hid hP
  have HT := Lib.hid hT
  have HC := Lib.hid hc
  clear hD hD2 hP hT h2 h3 h4 h5 h6 hc
  go_enter Tryz.func55, Tryz.ntmps55
  go_upto_region 1 with fail
  obtain ⟨w1, hw1⟩ : ∃ q, w.alloc (.cells #[.int .i64 c.fr, .int .i64 c.tt, .int .i64 c.st, .int .i64 c.en, .int .i64 c.ra, .int .i64 c.rg, .int .i64 c.lo] 38) = q := ⟨_, rfl⟩
  rw [hw1]
  have B1 : Below w.heap.size w w1 := by rw [← hw1]; exact belowA
  have X1 : w1.heap[w.heap.size]? = some (.cells #[.int .i64 c.fr, .int .i64 c.tt, .int .i64 c.st, .int .i64 c.en, .int .i64 c.ra, .int .i64 c.rg, .int .i64 c.lo] 38 (0, 0)) := by rw [← hw1]; exact heap_new
  have z1 : w.heap.size < w1.heap.size := (Array.getElem?_eq_some_iff.1 X1).1
  have cb := fun o => cellB X1 o
  have HX1 := Lib.hid X1
  clear X1 hw1
  refine wp_region_plan (fun V => Below (w1).heap.size (w1) V) [1, 0, 2, 0, 1, 0, 1, 0, 0, 1, 2, 0, 0, 0, 0] [0, 1, 3, 4, 5, 6, 7, 8, 9, 2, 10, 11, 12, 13, 14] (by kernel_rfl) (by kernel_rfl) ?_ ?_
  case refine_1 => exact belowA
  (iterate 9 (first | (refine plan_held rfl (by decide) (by rfl) (fun w1 hS => by (try (obtain ⟨_, _⟩ := bcell (hS rfl))); go_simp; rfl) ?_; simp only [Act.put, List.setIfInBounds_toArray, List.set_cons_zero, List.set_cons_succ]) | (refine plan_skip rfl (by decide) (by rfl) ?_; simp only [Act.put, List.setIfInBounds_toArray, List.set_cons_zero, List.set_cons_succ])))
  (refine plan_keep rfl rfl (by rfl) (fun K hK => ?_); go_simp)
  refine (pass_any c s _ HC.out.ra0 HC.out.ra1 hs).mono ?_
  rw [HP.out]
  rintro e wc7 ⟨rfl, hbc7⟩
  (refine hK _ _ (by exact belowA) ?_; clear hK K; (try simp only [Act.put, List.setIfInBounds_toArray, List.set_cons_zero, List.set_cons_succ]))
  (refine plan_keep rfl rfl (by rfl) (fun K hK => ?_); go_simp)
  refine (tick_any c 16 _ HC.out.ra0 HC.out.ra1 (by omega) (by omega)).mono ?_
  rw [HT.out]
  rintro e wc15 ⟨rfl, hbc15⟩
  (refine hK _ _ (by exact belowA) ?_; clear hK K; (try simp only [Act.put, List.setIfInBounds_toArray, List.set_cons_zero, List.set_cons_succ]))
  (iterate 4 (first | (refine plan_held rfl (by decide) (by rfl) (fun w1 hS => by (try (obtain ⟨_, _⟩ := bcell (hS rfl))); go_simp; rfl) ?_; simp only [Act.put, List.setIfInBounds_toArray, List.set_cons_zero, List.set_cons_succ]) | (refine plan_skip rfl (by decide) (by rfl) ?_; simp only [Act.put, List.setIfInBounds_toArray, List.set_cons_zero, List.set_cons_succ])))
  refine plan_done ?_
  go_wp2
  go_ret
  refine ⟨?_, belowA⟩
  simp [*]
end Go.Proofs.YtkokiahmgmeokaaGreat
/- TopMirrorTight: contact: check, Duration; latest.begin (printed by gen/g22.py) -/
set_option linter.unusedVariables false
set_option linter.unusedSimpArgs false
namespace Go.Proofs.YtkokiahmgmeokaaGreat
open Go Go.RowKit Iv
attribute [local go_sem] Oper.semAt_some
attribute [local go_sem] B_getElem B_size B_app B_extract B_get B_toList
theorem check_ok (c : Con) (s : Nat) (w : World) (hc : chkCon c = 0) (s1 : 1 ≤ s) (hs : s ≤ 65536) :
    Calls Tryz.prog 54 #[.agg #[.int .i64 c.fr, .int .i64 c.tt, .int .i64 c.st, .int .i64 c.en, .int .i64 c.ra, .int .i64 c.rg, .int .i64 c.lo], .int .i64 (s : Int)] w fun e w' => e = .returned (.int .i64 0) ∧ Below w.heap.size w w' := by
  have HC := Lib.hid hc
  have HW : Hid (wth (s : Int) 1 65536 = true) := Lib.hid (wth_iff.2 ⟨by omega, by omega⟩)
  clear hc
  go_enter Tryz.func54, Tryz.ntmps54
  go_upto_region 1 with fail
  obtain ⟨w1, hw1⟩ : ∃ q, w.alloc (.cells #[.int .i64 c.fr, .int .i64 c.tt, .int .i64 c.st, .int .i64 c.en, .int .i64 c.ra, .int .i64 c.rg, .int .i64 c.lo] 38) = q := ⟨_, rfl⟩
  rw [hw1]
  have B1 : Below w.heap.size w w1 := by rw [← hw1]; exact belowA
  have X1 : w1.heap[w.heap.size]? = some (.cells #[.int .i64 c.fr, .int .i64 c.tt, .int .i64 c.st, .int .i64 c.en, .int .i64 c.ra, .int .i64 c.rg, .int .i64 c.lo] 38 (0, 0)) := by rw [← hw1]; exact heap_new
  have z1 : w.heap.size < w1.heap.size := (Array.getElem?_eq_some_iff.1 X1).1
  have cb := fun o => cellB X1 o
  have HX1 := Lib.hid X1
  clear X1 hw1
  go_wp2_with fail
  refine (conk_any c _).mono ?_
  rw [HC.out]
  rintro e w2 ⟨rfl, hb2⟩
  have B2 : Below w.heap.size w w2 := btrans0 B1 hb2
  have HX2 : Hid (w2.heap[w.heap.size]? = some (.cells #[.int .i64 c.fr, .int .i64 c.tt, .int .i64 c.st, .int .i64 c.en, .int .i64 c.ra, .int .i64 c.rg, .int .i64 c.lo] 38 (0, 0))) := Lib.hid ((hb2.block _ z1).trans HX1.out)
  have z2 : w.heap.size < w2.heap.size := by have := hb2.size; omega
  clear hb2 cb
  have cb := fun o => cellB HX2.out o
  go_wp2_with fail
  refine (wth_any (s : Int) 1 65536 _).mono ?_
  rw [HW.out]
  rintro e w3 ⟨rfl, rfl⟩
  go_wp2
  go_ret
  exact ⟨rfl, B2⟩
theorem Dur_ok (c : Con) (s : Nat) (w : World) (hc : chkCon c = 0) (s1 : 1 ≤ s) (hs : s ≤ 65536) :
    Calls Tryz.prog 22 #[.agg #[.int .i64 c.fr, .int .i64 c.tt, .int .i64 c.st, .int .i64 c.en, .int .i64 c.ra, .int .i64 c.rg, .int .i64 c.lo], .int .i64 (s : Int)] w fun e w' => e = .returned (.tuple #[.int .i64 (durS c s), .int .i64 0]) ∧ Below w.heap.size w w' := by
  obtain ⟨D, hD⟩ : ∃ D, durS c s = D := ⟨_, rfl⟩
  have HD := Lib.hid hD
  have HC := Lib.hid hc
  rw [hD]
  clear hc hD
  go_enter Tryz.func22, Tryz.ntmps22
  go_upto_region 1 with fail
  obtain ⟨w1, hw1⟩ : ∃ q, w.alloc (.cells #[.int .i64 c.fr, .int .i64 c.tt, .int .i64 c.st, .int .i64 c.en, .int .i64 c.ra, .int .i64 c.rg, .int .i64 c.lo] 38) = q := ⟨_, rfl⟩
  rw [hw1]
  have B1 : Below w.heap.size w w1 := by rw [← hw1]; exact belowA
  have X1 : w1.heap[w.heap.size]? = some (.cells #[.int .i64 c.fr, .int .i64 c.tt, .int .i64 c.st, .int .i64 c.en, .int .i64 c.ra, .int .i64 c.rg, .int .i64 c.lo] 38 (0, 0)) := by rw [← hw1]; exact heap_new
  have z1 : w.heap.size < w1.heap.size := (Array.getElem?_eq_some_iff.1 X1).1
  have cb := fun o => cellB X1 o
  have HX1 := Lib.hid X1
  clear X1 hw1
  go_wp2_with fail
  refine (check_ok c s _ HC.out s1 hs).mono ?_
  rintro e w2 ⟨rfl, hb2⟩
  have B2 : Below w.heap.size w w2 := btrans0 B1 hb2
  have HX2 : Hid (w2.heap[w.heap.size]? = some (.cells #[.int .i64 c.fr, .int .i64 c.tt, .int .i64 c.st, .int .i64 c.en, .int .i64 c.ra, .int .i64 c.rg, .int .i64 c.lo] 38 (0, 0))) := Lib.hid ((hb2.block _ z1).trans HX1.out)
  have z2 : w.heap.size < w2.heap.size := by have := hb2.size; omega
  clear hb2 cb
  have cb := fun o => cellB HX2.out o
  go_wp2_with fail
  refine (dur_any c s _ (con_facts HC.out) hs).mono ?_
  rw [HD.out]
  rintro e w3 ⟨rfl, hb3⟩
  have B3 : Below w.heap.size w w3 := btrans0 B2 hb3
  go_wp2
  go_ret2
  exact ⟨rfl, B3⟩
end Go.Proofs.YtkokiahmgmeokaaGreat
/- TopMirrorTight: contact: fits, Begin (printed by gen/g22.py) -/
set_option linter.unusedVariables false
set_option linter.unusedSimpArgs false
namespace Go.Proofs.YtkokiahmgmeokaaGreat
open Go Go.RowKit Iv
attribute [local go_sem] Oper.semAt_some
attribute [local go_sem] B_getElem B_size B_app B_extract B_get B_toList
theorem fits_ok (c : Con) (b : Int) (s : Nat) (w : World) (hc : chkCon c = 0) (s1 : 1 ≤ s) (hs : s ≤ 65536) (hb : c.st ≤ b) (b1 : b ≤ 1099511627776) :
    Calls Tryz.prog 58 #[.agg #[.int .i64 c.fr, .int .i64 c.tt, .int .i64 c.st, .int .i64 c.en, .int .i64 c.ra, .int .i64 c.rg, .int .i64 c.lo], .int .i64 b, .int .i64 (s : Int)] w fun e w' => e = .returned (.bool (decide (b ≤ c.en - durS c s))) ∧ Below w.heap.size w w' := by
  obtain ⟨D, hD⟩ : ∃ D, durS c s = D := ⟨_, rfl⟩
  have hf := con_facts hc
  have hdb := durS_bnd hf (by omega : 0 < s) hs
  have f1 := hf.st0
  have f2 := hf.en0
  have f3 := hf.en1
  have f4 := hf.rg0
  rw [hD] at hdb ⊢
  have HD := Lib.hid hD
  have HF := Lib.hid hf
  have d1 : decide (c.st ≤ b) = true := decide_eq_true hb
  have w1_ : IntKind.i64.wrap (c.en - D) = c.en - D := by rw [IntKind.wrap_i64]; omega
  clear hc hD hf
  go_enter Tryz.func58, Tryz.ntmps58
  go_upto_region 1 with fail
  obtain ⟨w1, hw1⟩ : ∃ q, w.alloc (.cells #[.int .i64 c.fr, .int .i64 c.tt, .int .i64 c.st, .int .i64 c.en, .int .i64 c.ra, .int .i64 c.rg, .int .i64 c.lo] 38) = q := ⟨_, rfl⟩
  rw [hw1]
  have B1 : Below w.heap.size w w1 := by rw [← hw1]; exact belowA
  have X1 : w1.heap[w.heap.size]? = some (.cells #[.int .i64 c.fr, .int .i64 c.tt, .int .i64 c.st, .int .i64 c.en, .int .i64 c.ra, .int .i64 c.rg, .int .i64 c.lo] 38 (0, 0)) := by rw [← hw1]; exact heap_new
  have z1 : w.heap.size < w1.heap.size := (Array.getElem?_eq_some_iff.1 X1).1
  have cb := fun o => cellB X1 o
  have HX1 := Lib.hid X1
  clear X1 hw1
  refine wp_region_plan (fun V => Below (w1).heap.size (w1) V) [0, 0, 1, 0, 0, 0, 0, 1, 1, 0, 2, 0, 0, 0, 0] [0, 1, 2, 3, 4, 5, 6, 7, 8, 9, 10, 11, 12, 13, 14] (by kernel_rfl) (by kernel_rfl) ?_ ?_
  case refine_1 => exact belowA
  (iterate 10 (first | (refine plan_held rfl (by decide) (by rfl) (fun w1 hS => by (try (obtain ⟨_, _⟩ := bcell (hS rfl))); go_simp; rfl) ?_; simp only [Act.put, List.setIfInBounds_toArray, List.set_cons_zero, List.set_cons_succ]) | (refine plan_skip rfl (by decide) (by rfl) ?_; simp only [Act.put, List.setIfInBounds_toArray, List.set_cons_zero, List.set_cons_succ])))
  (refine plan_keep rfl rfl (by rfl) (fun K hK => ?_); go_simp)
  refine (dur_any c s _ HF.out hs).mono ?_
  rw [HD.out]
  rintro e wc17 ⟨rfl, hbc17⟩
  (refine hK _ _ (by exact belowA) ?_; clear hK K; (try simp only [Act.put, List.setIfInBounds_toArray, List.set_cons_zero, List.set_cons_succ]))
  (iterate 4 (first | (refine plan_held rfl (by decide) (by rfl) (fun w1 hS => by (try (obtain ⟨_, _⟩ := bcell (hS rfl))); go_simp; rfl) ?_; simp only [Act.put, List.setIfInBounds_toArray, List.set_cons_zero, List.set_cons_succ]) | (refine plan_skip rfl (by decide) (by rfl) ?_; simp only [Act.put, List.setIfInBounds_toArray, List.set_cons_zero, List.set_cons_succ])))
  refine plan_done ?_
  go_wp2
  go_ret
  refine ⟨?_, belowA⟩
  simp [*]
end Go.Proofs.YtkokiahmgmeokaaGreat
