/- Storage: most, Check. -/
import Derived.BigQuiet
import Derived.BigRegion
import Derived.Deep.DeepCutAuto
import Derived.Deep.CutBlock
import Derived.Test.YtlgjnelicnaopaaGreatYp
import Derived.Test.YtlgjnelicnaopaaGreatYc
import Derived.Test.YtlgjnelicnaopaaGreatYd
set_option linter.unusedVariables false
set_option linter.unusedSimpArgs false
namespace Go.Proofs.YtlgjnelicnaopaaGreat
open Go Go.RowKit Iv
attribute [local go_sem] Oper.semAt_some
attribute [local go_sem] B_getElem B_size B_app B_extract B_get B_toList

def IntRet (w : World) (e : Ending) (w' : World) : Prop := (∃ r : Int, e = .returned (.int .i64 r)) ∧ Below w.heap.size w w'
set_option maxRecDepth 100000 in
set_option maxHeartbeats 4000000 in
theorem most_any (P : List Sp) (u : Value) (w : World) (h : RSps w w.heap.size u P) :
    Calls Tryz.prog 43 #[u] w (IntRet w) := by
  obtain ⟨a, c, rfl, h1, h2, h3, h4⟩ := h
  unfold maxLen at h2
  have hlen : P.length ≤ 9223372036854775807 := by omega
  have H4 := Lib.hid h4
  clear h3 h4
  go_enter Tryz.func43, Tryz.ntmps43
  go_wp2
  go_loopw [3, 8] (fun sv iv wr => ∃ (k : Nat) (S : Int), k ≤ P.length ∧ iv = .int .i64 k ∧ sv = .int .i64 S ∧ Below w.heap.size w wr) (fun _ iv _ => P.length - (intOf iv).toNat)
  case atStart => exact ⟨0, 0, Nat.zero_le _, rfl, rfl, Below.refl _ _⟩
  case round =>
    obtain ⟨k, S, hk, rfl, rfl, hB⟩ := hrel
    by_cases hlt : k < P.length
    · obtain ⟨bb, o, rfl, hbn, hcell⟩ := H4.out (by omega)
      obtain ⟨x, hx⟩ : ∃ x, P[k]? = some x := ⟨_, List.getElem?_eq_getElem (by omega)⟩
      have q0 : wr.cell? ⟨bb, o + k * 2, none⟩ = some (.int .i64 x.1) := (hB.cell (p := ⟨bb, o + k * 2, none⟩) hbn).trans (sp0 hcell hx)
      have q1 : wr.cell? ⟨bb, o + k * 2 + 1, none⟩ = some (.int .i64 x.2) := (hB.cell (p := ⟨bb, o + k * 2 + 1, none⟩) hbn).trans (sp1 hcell hx)
      have k0 : (0 : Int) ≤ (k : Int) := by omega
      have k1 : (k : Int) < (P.length : Int) := by omega
      clear hx hcell
      go_wp2
      go_roundw
      case rel => exact ⟨k + 1, _, by omega, by go_num, rfl, belowA⟩
      case measure => simp [intOf]; omega
    · obtain rfl : k = P.length := by omega
      go_wp2
      go_ret
      exact ⟨⟨S, rfl⟩, hB⟩
set_option maxRecDepth 100000 in
set_option maxHeartbeats 16000000 in
theorem schk_any (qs : List Int) (cs : List Con) (l : List Hld) (uq uc ul : Value) (w : World) (hq : RRow intC 1 w w.heap.size uq qs) (hc : RRow conC 7 w w.heap.size uc cs) (hl : RRow hldC 5 w w.heap.size ul l) :
    Calls Tryz.prog 18 #[.agg #[uq, uc], ul] w (IntRet w) := by
  have HQ := Lib.hid hq
  have HC := Lib.hid hc
  have HLR := Lib.hid hl
  obtain ⟨aq, cq, rfl, q1, q2, q3, q4⟩ := hq
  obtain ⟨ac, cc, rfl, -⟩ := hc
  obtain ⟨al, cl, rfl, l1, l2, l3, l4⟩ := hl
  unfold maxLen at l2 q2
  have hll : l.length ≤ 9223372036854775807 := by omega
  have hql : qs.length ≤ 9223372036854775807 := by omega
  have HL := Lib.hid l4
  have HQ4 := Lib.hid q4
  clear l3 l4 q3 q4
  go_enter Tryz.func18, Tryz.ntmps18
  go_wp2_with fail
  refine (planchk_any qs cs _ _ _ (HQ.out.below' belowA) (HC.out.below' belowA)).mono ?_
  rintro e w1 hpp
  obtain ⟨⟨r, rfl, hr1, hr2⟩, hb1⟩ := hpp
  have hB1 : Below w.heap.size w w1 := btrans0 (balloc0 (Below.refl _ _)) hb1
  have GP : w1.heap[w.heap.size]? = some (.cells #[.slice aq qs.length cq, .slice ac cs.length cc] 25 (0, 0)) := (hb1.block _ (by simp)).trans heap_new
  have HGP := Lib.hid GP
  by_cases zr : r = 0
  case neg =>
    have d0 : (r != 0) = true := by simpa using zr
    clear zr hr1 hr2 GP hb1
    go_wp2
    go_ret
    exact ⟨⟨1, rfl⟩, hB1⟩
  subst zr
  clear hr1 hr2 hb1 GP
  by_cases y1 : 512 < l.length
  · have d1 : decide ((512 : Int) < (l.length : Int)) = true := by rw [decide_eq_true_eq]; omega
    have d1' : (512 : Int) < (l.length : Int) := by omega
    clear y1
    go_wp2
    go_ret
    exact ⟨⟨4, rfl⟩, hB1⟩
  have d1 : decide ((512 : Int) < (l.length : Int)) = false := by rw [decide_eq_false_iff_not]; omega
  have d1' : (l.length : Int) ≤ 512 := by omega
  have hl5 : l.length ≤ 512 := by omega
  clear y1
  go_wp2
  go_loopw [17] (fun i wr => ∃ k : Nat, k ≤ l.length ∧ i = .int .i64 k ∧ Hid (∀ h ∈ l.take k, hVal h) ∧ Hid (wr.heap[w.heap.size]? = some (.cells #[.slice aq qs.length cq, .slice ac cs.length cc] 25 (0, 0))) ∧ Below w.heap.size w wr) (fun i _ => l.length - (intOf i).toNat)
  case atStart => exact ⟨0, Nat.zero_le _, rfl, Lib.hid (by simp), HGP, hB1⟩
  case round =>
    obtain ⟨k, hk, rfl, HV, HBX, hB⟩ := hrel
    have hsz : w.heap.size < wr.heap.size := (Array.getElem?_eq_some_iff.1 HBX.out).1
    have cp := fun o => cellB HBX.out o
    by_cases hlt : k < l.length
    · obtain ⟨bb, o, rfl, hbn, hcell⟩ := HL.out (by omega)
      obtain ⟨x, hx⟩ : ∃ x, l[k]? = some x := ⟨_, List.getElem?_eq_getElem hlt⟩
      have q0 : wr.cell? ⟨bb, o + k * 5, none⟩ = some (.int .i64 x.nd) := (hB.cell (p := ⟨bb, o + k * 5 + 0, none⟩) hbn).trans (hcell k x hx 0 _ rfl)
      have q1 : wr.cell? ⟨bb, o + k * 5 + 1, none⟩ = some (.int .i64 x.fr) := (hB.cell (p := ⟨bb, o + k * 5 + 1, none⟩) hbn).trans (hcell k x hx 1 _ rfl)
      have q2 : wr.cell? ⟨bb, o + k * 5 + 2, none⟩ = some (.int .i64 x.tt) := (hB.cell (p := ⟨bb, o + k * 5 + 2, none⟩) hbn).trans (hcell k x hx 2 _ rfl)
      have q3 : wr.cell? ⟨bb, o + k * 5 + 3, none⟩ = some (.int .i64 x.sz) := (hB.cell (p := ⟨bb, o + k * 5 + 3, none⟩) hbn).trans (hcell k x hx 3 _ rfl)
      have q4 : wr.cell? ⟨bb, o + k * 5 + 4, none⟩ = some (.int .i64 x.tk) := (hB.cell (p := ⟨bb, o + k * 5 + 4, none⟩) hbn).trans (hcell k x hx 4 _ rfl)
      have k0 : (0 : Int) ≤ (k : Int) := by omega
      have k1 : (k : Int) < (l.length : Int) := by omega
      have HX := Lib.hid hx
      have HCELL := Lib.hid hcell
      clear hx hcell
      go_wp2_with fail
      refine (hval_any qs _ _ x _ (HQ.out.below (C := w.heap.size) belowA (Nat.le_refl _) (by simp; omega)) ⟨_, _, _, rfl⟩).mono ?_
      rintro e w2 hvv
      obtain ⟨⟨v, rfl, hv1⟩, hb2⟩ := hvv
      have hB2 : Below w.heap.size w w2 := btrans0 (balloc0 hB) hb2
      have hz2 : wr.heap.size < w2.heap.size := by have := hb2.size; simp at this; omega
      have GX : w2.heap[wr.heap.size]? = some (.cells #[.int .i64 x.nd, .int .i64 x.fr, .int .i64 x.tt, .int .i64 x.sz, .int .i64 x.tk] 92 (0, 0)) := (hb2.block _ (by simp)).trans heap_new
      have HBX2 : Hid (w2.heap[w.heap.size]? = some (.cells #[.slice aq qs.length cq, .slice ac cs.length cc] 25 (0, 0))) := Lib.hid ((hb2.block _ (by simp; omega)).trans ((Below.heap_alloc _ _ _ (by omega)).trans HBX.out))
      have hsz2 : w.heap.size < w2.heap.size := by omega
      clear cp hb2 hB
      clear q0 q1 q2 q3 q4
      cases v with
      | false =>
        clear hv1
        go_wp2
        go_ret
        exact ⟨⟨2, rfl⟩, hB2⟩
      | true =>
        have HVX : Hid (hVal x) := Lib.hid (hv1 rfl)
        clear hv1
        have HV1 : Hid (∀ b ∈ l.take (k + 1), hVal b) := Lib.hid (by
          intro y hy
          rw [List.take_add_one, HX.out] at hy
          rcases List.mem_append.1 hy with hy | hy
          · exact HV.out y hy
          · simp at hy; subst hy; exact HVX.out)
        rcases Nat.eq_zero_or_pos k with hk0 | hk0
        · subst hk0
          go_upto_region 10 with fail
          go_quiet (fail)
          go_wp2
          go_roundw
          case rel => exact ⟨1, by omega, by go_num, HV1, Lib.hid HBX2.out, belowA⟩
          case measure => simp [intOf]; omega
        · obtain ⟨j, rfl⟩ : ∃ j, k = j + 1 := ⟨k - 1, by omega⟩
          obtain ⟨y, hy⟩ : ∃ y, l[j]? = some y := ⟨_, List.getElem?_eq_getElem (by omega)⟩
          have HY := Lib.hid hy
          have hkp : decide ((0 : Int) < ((j : Int) + 1)) = true := decide_eq_true (by omega)
          have hkp2 : (0 : Int) < (j : Int) + 1 := by omega
          have hj1 : (j : Int) < (l.length : Int) := by omega
          have hj0 : (0 : Int) ≤ (j : Int) := by omega
          have hwj : IntKind.i64.wrap ((j : Int) + 1 - 1) = (j : Int) := by rw [IntKind.wrap_i64]; omega
          have hwj2 : IntKind.i64.wrap (j : Int) = (j : Int) := by rw [IntKind.wrap_i64]; omega
          have HPY : Hid (∀ V : World, Below w.heap.size w V → V.cell? ⟨bb, o + j * 5, none⟩ = some (.int .i64 y.nd) ∧ V.cell? ⟨bb, o + j * 5 + 1, none⟩ = some (.int .i64 y.fr) ∧ V.cell? ⟨bb, o + j * 5 + 2, none⟩ = some (.int .i64 y.tt) ∧ V.cell? ⟨bb, o + j * 5 + 3, none⟩ = some (.int .i64 y.sz) ∧ V.cell? ⟨bb, o + j * 5 + 4, none⟩ = some (.int .i64 y.tk)) := Lib.hid (fun V hV => ⟨(hV.cell (p := ⟨bb, o + j * 5 + 0, none⟩) hbn).trans (HCELL.out j y HY.out 0 _ rfl), (hV.cell (p := ⟨bb, o + j * 5 + 1, none⟩) hbn).trans (HCELL.out j y HY.out 1 _ rfl), (hV.cell (p := ⟨bb, o + j * 5 + 2, none⟩) hbn).trans (HCELL.out j y HY.out 2 _ rfl), (hV.cell (p := ⟨bb, o + j * 5 + 3, none⟩) hbn).trans (HCELL.out j y HY.out 3 _ rfl), (hV.cell (p := ⟨bb, o + j * 5 + 4, none⟩) hbn).trans (HCELL.out j y HY.out 4 _ rfl)⟩)
          obtain ⟨p0, p1, p2, p3, p4⟩ := HPY.out w2 hB2
          have cx := fun o => cellB GX o
          obtain ⟨c, hc⟩ : ∃ c, cmpH y x = c := ⟨_, rfl⟩
          have HCM := Lib.hid hc
          clear hy hk0 hc
          have hbb2 : bb < w2.heap.size := by omega
          go_upto_region 10 with fail
          refine wp_region_plan (fun V => Below (w2).heap.size (w2) V) [0, 0, 0, 0, 0, 0, 0, 1, 1, 3, 0, 0] [0, 1, 2, 3, 4, 5, 6, 7, 8, 9, 10, 11] (by kernel_rfl) (by kernel_rfl) ?_ ?_
          case refine_1 => exact belowA
          (iterate 9 (first | (refine plan_held rfl (by decide) (by rfl) (fun w1 hS => by (try (obtain ⟨_, _⟩ := bcell (hS rfl))); go_simp; rfl) ?_; simp only [Act.put, List.setIfInBounds_toArray, List.set_cons_zero, List.set_cons_succ]) | (refine plan_skip rfl (by decide) (by rfl) ?_; simp only [Act.put, List.setIfInBounds_toArray, List.set_cons_zero, List.set_cons_succ])))
          (refine plan_late rfl rfl (by rfl) (fun K hK => ?_); go_simp)
          refine (hcmp_any y x _).mono ?_
          rw [HCM.out]
          rintro e wc35 ⟨rfl, hbc35⟩
          (refine hK _ _ ?_; clear hK K; (try simp only [Act.put, List.setIfInBounds_toArray, List.set_cons_zero, List.set_cons_succ]))
          (iterate 2 (first | (refine plan_held rfl (by decide) (by rfl) (fun w1 hS => by (try (obtain ⟨_, _⟩ := bcell (hS rfl))); go_simp; rfl) ?_; simp only [Act.put, List.setIfInBounds_toArray, List.set_cons_zero, List.set_cons_succ]) | (refine plan_skip rfl (by decide) (by rfl) ?_; simp only [Act.put, List.setIfInBounds_toArray, List.set_cons_zero, List.set_cons_succ])))
          refine plan_done ?_
          have hbd : Below w2.heap.size w2 wc35 := btrans0 (bdrew (Below.refl _ w2) : Below w2.heap.size w2 w2.drew) hbc35
          have HBX3 : Hid (wc35.heap[w.heap.size]? = some (.cells #[.slice aq qs.length cq, .slice ac cs.length cc] 25 (0, 0))) := Lib.hid ((hbd.block _ hsz2).trans HBX2.out)
          have hB3 : Below w.heap.size w wc35 := btrans0 hB2 hbd
          clear hbc35 hbd cx GX p0 p1 p2 p3 p4
          by_cases zc : 0 < c
          · have dc2 : decide (0 < c) = true := decide_eq_true zc
            rw [dc2]
            clear zc
            go_wp2
            go_ret
            exact ⟨⟨9, rfl⟩, hB3⟩
          · have dc2 : decide (0 < c) = false := decide_eq_false zc
            rw [dc2]
            clear zc
            go_wp2
            go_roundw
            case rel => exact ⟨j + 1 + 1, by omega, by go_num, HV1, HBX3, hB3⟩
            case measure => simp [intOf]; omega
    · obtain rfl : k = l.length := by omega
      have HVA : Hid (∀ h ∈ l, hVal h) := Lib.hid (by have := HV.out; rwa [List.take_length] at this)
      clear HV
      go_wp2
      go_loopw [42] (fun i wr => ∃ k : Nat, k ≤ qs.length ∧ i = .int .i64 k ∧ Below w.heap.size w wr) (fun i _ => qs.length - (intOf i).toNat)
      case atStart => exact ⟨0, Nat.zero_le _, rfl, hB⟩
      case round =>
        clear cp hsz hB
        obtain ⟨k, hk, rfl, hB⟩ := hrel
        by_cases hlt : k < qs.length
        · obtain ⟨bb, o, rfl, hbn, hcell⟩ := HQ4.out (by omega)
          obtain ⟨x, hx⟩ : ∃ x, qs[k]? = some x := ⟨_, List.getElem?_eq_getElem hlt⟩
          have q0 : wr.cell? ⟨bb, o + k, none⟩ = some (.int .i64 x) := (hB.cell (p := ⟨bb, o + k, none⟩) hbn).trans (by have := hcell k x hx 0 _ rfl; simpa using this)
          have k0 : (0 : Int) ≤ (k : Int) := by omega
          have k1 : (k : Int) < (qs.length : Int) := by omega
          clear hx hcell
          go_wp2_with fail
          refine (levels_any l k _ _ (HLR.out.below' hB) hl5 HVA.out).mono ?_
          rintro e w2 hvv
          obtain ⟨u2, P2, rfl, hr2, hp2, hb2⟩ := hvv
          have hB2 : Below w.heap.size w w2 := btrans0 hB hb2
          have HR2 := Lib.hid hr2
          obtain ⟨a2, c2, rfl, -⟩ := id hr2
          clear hr2 hb2 q0
          go_wp2_with fail
          refine (most_any P2 _ _ HR2.out).mono ?_
          rintro e w3 hvv
          obtain ⟨⟨r3, rfl⟩, hb3⟩ := hvv
          have hB3 : Below w.heap.size w w3 := btrans0 hB2 hb3
          clear hb3
          by_cases z : r3 > x
          · have dz : decide (r3 > x) = true := decide_eq_true z
            clear z
            go_wp2
            go_ret
            exact ⟨⟨15, rfl⟩, hB3⟩
          · have dz : decide (r3 > x) = false := decide_eq_false z
            clear z
            go_wp2
            go_roundw
            case rel => exact ⟨k + 1, by omega, by go_num, hB3⟩
            case measure => simp [intOf]; omega
        · obtain rfl : k = qs.length := by omega
          go_wp2
          go_ret
          exact ⟨⟨0, rfl⟩, hB⟩
end Go.Proofs.YtlgjnelicnaopaaGreat
