/- Bookings: Check. -/
import Derived.BigQuiet
import Derived.BigRegion
import Derived.Deep.DeepCutAuto
import Derived.Deep.CutBlock
import Derived.Test.YtkokiahmgmeokaaGreatYcz
import Derived.Test.YtkokiahmgmeokaaGreatYdz
set_option linter.unusedVariables false
set_option linter.unusedSimpArgs false
namespace Go.Proofs.YtkokiahmgmeokaaGreat
open Go Go.RowKit Iv
attribute [local go_sem] Oper.semAt_some
attribute [local go_sem] B_getElem B_size B_app B_extract B_get B_toList

def BkPost (qs : List Int) (cs : List Con) (l : List Bkg) (w : World) (e : Ending) (w' : World) : Prop := (∃ r : Int, e = .returned (.int .i64 r) ∧ (r = 0 → PlanOK qs cs ∧ BkOK cs l) ∧ (PlanOK qs cs ∧ BkOK cs l → r = 0)) ∧ Below w.heap.size w w'
set_option maxRecDepth 100000 in
set_option maxHeartbeats 16000000 in
theorem bchk_any (qs : List Int) (cs : List Con) (l : List Bkg) (uq uc ub : Value) (w : World) (hq : RRow intC 1 w w.heap.size uq qs) (hc : RRow conC 7 w w.heap.size uc cs) (hl : RRow bkgC 4 w w.heap.size ub l) :
    Calls Tryz.prog 16 #[.agg #[uq, uc], ub] w (BkPost qs cs l w) := by
  have HQ := Lib.hid hq
  have HC := Lib.hid hc
  obtain ⟨aq, cq, rfl, -⟩ := hq
  obtain ⟨ac, cc, rfl, -⟩ := hc
  obtain ⟨al, cl, rfl, l1, l2, l3, l4⟩ := hl
  unfold maxLen at l2
  have hll : l.length ≤ 9223372036854775807 := by omega
  have HL := Lib.hid l4
  clear l3 l4
  go_enter Tryz.func16, Tryz.ntmps16
  go_wp2_with fail
  refine (planchk_any qs cs _ _ _ (HQ.out.below' belowA) (HC.out.below' belowA)).mono ?_
  unfold PlanPost
  rintro e w1 ⟨⟨r, rfl, hr1, hr2⟩, hb1⟩
  have hB1 : Below w.heap.size w w1 := btrans0 (balloc0 (Below.refl _ _)) hb1
  have GP : w1.heap[w.heap.size]? = some (.cells #[.slice aq qs.length cq, .slice ac cs.length cc] 25 (0, 0)) := (hb1.block _ (by simp)).trans heap_new
  have HGP := Lib.hid GP
  by_cases zr : r = 0
  case neg =>
    have d0 : (r != 0) = true := by simpa using zr
    have HN : Hid (¬ PlanOK qs cs) := Lib.hid (fun h => zr (hr2 h))
    clear zr hr1 hr2 GP hb1
    go_wp2
    go_ret
    exact ⟨⟨1, rfl, fun h => absurd h (by decide), fun h => absurd h.1 HN.out⟩, hB1⟩
  subst zr
  have HPL : Hid (PlanOK qs cs) := Lib.hid (hr1 rfl)
  clear hr1 hr2 hb1 GP
  by_cases y1 : 512 < l.length
  · have d1 : decide ((512 : Int) < (l.length : Int)) = true := by rw [decide_eq_true_eq]; omega
    have d1' : (512 : Int) < (l.length : Int) := by omega
    have HN : Hid (¬ BkOK cs l) := Lib.hid (fun h => by have := h.1; omega)
    clear y1
    go_wp2
    go_ret
    exact ⟨⟨4, rfl, fun h => absurd h (by decide), fun h => absurd h.2 HN.out⟩, hB1⟩
  have d1 : decide ((512 : Int) < (l.length : Int)) = false := by rw [decide_eq_false_iff_not]; omega
  have d1' : (l.length : Int) ≤ 512 := by omega
  have hl5 : l.length ≤ 512 := by omega
  clear y1
  go_wp2
  go_loopw [15] (fun i wr => ∃ k : Nat, k ≤ l.length ∧ i = .int .i64 k ∧ Hid ((∀ b ∈ l.take k, bVal cs b) ∧ ∀ j a b, j + 1 < k → l[j]? = some a → l[j + 1]? = some b → bNext a b) ∧ Hid (wr.heap[w.heap.size]? = some (.cells #[.slice aq qs.length cq, .slice ac cs.length cc] 25 (0, 0))) ∧ Below w.heap.size w wr) (fun i _ => l.length - (intOf i).toNat)
  case atStart => exact ⟨0, Nat.zero_le _, rfl, Lib.hid ⟨by simp, fun j a b h => by omega⟩, HGP, hB1⟩
  case round =>
    obtain ⟨k, hk, rfl, HV, HBX, hB⟩ := hrel
    have hsz : w.heap.size < wr.heap.size := (Array.getElem?_eq_some_iff.1 HBX.out).1
    have cp := fun o => cellB HBX.out o
    by_cases hlt : k < l.length
    · obtain ⟨bb, o, rfl, hbn, hcell⟩ := HL.out (by omega)
      obtain ⟨x, hx⟩ : ∃ x, l[k]? = some x := ⟨_, List.getElem?_eq_getElem hlt⟩
      have q0 : wr.cell? ⟨bb, o + k * 4, none⟩ = some (.int .i64 x.ct) := (hB.cell (p := ⟨bb, o + k * 4 + 0, none⟩) hbn).trans (hcell k x hx 0 _ rfl)
      have q1 : wr.cell? ⟨bb, o + k * 4 + 1, none⟩ = some (.int .i64 x.bg) := (hB.cell (p := ⟨bb, o + k * 4 + 1, none⟩) hbn).trans (hcell k x hx 1 _ rfl)
      have q2 : wr.cell? ⟨bb, o + k * 4 + 2, none⟩ = some (.int .i64 x.en) := (hB.cell (p := ⟨bb, o + k * 4 + 2, none⟩) hbn).trans (hcell k x hx 2 _ rfl)
      have q3 : wr.cell? ⟨bb, o + k * 4 + 3, none⟩ = some (.int .i64 x.tk) := (hB.cell (p := ⟨bb, o + k * 4 + 3, none⟩) hbn).trans (hcell k x hx 3 _ rfl)
      have k0 : (0 : Int) ≤ (k : Int) := by omega
      have k1 : (k : Int) < (l.length : Int) := by omega
      have HX := Lib.hid hx
      have HCELL := Lib.hid hcell
      clear hx hcell
      go_wp2_with fail
      refine (bval_any qs cs _ _ x _ (HQ.out.below (C := w.heap.size) belowA (Nat.le_refl _) (by simp; omega)) (HC.out.below (C := w.heap.size) belowA (Nat.le_refl _) (by simp; omega))).mono ?_
      unfold BvPost
      rintro e w2 ⟨⟨v, rfl, hv1, hv2⟩, hb2⟩
      have hB2 : Below w.heap.size w w2 := btrans0 (balloc0 hB) hb2
      have hz2 : wr.heap.size < w2.heap.size := by have := hb2.size; simp at this; omega
      have GX : w2.heap[wr.heap.size]? = some (.cells #[.int .i64 x.ct, .int .i64 x.bg, .int .i64 x.en, .int .i64 x.tk] 91 (0, 0)) := (hb2.block _ (by simp)).trans heap_new
      have HBX2 : Hid (w2.heap[w.heap.size]? = some (.cells #[.slice aq qs.length cq, .slice ac cs.length cc] 25 (0, 0))) := Lib.hid ((hb2.block _ (by simp; omega)).trans ((Below.heap_alloc _ _ _ (by omega)).trans HBX.out))
      have hsz2 : w.heap.size < w2.heap.size := by omega
      clear cp hb2 hB
      clear q0 q1 q2 q3
      cases v with
      | false =>
        have HN : Hid (¬ BkOK cs l) := Lib.hid (fun h => by have := hv2 (h.2.1 x (List.mem_of_getElem? HX.out)); cases this)
        clear hv1 hv2
        go_wp2
        go_ret
        exact ⟨⟨2, rfl, fun h => absurd h (by decide), fun h => absurd h.2 HN.out⟩, hB2⟩
      | true =>
        have HVX : Hid (bVal cs x) := Lib.hid (hv1 rfl)
        clear hv1 hv2
        have HV1 : Hid (∀ b ∈ l.take (k + 1), bVal cs b) := Lib.hid (by
          intro y hy
          rw [List.take_add_one, HX.out] at hy
          rcases List.mem_append.1 hy with hy | hy
          · exact HV.out.1 y hy
          · simp at hy; subst hy; exact HVX.out)
        rcases Nat.eq_zero_or_pos k with hk0 | hk0
        · subst hk0
          go_wp2
          go_roundw
          case rel => exact ⟨1, by omega, by go_num, Lib.hid ⟨HV1.out, fun j a b h => by omega⟩, HBX2, hB2⟩
          case measure => simp [intOf]; omega
        · obtain ⟨j, rfl⟩ : ∃ j, k = j + 1 := ⟨k - 1, by omega⟩
          obtain ⟨y, hy⟩ : ∃ y, l[j]? = some y := ⟨_, List.getElem?_eq_getElem (by omega)⟩
          have HY := Lib.hid hy
          have hkz : (((j : Int) + 1) == 0) = false := by rw [beq_eq_false_iff_ne]; omega
          have hkz' : ¬ ((j : Int) + 1 = 0) := by omega
          have hj1 : (j : Int) < (l.length : Int) := by omega
          have hj0 : (0 : Int) ≤ (j : Int) := by omega
          have hwj : IntKind.i64.wrap ((j : Int) + 1 - 1) = (j : Int) := by rw [IntKind.wrap_i64]; omega
          have hwj2 : IntKind.i64.wrap (j : Int) = (j : Int) := by rw [IntKind.wrap_i64]; omega
          have HPY : Hid (∀ V : World, Below w.heap.size w V → V.cell? ⟨bb, o + j * 4, none⟩ = some (.int .i64 y.ct) ∧ V.cell? ⟨bb, o + j * 4 + 1, none⟩ = some (.int .i64 y.bg) ∧ V.cell? ⟨bb, o + j * 4 + 2, none⟩ = some (.int .i64 y.en) ∧ V.cell? ⟨bb, o + j * 4 + 3, none⟩ = some (.int .i64 y.tk)) := Lib.hid (fun V hV => ⟨(hV.cell (p := ⟨bb, o + j * 4 + 0, none⟩) hbn).trans (HCELL.out j y HY.out 0 _ rfl), (hV.cell (p := ⟨bb, o + j * 4 + 1, none⟩) hbn).trans (HCELL.out j y HY.out 1 _ rfl), (hV.cell (p := ⟨bb, o + j * 4 + 2, none⟩) hbn).trans (HCELL.out j y HY.out 2 _ rfl), (hV.cell (p := ⟨bb, o + j * 4 + 3, none⟩) hbn).trans (HCELL.out j y HY.out 3 _ rfl)⟩)
          obtain ⟨p0, p1, p2, p3⟩ := HPY.out w2 hB2
          have cx := fun o => cellB GX o
          obtain ⟨c, hc⟩ : ∃ c, cmpB y x = c := ⟨_, rfl⟩
          have HCM := Lib.hid hc
          clear hy hk0 hc
          have hbb2 : bb < w2.heap.size := by omega
          go_upto_region 11 with fail
          refine wp_region_plan (fun V => Below (w2).heap.size (w2) V) [0, 0, 0, 0, 1, 1, 3, 0] [0, 1, 2, 3, 4, 5, 6, 7] (by kernel_rfl) (by kernel_rfl) ?_ ?_
          case refine_1 => exact belowA
          (iterate 6 (first | (refine plan_held rfl (by decide) (by rfl) (fun w1 hS => by (try (obtain ⟨_, _⟩ := bcell (hS rfl))); go_simp; rfl) ?_; simp only [Act.put, List.setIfInBounds_toArray, List.set_cons_zero, List.set_cons_succ]) | (refine plan_skip rfl (by decide) (by rfl) ?_; simp only [Act.put, List.setIfInBounds_toArray, List.set_cons_zero, List.set_cons_succ])))
          (refine plan_late rfl rfl (by rfl) (fun K hK => ?_); go_simp)
          refine (bcmp_any y x _).mono ?_
          rw [HCM.out]
          rintro e wc32 ⟨rfl, hbc32⟩
          (refine hK _ _ ?_; clear hK K; (try simp only [Act.put, List.setIfInBounds_toArray, List.set_cons_zero, List.set_cons_succ]))
          (iterate 1 (first | (refine plan_held rfl (by decide) (by rfl) (fun w1 hS => by (try (obtain ⟨_, _⟩ := bcell (hS rfl))); go_simp; rfl) ?_; simp only [Act.put, List.setIfInBounds_toArray, List.set_cons_zero, List.set_cons_succ]) | (refine plan_skip rfl (by decide) (by rfl) ?_; simp only [Act.put, List.setIfInBounds_toArray, List.set_cons_zero, List.set_cons_succ])))
          refine plan_done ?_
          have hbd : Below w2.heap.size w2 wc32 := btrans0 (bdrew (Below.refl _ w2) : Below w2.heap.size w2 w2.drew) hbc32
          clear hbc32
          by_cases zc : 0 ≤ c
          · have dc : decide (c ≥ 0) = true := decide_eq_true zc
            have dc2 : decide (0 ≤ c) = true := decide_eq_true zc
            rw [dc2]
            have HN : Hid (¬ BkOK cs l) := Lib.hid (fun h => by have := (h.2.2 j y x HY.out HX.out).1; rw [HCM.out] at this; omega)
            clear zc
            go_wp2
            go_ret
            exact ⟨⟨9, rfl, fun h => absurd h (by decide), fun h => absurd h.2 HN.out⟩, belowA⟩
          have dc : decide (c ≥ 0) = false := decide_eq_false zc
          have dc2 : decide (0 ≤ c) = false := decide_eq_false zc
          rw [dc2]
          have HCL : Hid (cmpB y x < 0) := Lib.hid (by rw [HCM.out]; omega)
          clear zc
          have hB3 : Below w.heap.size w wc32 := btrans0 hB2 hbd
          have hbb3 : bb < wc32.heap.size := by have := hbd.size; omega
          have GX3 : wc32.heap[wr.heap.size]? = some (.cells #[.int .i64 x.ct, .int .i64 x.bg, .int .i64 x.en, .int .i64 x.tk] 91 (0, 0)) := (hbd.block _ hz2).trans GX
          have HBX3 : Hid (wc32.heap[w.heap.size]? = some (.cells #[.slice aq qs.length cq, .slice ac cs.length cc] 25 (0, 0))) := Lib.hid ((hbd.block _ hsz2).trans HBX2.out)
          have hz3 : wr.heap.size < wc32.heap.size := by have := hbd.size; omega
          clear cx GX p0 p1 p2 p3
          obtain ⟨p0, p1, p2, p3⟩ := HPY.out wc32 hB3
          have cx := fun o => cellB GX3 o
          clear hbd
          by_cases e1 : y.ct = x.ct
          · have f1 : (y.ct == x.ct) = true := by rw [beq_iff_eq]; exact e1
            by_cases e2 : x.bg < y.en
            · have f2 : decide (x.bg < y.en) = true := decide_eq_true e2
              have HN : Hid (¬ BkOK cs l) := Lib.hid (fun h => (h.2.2 j y x HY.out HX.out).2 ⟨e1, e2⟩)
              clear e1 e2
              go_upto_region 13 with fail
              go_quiet (fail)
              go_wp2
              go_ret
              exact ⟨⟨14, rfl, fun h => absurd h (by decide), fun h => absurd h.2 HN.out⟩, belowA⟩
            have f2 : decide (x.bg < y.en) = false := decide_eq_false e2
            have HNX : Hid (bNext y x) := Lib.hid ⟨HCL.out, fun h => e2 h.2⟩
            clear e1 e2
            go_upto_region 13 with fail
            go_quiet (fail)
            go_wp2
            go_roundw
            case rel => exact ⟨j + 1 + 1, by omega, by go_num, Lib.hid ⟨HV1.out, fun i a b hi ha hb => by
              rcases Nat.lt_or_ge (i + 1) (j + 1) with h | h
              · exact HV.out.2 i a b h ha hb
              · obtain rfl : i = j := by omega
                rw [HY.out] at ha; rw [HX.out] at hb
                cases ha; cases hb
                exact HNX.out⟩, HBX3, belowA⟩
            case measure => simp [intOf]; omega
          · have f1 : (y.ct == x.ct) = false := by rw [beq_eq_false_iff_ne]; exact e1
            have HNX : Hid (bNext y x) := Lib.hid ⟨HCL.out, fun h => e1 h.1⟩
            clear e1
            go_upto_region 13 with fail
            go_quiet (fail)
            go_wp2
            go_roundw
            case rel => exact ⟨j + 1 + 1, by omega, by go_num, Lib.hid ⟨HV1.out, fun i a b hi ha hb => by
              rcases Nat.lt_or_ge (i + 1) (j + 1) with h | h
              · exact HV.out.2 i a b h ha hb
              · obtain rfl : i = j := by omega
                rw [HY.out] at ha; rw [HX.out] at hb
                cases ha; cases hb
                exact HNX.out⟩, HBX3, belowA⟩
            case measure => simp [intOf]; omega
    · obtain rfl : k = l.length := by omega
      have HN : Hid (BkOK cs l) := Lib.hid ⟨hl5, by have := HV.out.1; rwa [List.take_length] at this, fun j a b ha hb => HV.out.2 j a b (List.getElem?_eq_some_iff.1 hb).1 ha hb⟩
      go_wp2
      go_ret
      exact ⟨⟨0, rfl, fun _ => ⟨HPL.out, HN.out⟩, fun _ => rfl⟩, hB⟩
end Go.Proofs.YtkokiahmgmeokaaGreat
