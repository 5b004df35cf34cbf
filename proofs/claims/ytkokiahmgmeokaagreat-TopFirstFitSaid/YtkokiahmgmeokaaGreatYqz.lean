/- Storage: most, Check. -/
import Derived.BigQuiet
import Derived.BigRegion
import Derived.Deep.DeepCutAuto
import Derived.Deep.CutBlock
import Derived.Test.YtkokiahmgmeokaaGreatYp
import Derived.Test.YtkokiahmgmeokaaGreatYcz
import Derived.Test.YtkokiahmgmeokaaGreatYdz
import Derived.Test.YtkokiahmgmeokaaGreatYf
set_option linter.unusedVariables false
set_option linter.unusedSimpArgs false
namespace Go.Proofs.YtkokiahmgmeokaaGreat
open Go Go.RowKit Iv
attribute [local go_sem] Oper.semAt_some
attribute [local go_sem] B_getElem B_size B_app B_extract B_get B_toList

def MostRet (P : List Sp) (w : World) (e : Ending) (w' : World) : Prop := (∃ r : Int, e = .returned (.int .i64 r) ∧ (P = [] → r = 0)) ∧ Below w.heap.size w w'
def SchRet (qs : List Int) (cs : List Con) (l : List Hld) (w : World) (e : Ending) (w' : World) : Prop := (∃ r : Int, e = .returned (.int .i64 r) ∧ (r = 0 → PlanOK qs cs ∧ l.length ≤ 512 ∧ ∀ h ∈ l, hVal h) ∧ (PlanOK qs cs → l = [] → r = 0)) ∧ Below w.heap.size w w'
def IntRet (w : World) (e : Ending) (w' : World) : Prop := (∃ r : Int, e = .returned (.int .i64 r)) ∧ Below w.heap.size w w'
set_option maxRecDepth 100000 in
set_option maxHeartbeats 4000000 in
theorem most_any (P : List Sp) (u : Value) (w : World) (h : RSps w w.heap.size u P) :
    Calls Tryz.prog 41 #[u] w (MostRet P w) := by
  obtain ⟨a, c, rfl, h1, h2, h3, h4⟩ := h
  unfold maxLen at h2
  have hlen : P.length ≤ 9223372036854775807 := by omega
  have H4 := Lib.hid h4
  clear h3 h4
  go_enter Tryz.func41, Tryz.ntmps41
  go_wp2
  go_loopw [3, 8] (fun sv iv wr => ∃ (k : Nat) (S : Int), k ≤ P.length ∧ iv = .int .i64 k ∧ sv = .int .i64 S ∧ Hid (P = [] → S = 0) ∧ Below w.heap.size w wr) (fun _ iv _ => P.length - (intOf iv).toNat)
  case atStart => exact ⟨0, 0, Nat.zero_le _, rfl, rfl, Lib.hid (fun _ => rfl), Below.refl _ _⟩
  case round =>
    obtain ⟨k, S, hk, rfl, rfl, HP0, hB⟩ := hrel
    by_cases hlt : k < P.length
    · obtain ⟨bb, o, rfl, hbn, hcell⟩ := H4.out (by omega)
      obtain ⟨x, hx⟩ : ∃ x, P[k]? = some x := ⟨_, List.getElem?_eq_getElem (by omega)⟩
      have q0 : wr.cell? ⟨bb, o + k * 2, none⟩ = some (.int .i64 x.1) := (hB.cell (p := ⟨bb, o + k * 2, none⟩) hbn).trans (sp0 hcell hx)
      have q1 : wr.cell? ⟨bb, o + k * 2 + 1, none⟩ = some (.int .i64 x.2) := (hB.cell (p := ⟨bb, o + k * 2 + 1, none⟩) hbn).trans (sp1 hcell hx)
      have k0 : (0 : Int) ≤ (k : Int) := by omega
      have k1 : (k : Int) < (P.length : Int) := by omega
      clear hx hcell
      go_wp2
      go_roundw
      case rel => exact ⟨k + 1, _, by omega, by go_num, rfl, Lib.hid (fun e => by subst e; exact absurd hlt (Nat.not_lt_zero _)), belowA⟩
      case measure => simp [intOf]; omega
    · obtain rfl : k = P.length := by omega
      go_wp2
      go_ret
      exact ⟨⟨S, rfl, HP0.out⟩, hB⟩
set_option maxRecDepth 100000 in
set_option maxHeartbeats 16000000 in
theorem schk_any (qs : List Int) (cs : List Con) (l : List Hld) (uq uc ul : Value) (w : World) (hq : RRow intC 1 w w.heap.size uq qs) (hc : RRow conC 7 w w.heap.size uc cs) (hl : RRow hldC 5 w w.heap.size ul l) :
    Calls Tryz.prog 17 #[.agg #[uq, uc], ul] w (SchRet qs cs l w) := by
  have HQ := Lib.hid hq
  have HC := Lib.hid hc
  have HLR := Lib.hid hl
  obtain ⟨aq, cq, rfl, q1, q2, q3, q4⟩ := hq
  obtain ⟨ac, cc, rfl, -⟩ := hc
  obtain ⟨al, cl, rfl, l1, l2, l3, l4⟩ := hl
  unfold maxLen at l2 q2
  have hll : l.length ≤ 9223372036854775807 := by omega
  have hql : qs.length ≤ 9223372036854775807 := by omega
  have HL := Lib.hid l4
  have HQ4 := Lib.hid q4
  clear l3 l4 q3 q4
  go_enter Tryz.func17, Tryz.ntmps17
  go_wp2_with fail
  refine (planchk_any qs cs _ _ _ (HQ.out.below' belowA) (HC.out.below' belowA)).mono ?_
  rintro e w1 hpp
  obtain ⟨⟨r, rfl, hr1, hr2⟩, hb1⟩ := hpp
  have hB1 : Below w.heap.size w w1 := btrans0 (balloc0 (Below.refl _ _)) hb1
  have GP : w1.heap[w.heap.size]? = some (.cells #[.slice aq qs.length cq, .slice ac cs.length cc] 25 (0, 0)) := (hb1.block _ (by simp)).trans heap_new
  have HGP := Lib.hid GP
  by_cases zr : r = 0
  case neg =>
    have d0 : (r != 0) = true := by simpa using zr
    have HNP : Hid (¬ PlanOK qs cs) := Lib.hid (fun h => zr (hr2 h))
    clear zr hr1 hr2 GP hb1
    go_wp2
    go_ret
    exact ⟨⟨1, rfl, fun h => absurd h (by decide), fun h => absurd h HNP.out⟩, hB1⟩
  subst zr
  have HPO := Lib.hid (hr1 rfl)
  clear hr1 hr2 hb1 GP
  have hne5 : Hid (512 < l.length → l ≠ []) := Lib.hid (fun h e => by subst e; exact absurd h (by decide))
  by_cases y1 : 512 < l.length
  · have d1 : decide ((512 : Int) < (l.length : Int)) = true := by rw [decide_eq_true_eq]; omega
    have d1' : (512 : Int) < (l.length : Int) := by omega
    clear y1
    go_wp2
    go_ret
    exact ⟨⟨4, rfl, fun h => absurd h (by decide), fun _ h => absurd h (hne5.out (by omega))⟩, hB1⟩
  have d1 : decide ((512 : Int) < (l.length : Int)) = false := by rw [decide_eq_false_iff_not]; omega
  have d1' : (l.length : Int) ≤ 512 := by omega
  have hl5 : l.length ≤ 512 := by omega
  clear y1
  go_wp2
  go_loopw [17] (fun i wr => ∃ k : Nat, k ≤ l.length ∧ i = .int .i64 k ∧ Hid (∀ h ∈ l.take k, hVal h) ∧ Hid (wr.heap[w.heap.size]? = some (.cells #[.slice aq qs.length cq, .slice ac cs.length cc] 25 (0, 0))) ∧ Below w.heap.size w wr) (fun i _ => l.length - (intOf i).toNat)
  case atStart => exact ⟨0, Nat.zero_le _, rfl, Lib.hid (by simp), HGP, hB1⟩
  case round =>
    obtain ⟨k, hk, rfl, HV, HBX, hB⟩ := hrel
    have hsz : w.heap.size < wr.heap.size := (Array.getElem?_eq_some_iff.1 HBX.out).1
    have cp := fun o => cellB HBX.out o
    by_cases hlt : k < l.length
    · obtain ⟨bb, o, rfl, hbn, hcell⟩ := HL.out (by omega)
      obtain ⟨x, hx⟩ : ∃ x, l[k]? = some x := ⟨_, List.getElem?_eq_getElem hlt⟩
      have q0 : wr.cell? ⟨bb, o + k * 5, none⟩ = some (.int .i64 x.nd) := (hB.cell (p := ⟨bb, o + k * 5 + 0, none⟩) hbn).trans (hcell k x hx 0 _ rfl)
      have q1 : wr.cell? ⟨bb, o + k * 5 + 1, none⟩ = some (.int .i64 x.fr) := (hB.cell (p := ⟨bb, o + k * 5 + 1, none⟩) hbn).trans (hcell k x hx 1 _ rfl)
      have q2 : wr.cell? ⟨bb, o + k * 5 + 2, none⟩ = some (.int .i64 x.tt) := (hB.cell (p := ⟨bb, o + k * 5 + 2, none⟩) hbn).trans (hcell k x hx 2 _ rfl)
      have q3 : wr.cell? ⟨bb, o + k * 5 + 3, none⟩ = some (.int .i64 x.sz) := (hB.cell (p := ⟨bb, o + k * 5 + 3, none⟩) hbn).trans (hcell k x hx 3 _ rfl)
      have q4 : wr.cell? ⟨bb, o + k * 5 + 4, none⟩ = some (.int .i64 x.tk) := (hB.cell (p := ⟨bb, o + k * 5 + 4, none⟩) hbn).trans (hcell k x hx 4 _ rfl)
      have k0 : (0 : Int) ≤ (k : Int) := by omega
      have k1 : (k : Int) < (l.length : Int) := by omega
      have HX := Lib.hid hx
      have HCELL := Lib.hid hcell
      clear hx hcell
      go_wp2_with fail
      refine (hval_any qs _ _ x _ (HQ.out.below (C := w.heap.size) belowA (Nat.le_refl _) (by simp; omega)) ⟨_, _, _, rfl⟩).mono ?_
      rintro e w2 hvv
      obtain ⟨⟨v, rfl, hv1⟩, hb2⟩ := hvv
      have hB2 : Below w.heap.size w w2 := btrans0 (balloc0 hB) hb2
      have hz2 : wr.heap.size < w2.heap.size := by have := hb2.size; simp at this; omega
      have GX : w2.heap[wr.heap.size]? = some (.cells #[.int .i64 x.nd, .int .i64 x.fr, .int .i64 x.tt, .int .i64 x.sz, .int .i64 x.tk] 95 (0, 0)) := (hb2.block _ (by simp)).trans heap_new
      have HBX2 : Hid (w2.heap[w.heap.size]? = some (.cells #[.slice aq qs.length cq, .slice ac cs.length cc] 25 (0, 0))) := Lib.hid ((hb2.block _ (by simp; omega)).trans ((Below.heap_alloc _ _ _ (by omega)).trans HBX.out))
      have hsz2 : w.heap.size < w2.heap.size := by omega
      clear cp hb2 hB
      clear q0 q1 q2 q3 q4
      cases v with
      | false =>
        clear hv1
        go_wp2
        go_ret
        exact ⟨⟨2, rfl, fun h => absurd h (by decide), fun _ h => by subst h; exact absurd hlt (Nat.not_lt_zero _)⟩, hB2⟩
      | true =>
        have HVX : Hid (hVal x) := Lib.hid (hv1 rfl)
        clear hv1
        have HV1 : Hid (∀ b ∈ l.take (k + 1), hVal b) := Lib.hid (by
          intro y hy
          rw [List.take_add_one, HX.out] at hy
          rcases List.mem_append.1 hy with hy | hy
          · exact HV.out y hy
          · simp at hy; subst hy; exact HVX.out)
        rcases Nat.eq_zero_or_pos k with hk0 | hk0
        · subst hk0
          go_upto_region 10 with fail
          go_quiet (fail)
          go_wp2
          go_roundw
          case rel => exact ⟨1, by omega, by go_num, HV1, Lib.hid HBX2.out, belowA⟩
          case measure => simp [intOf]; omega
        · obtain ⟨j, rfl⟩ : ∃ j, k = j + 1 := ⟨k - 1, by omega⟩
          obtain ⟨y, hy⟩ : ∃ y, l[j]? = some y := ⟨_, List.getElem?_eq_getElem (by omega)⟩
          have HY := Lib.hid hy
          have hkp : decide ((0 : Int) < ((j : Int) + 1)) = true := decide_eq_true (by omega)
          have hkp2 : (0 : Int) < (j : Int) + 1 := by omega
          have hj1 : (j : Int) < (l.length : Int) := by omega
          have hj0 : (0 : Int) ≤ (j : Int) := by omega
          have hwj : IntKind.i64.wrap ((j : Int) + 1 - 1) = (j : Int) := by rw [IntKind.wrap_i64]; omega
          have hwj2 : IntKind.i64.wrap (j : Int) = (j : Int) := by rw [IntKind.wrap_i64]; omega
          have HPY : Hid (∀ V : World, Below w.heap.size w V → V.cell? ⟨bb, o + j * 5, none⟩ = some (.int .i64 y.nd) ∧ V.cell? ⟨bb, o + j * 5 + 1, none⟩ = some (.int .i64 y.fr) ∧ V.cell? ⟨bb, o + j * 5 + 2, none⟩ = some (.int .i64 y.tt) ∧ V.cell? ⟨bb, o + j * 5 + 3, none⟩ = some (.int .i64 y.sz) ∧ V.cell? ⟨bb, o + j * 5 + 4, none⟩ = some (.int .i64 y.tk)) := Lib.hid (fun V hV => ⟨(hV.cell (p := ⟨bb, o + j * 5 + 0, none⟩) hbn).trans (HCELL.out j y HY.out 0 _ rfl), (hV.cell (p := ⟨bb, o + j * 5 + 1, none⟩) hbn).trans (HCELL.out j y HY.out 1 _ rfl), (hV.cell (p := ⟨bb, o + j * 5 + 2, none⟩) hbn).trans (HCELL.out j y HY.out 2 _ rfl), (hV.cell (p := ⟨bb, o + j * 5 + 3, none⟩) hbn).trans (HCELL.out j y HY.out 3 _ rfl), (hV.cell (p := ⟨bb, o + j * 5 + 4, none⟩) hbn).trans (HCELL.out j y HY.out 4 _ rfl)⟩)
          obtain ⟨p0, p1, p2, p3, p4⟩ := HPY.out w2 hB2
          have cx := fun o => cellB GX o
          obtain ⟨c, hc⟩ : ∃ c, cmpH y x = c := ⟨_, rfl⟩
          have HCM := Lib.hid hc
          clear hy hk0 hc
          have hbb2 : bb < w2.heap.size := by omega
          go_upto_region 10 with fail
          refine wp_region_plan (fun V => Below (w2).heap.size (w2) V) [0, 0, 0, 0, 0, 0, 0, 1, 1, 3, 0, 0] [0, 1, 2, 3, 4, 5, 6, 7, 8, 9, 10, 11] (by kernel_rfl) (by kernel_rfl) ?_ ?_
          case refine_1 => exact belowA
          (iterate 9 (first | (refine plan_held rfl (by decide) (by rfl) (fun w1 hS => by (try (obtain ⟨_, _⟩ := bcell (hS rfl))); go_simp; rfl) ?_; simp only [Act.put, List.setIfInBounds_toArray, List.set_cons_zero, List.set_cons_succ]) | (refine plan_skip rfl (by decide) (by rfl) ?_; simp only [Act.put, List.setIfInBounds_toArray, List.set_cons_zero, List.set_cons_succ])))
          (refine plan_late rfl rfl (by rfl) (fun K hK => ?_); go_simp)
          refine (hcmp_any y x _).mono ?_
          rw [HCM.out]
          rintro e wc35 ⟨rfl, hbc35⟩
          (refine hK _ _ ?_; clear hK K; (try simp only [Act.put, List.setIfInBounds_toArray, List.set_cons_zero, List.set_cons_succ]))
          (iterate 2 (first | (refine plan_held rfl (by decide) (by rfl) (fun w1 hS => by (try (obtain ⟨_, _⟩ := bcell (hS rfl))); go_simp; rfl) ?_; simp only [Act.put, List.setIfInBounds_toArray, List.set_cons_zero, List.set_cons_succ]) | (refine plan_skip rfl (by decide) (by rfl) ?_; simp only [Act.put, List.setIfInBounds_toArray, List.set_cons_zero, List.set_cons_succ])))
          refine plan_done ?_
          have hbd : Below w2.heap.size w2 wc35 := btrans0 (bdrew (Below.refl _ w2) : Below w2.heap.size w2 w2.drew) hbc35
          have HBX3 : Hid (wc35.heap[w.heap.size]? = some (.cells #[.slice aq qs.length cq, .slice ac cs.length cc] 25 (0, 0))) := Lib.hid ((hbd.block _ hsz2).trans HBX2.out)
          have hB3 : Below w.heap.size w wc35 := btrans0 hB2 hbd
          clear hbc35 hbd cx GX p0 p1 p2 p3 p4
          by_cases zc : 0 < c
          · have dc2 : decide (0 < c) = true := decide_eq_true zc
            rw [dc2]
            clear zc
            go_wp2
            go_ret
            exact ⟨⟨9, rfl, fun h => absurd h (by decide), fun _ h => by subst h; exact absurd hlt (Nat.not_lt_zero _)⟩, hB3⟩
          · have dc2 : decide (0 < c) = false := decide_eq_false zc
            rw [dc2]
            clear zc
            go_wp2
            go_roundw
            case rel => exact ⟨j + 1 + 1, by omega, by go_num, HV1, HBX3, hB3⟩
            case measure => simp [intOf]; omega
    · obtain rfl : k = l.length := by omega
      have HVA : Hid (∀ h ∈ l, hVal h) := Lib.hid (by have := HV.out; rwa [List.take_length] at this)
      clear HV
      go_wp2
      go_loopw [42] (fun i wr => ∃ k : Nat, k ≤ qs.length ∧ i = .int .i64 k ∧ Below w.heap.size w wr) (fun i _ => qs.length - (intOf i).toNat)
      case atStart => exact ⟨0, Nat.zero_le _, rfl, hB⟩
      case round =>
        clear cp hsz hB
        obtain ⟨k, hk, rfl, hB⟩ := hrel
        by_cases hlt : k < qs.length
        · obtain ⟨bb, o, rfl, hbn, hcell⟩ := HQ4.out (by omega)
          obtain ⟨x, hx⟩ : ∃ x, qs[k]? = some x := ⟨_, List.getElem?_eq_getElem hlt⟩
          have q0 : wr.cell? ⟨bb, o + k, none⟩ = some (.int .i64 x) := (hB.cell (p := ⟨bb, o + k, none⟩) hbn).trans (by have := hcell k x hx 0 _ rfl; simpa using this)
          have k0 : (0 : Int) ≤ (k : Int) := by omega
          have k1 : (k : Int) < (qs.length : Int) := by omega
          have HXQ := Lib.hid (List.mem_of_getElem? hx)
          clear hx hcell
          go_wp2_with fail
          refine (levels_any l k _ _ (HLR.out.below' hB) hl5 HVA.out).mono ?_
          rintro e w2 hvv
          obtain ⟨u2, P2, rfl, hr2, hp2, -, hb2⟩ := hvv
          have hB2 : Below w.heap.size w w2 := btrans0 hB hb2
          have HR2 := Lib.hid hr2
          obtain ⟨a2, c2, rfl, -⟩ := id hr2
          clear hr2 hb2 q0
          go_wp2_with fail
          refine (most_any P2 _ _ HR2.out).mono ?_
          rintro e w3 hvv
          obtain ⟨⟨r3, rfl, hr30⟩, hb3⟩ := hvv
          have HR30 : Hid (l = [] → r3 = 0) := Lib.hid (fun e => hr30 (List.eq_nil_of_length_eq_zero (by subst e; simpa using hp2)))
          clear hr30
          have hB3 : Below w.heap.size w w3 := btrans0 hB2 hb3
          clear hb3
          by_cases z : r3 > x
          · have dz : decide (r3 > x) = true := decide_eq_true z
            have HZ := Lib.hid z
            clear z
            go_wp2
            go_ret
            exact ⟨⟨15, rfl, fun h => absurd h (by decide), fun h e => by have h1 := HR30.out e; have h2 := (h.2.1 x HXQ.out).1; have h3 := HZ.out; omega⟩, hB3⟩
          · have dz : decide (r3 > x) = false := decide_eq_false z
            clear z
            go_wp2
            go_roundw
            case rel => exact ⟨k + 1, by omega, by go_num, hB3⟩
            case measure => simp [intOf]; omega
        · obtain rfl : k = qs.length := by omega
          go_wp2
          go_ret
          exact ⟨⟨0, rfl, fun _ => ⟨HPO.out, hl5, HVA.out⟩, fun _ _ => rfl⟩, hB⟩
end Go.Proofs.YtkokiahmgmeokaaGreat
/- Tables: Great, CheckTables. -/
set_option linter.unusedVariables false
set_option linter.unusedSimpArgs false
namespace Go.Proofs.YtkokiahmgmeokaaGreat
open Go Go.RowKit Iv
attribute [local go_sem] Oper.semAt_some
attribute [local go_sem] B_getElem B_size B_app B_extract B_get B_toList

def BoolRet (w : World) (e : Ending) (w' : World) : Prop := (∃ r : Bool, e = .returned (.bool r)) ∧ Below w.heap.size w w'
set_option maxHeartbeats 1000000 in
theorem gplan_any (uq uc : Value) (w : World) (hq : ∃ a k c, uq = .slice a k c) (hc : ∃ a k c, uc = .slice a k c) :
    Calls Tryz.prog 14 #[.agg #[uq, uc]] w (BoolRet w) := by
  obtain ⟨aq, kq, cq, rfl⟩ := hq
  obtain ⟨ac, kc, cc, rfl⟩ := hc
  go_enter Tryz.func14, Tryz.ntmps14
  go_wp2
  all_goals
    go_ret
    exact ⟨⟨_, rfl⟩, belowA⟩
set_option maxHeartbeats 1000000 in
theorem great_any (uq uc ub uh : Value) (w : World) (hq : ∃ a k c, uq = .slice a k c) (hc : ∃ a k c, uc = .slice a k c) (hb : ∃ a k c, ub = .slice a k c) (hh : ∃ a k c, uh = .slice a k c) :
    Calls Tryz.prog 4 #[.agg #[uq, uc, ub, uh]] w (BoolRet w) := by
  obtain ⟨aq, kq, cq, rfl⟩ := hq
  obtain ⟨ac, kc, cc, rfl⟩ := hc
  obtain ⟨ab, kb, cb, rfl⟩ := hb
  obtain ⟨ah, kh, ch, rfl⟩ := hh
  go_enter Tryz.func4, Tryz.ntmps4
  go_wp2_with fail
  refine (gplan_any _ _ _ ⟨_, _, _, rfl⟩ ⟨_, _, _, rfl⟩).mono ?_
  rintro e w1 hr1
  obtain ⟨⟨r, rfl⟩, hb1⟩ := hr1
  have hB1 : Below w.heap.size w w1 := btrans0 (balloc0 (Below.refl _ _)) hb1
  have GP : w1.heap[w.heap.size]? = some (.cells #[.slice aq kq cq, .slice ac kc cc, .slice ab kb cb, .slice ah kh ch] 29 (0, 0)) := (hb1.block _ (by simp)).trans heap_new
  have cp := fun o => cellB GP o
  clear hb1
  cases r
  all_goals
    go_wp2
    all_goals
      go_ret
      exact ⟨⟨_, rfl⟩, hB1⟩
def CtPost (qs : List Int) (cs : List Con) (l : List Bkg) (hs : List Hld) (w : World) (e : Ending) (w' : World) : Prop := (∃ r : Int, e = .returned (.int .i64 r) ∧ (r = 0 → PlanOK qs cs ∧ BkOK cs l ∧ hs.length ≤ 512 ∧ ∀ h ∈ hs, hVal h) ∧ (PlanOK qs cs → BkOK cs l → hs = [] → r = 0)) ∧ Below w.heap.size w w'
set_option maxHeartbeats 2000000 in
theorem ctab_any (qs : List Int) (cs : List Con) (l : List Bkg) (hs : List Hld) (uq uc ub uh : Value) (w : World) (hq : RRow intC 1 w w.heap.size uq qs) (hc : RRow conC 7 w w.heap.size uc cs) (hl : RRow bkgC 4 w w.heap.size ub l) (hh : RRow hldC 5 w w.heap.size uh hs) :
    Calls Tryz.prog 5 #[.agg #[uq, uc, ub, uh]] w (CtPost qs cs l hs w) := by
  have HQ := Lib.hid hq
  have HC := Lib.hid hc
  have HL := Lib.hid hl
  have HH := Lib.hid hh
  obtain ⟨aq, cq, rfl, -⟩ := hq
  obtain ⟨ac, cc, rfl, -⟩ := hc
  obtain ⟨ab, cb, rfl, -⟩ := hl
  obtain ⟨ah, ch, rfl, -⟩ := hh
  go_enter Tryz.func5, Tryz.ntmps5
  go_wp2_with fail
  refine (planchk_any qs cs _ _ _ (HQ.out.below' belowA) (HC.out.below' belowA)).mono ?_
  rintro e w1 hpp
  obtain ⟨⟨r, rfl, hr1, hr2⟩, hb1⟩ := hpp
  have HR2 := Lib.hid hr2
  have hB1 : Below w.heap.size w w1 := btrans0 (balloc0 (Below.refl _ _)) hb1
  have GP : w1.heap[w.heap.size]? = some (.cells #[.slice aq qs.length cq, .slice ac cs.length cc, .slice ab l.length cb, .slice ah hs.length ch] 29 (0, 0)) := (hb1.block _ (by simp)).trans heap_new
  have hz1 : w.heap.size < w1.heap.size := (Array.getElem?_eq_some_iff.1 GP).1
  have HGP := Lib.hid GP
  clear hr1 hr2 hb1 GP
  by_cases zr : r = 0
  case neg =>
    have d0 : (r != 0) = true := by simpa using zr
    have HZ := Lib.hid zr
    clear zr
    go_wp2
    go_ret
    exact ⟨⟨r, rfl, fun h => absurd h HZ.out, fun h _ _ => absurd (HR2.out h) HZ.out⟩, hB1⟩
  subst zr
  have cp := fun o => cellB HGP.out o
  go_wp2_with fail
  refine (bchk_any qs cs l _ _ _ _ (HQ.out.below' hB1) (HC.out.below' hB1) (HL.out.below' hB1)).mono ?_
  rintro e w2 hpp
  obtain ⟨⟨r, rfl, hr1, hr2⟩, hb2⟩ := hpp
  have HR3 := Lib.hid hr2
  have hB2 : Below w.heap.size w w2 := btrans0 hB1 hb2
  have HGP2 : Hid (w2.heap[w.heap.size]? = some (.cells #[.slice aq qs.length cq, .slice ac cs.length cc, .slice ab l.length cb, .slice ah hs.length ch] 29 (0, 0))) := Lib.hid ((hb2.block _ hz1).trans HGP.out)
  have hz2 : w.heap.size < w2.heap.size := by have := hb2.size; omega
  clear hr2 hb2 cp
  by_cases zr : r = 0
  case neg =>
    have d0 : (r != 0) = true := by simpa using zr
    have HZ := Lib.hid zr
    clear zr hr1
    go_wp2
    go_ret
    exact ⟨⟨r, rfl, fun h => absurd h HZ.out, fun h k _ => absurd (HR3.out ⟨h, k⟩) HZ.out⟩, hB2⟩
  subst zr
  have HOK := Lib.hid (hr1 rfl)
  clear hr1
  have cp := fun o => cellB HGP2.out o
  go_wp2_with fail
  refine (schk_any qs cs hs _ _ _ _ (HQ.out.below' hB2) (HC.out.below' hB2) (HH.out.below' hB2)).mono ?_
  rintro e w3 hpp
  obtain ⟨⟨r, rfl, hr5, hr6⟩, hb3⟩ := hpp
  have HR5 := Lib.hid hr5
  have HR6 := Lib.hid hr6
  clear hr5 hr6
  go_wp2
  go_ret
  exact ⟨⟨r, rfl, fun h => ⟨HOK.out.1, HOK.out.2, (HR5.out h).2⟩, fun h _ k => HR6.out h k⟩, btrans0 hB2 hb3⟩
end Go.Proofs.YtkokiahmgmeokaaGreat
