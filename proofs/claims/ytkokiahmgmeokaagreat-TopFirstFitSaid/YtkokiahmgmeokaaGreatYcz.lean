/- A plan: Check. -/
import Derived.BigQuiet
import Derived.BigRegion
import Derived.Deep.DeepCutAuto
import Derived.Deep.CutBlock
import Derived.Test.YtkokiahmgmeokaaGreatYb
set_option linter.unusedVariables false
set_option linter.unusedSimpArgs false
namespace Go.Proofs.YtkokiahmgmeokaaGreat
open Go Go.RowKit Iv
attribute [local go_sem] Oper.semAt_some
attribute [local go_sem] B_getElem B_size B_app B_extract B_get B_toList

def PlanPost (qs : List Int) (cs : List Con) (w : World) (e : Ending) (w' : World) : Prop := (∃ r : Int, e = .returned (.int .i64 r) ∧ (r = 0 → PlanOK qs cs) ∧ (PlanOK qs cs → r = 0)) ∧ Below w.heap.size w w'
set_option maxRecDepth 100000 in
set_option maxHeartbeats 16000000 in
theorem planchk_any (qs : List Int) (cs : List Con) (uq uc : Value) (w : World) (hq : RRow intC 1 w w.heap.size uq qs) (hc : RRow conC 7 w w.heap.size uc cs) :
    Calls Tryz.prog 15 #[.agg #[uq, uc]] w (PlanPost qs cs w) := by
  have HC := Lib.hid hc
  obtain ⟨aq, cq, rfl, q1, q2, q3, q4⟩ := hq
  obtain ⟨ac, cc, rfl, c1, c2, c3, c4⟩ := hc
  unfold maxLen at q2 c2
  have hlq : qs.length ≤ 9223372036854775807 := by omega
  have hlc : cs.length ≤ 9223372036854775807 := by omega
  have HQ := Lib.hid q4
  have HD := Lib.hid c4
  clear q3 q4 c3 c4
  by_cases y1 : qs.length < 1
  · have HN : Hid (¬ PlanOK qs cs) := Lib.hid (fun h => by have := h.1.1; omega)
    obtain rfl : qs = [] := List.eq_nil_of_length_eq_zero (by omega)
    clear y1
    go_enter Tryz.func15, Tryz.ntmps15
    go_wp2
    go_ret
    exact ⟨⟨4, rfl, fun h => absurd h (by decide), fun h => absurd h HN.out⟩, belowA⟩
  have n0 : ¬ qs.length = 0 := by omega
  have n1 : 0 < qs.length := by omega
  have n2 : (1 : Int) ≤ (qs.length : Int) := by omega
  have d1 : decide ((qs.length : Int) < 1) = false := by rw [decide_eq_false_iff_not]; omega
  by_cases y2 : 16 < qs.length
  · have HN : Hid (¬ PlanOK qs cs) := Lib.hid (fun h => by have := h.1.2.1; omega)
    have d2 : decide ((16 : Int) < (qs.length : Int)) = true := by rw [decide_eq_true_eq]; omega
    have d2' : (16 : Int) < (qs.length : Int) := by omega
    clear y1
    go_enter Tryz.func15, Tryz.ntmps15
    go_wp2
    go_ret
    exact ⟨⟨4, rfl, fun h => absurd h (by decide), fun h => absurd h HN.out⟩, belowA⟩
  have d2 : decide ((16 : Int) < (qs.length : Int)) = false := by rw [decide_eq_false_iff_not]; omega
  have d2' : (qs.length : Int) ≤ 16 := by omega
  by_cases y3 : 64 < cs.length
  · have HN : Hid (¬ PlanOK qs cs) := Lib.hid (fun h => by have := h.1.2.2; omega)
    have d3 : decide ((64 : Int) < (cs.length : Int)) = true := by rw [decide_eq_true_eq]; omega
    have d3' : (64 : Int) < (cs.length : Int) := by omega
    clear y1 y2
    go_enter Tryz.func15, Tryz.ntmps15
    go_wp2
    go_ret
    exact ⟨⟨4, rfl, fun h => absurd h (by decide), fun h => absurd h HN.out⟩, belowA⟩
  have d3 : decide ((64 : Int) < (cs.length : Int)) = false := by rw [decide_eq_false_iff_not]; omega
  have d3' : (cs.length : Int) ≤ 64 := by omega
  have HB3 : Hid (1 ≤ qs.length ∧ qs.length ≤ 16 ∧ cs.length ≤ 64) := Lib.hid ⟨by omega, by omega, by omega⟩
  clear y1 y2 y3
  go_enter Tryz.func15, Tryz.ntmps15
  go_wp2
  go_loopw [27] (fun i wr => ∃ k : Nat, k ≤ qs.length ∧ i = .int .i64 k ∧ Hid (∀ x ∈ qs.take k, qOK x) ∧ Hid (wr.heap[w.heap.size]? = some (.cells #[.slice aq qs.length cq, .slice ac cs.length cc] 25 (0, 0))) ∧ Below w.heap.size w wr) (fun i _ => qs.length - (intOf i).toNat)
  case atStart => exact ⟨0, Nat.zero_le _, rfl, Lib.hid (by simp), Lib.hid heap_new, belowA⟩
  case round =>
    obtain ⟨k, hk, rfl, HV, HBX, hB⟩ := hrel
    have hsz : w.heap.size < wr.heap.size := (Array.getElem?_eq_some_iff.1 HBX.out).1
    have cp := fun o => cellB HBX.out o
    by_cases hlt : k < qs.length
    · obtain ⟨bb, o, rfl, hbn, hcell⟩ := HQ.out (by omega)
      obtain ⟨x, hx⟩ : ∃ x, qs[k]? = some x := ⟨_, List.getElem?_eq_getElem hlt⟩
      have q0 : wr.cell? ⟨bb, o + k, none⟩ = some (.int .i64 x) := (hB.cell (p := ⟨bb, o + k, none⟩) hbn).trans (by have := hcell k x hx 0 _ rfl; simpa using this)
      have k0 : (0 : Int) ≤ (k : Int) := by omega
      have k1 : (k : Int) < (qs.length : Int) := by omega
      have HX := Lib.hid hx
      clear hx hcell
      by_cases z1 : x < 0
      · have e1 : decide (x < 0) = true := decide_eq_true z1
        have HN : Hid (¬ PlanOK qs cs) := Lib.hid (fun h => by have := (h.2.1 x (List.mem_of_getElem? HX.out)).1; omega)
        go_wp2
        go_ret
        exact ⟨⟨2, rfl, fun h => absurd h (by decide), fun h => absurd h HN.out⟩, hB⟩
      have e1 : decide (x < 0) = false := decide_eq_false z1
      by_cases z2 : 1073741824 < x
      · have e2 : decide (1073741824 < x) = true := decide_eq_true z2
        have HN : Hid (¬ PlanOK qs cs) := Lib.hid (fun h => by have := (h.2.1 x (List.mem_of_getElem? HX.out)).2; omega)
        clear z1
        go_wp2
        go_ret
        exact ⟨⟨2, rfl, fun h => absurd h (by decide), fun h => absurd h HN.out⟩, hB⟩
      have e2 : decide (1073741824 < x) = false := decide_eq_false z2
      have HOK : Hid (qOK x) := Lib.hid ⟨by omega, by omega⟩
      clear z1 z2
      go_wp2
      go_roundw
      case rel =>
        refine ⟨k + 1, by omega, by go_num, Lib.hid ?_, HBX, hB⟩
        intro y hy
        rw [List.take_add_one, HX.out] at hy
        rcases List.mem_append.1 hy with hy | hy
        · exact HV.out y hy
        · simp at hy; subst hy; exact HOK.out
      case measure => simp [intOf]; omega
    · obtain rfl : k = qs.length := by omega
      have HQS : Hid (∀ q ∈ qs, qOK q) := Lib.hid (by have := HV.out; rwa [List.take_length] at this)
      obtain ⟨wA, hwA⟩ : ∃ q, wr = q := ⟨_, rfl⟩
      subst hwA
      clear HV
      go_wp2
      go_loopw [41] (fun i wr => ∃ k : Nat, k ≤ cs.length ∧ i = .int .i64 k ∧ Hid (∀ j c, j < k → cs[j]? = some c → cOK qs.length cs j c) ∧ Hid (wr.heap[w.heap.size]? = some (.cells #[.slice aq qs.length cq, .slice ac cs.length cc] 25 (0, 0))) ∧ Below w.heap.size w wr) (fun i _ => cs.length - (intOf i).toNat)
      case atStart => exact ⟨0, Nat.zero_le _, rfl, Lib.hid (fun j c h => by omega), HBX, hB⟩
      case round =>
        clear cp hsz
        obtain ⟨k, hk, rfl, HV, HBX, hB⟩ := hrel
        have hsz : w.heap.size < wr.heap.size := (Array.getElem?_eq_some_iff.1 HBX.out).1
        have cp := fun o => cellB HBX.out o
        by_cases hlt : k < cs.length
        · obtain ⟨bb, o, rfl, hbn, hcell⟩ := HD.out (by omega)
          obtain ⟨x, hx⟩ : ∃ x, cs[k]? = some x := ⟨_, List.getElem?_eq_getElem hlt⟩
          have q0 : wr.cell? ⟨bb, o + k * 7, none⟩ = some (.int .i64 x.fr) := (hB.cell (p := ⟨bb, o + k * 7 + 0, none⟩) hbn).trans (hcell k x hx 0 _ rfl)
          have q1 : wr.cell? ⟨bb, o + k * 7 + 1, none⟩ = some (.int .i64 x.tt) := (hB.cell (p := ⟨bb, o + k * 7 + 1, none⟩) hbn).trans (hcell k x hx 1 _ rfl)
          have q2 : wr.cell? ⟨bb, o + k * 7 + 2, none⟩ = some (.int .i64 x.st) := (hB.cell (p := ⟨bb, o + k * 7 + 2, none⟩) hbn).trans (hcell k x hx 2 _ rfl)
          have q3 : wr.cell? ⟨bb, o + k * 7 + 3, none⟩ = some (.int .i64 x.en) := (hB.cell (p := ⟨bb, o + k * 7 + 3, none⟩) hbn).trans (hcell k x hx 3 _ rfl)
          have q4 : wr.cell? ⟨bb, o + k * 7 + 4, none⟩ = some (.int .i64 x.ra) := (hB.cell (p := ⟨bb, o + k * 7 + 4, none⟩) hbn).trans (hcell k x hx 4 _ rfl)
          have q5 : wr.cell? ⟨bb, o + k * 7 + 5, none⟩ = some (.int .i64 x.rg) := (hB.cell (p := ⟨bb, o + k * 7 + 5, none⟩) hbn).trans (hcell k x hx 5 _ rfl)
          have q6 : wr.cell? ⟨bb, o + k * 7 + 6, none⟩ = some (.int .i64 x.lo) := (hB.cell (p := ⟨bb, o + k * 7 + 6, none⟩) hbn).trans (hcell k x hx 6 _ rfl)
          have k0 : (0 : Int) ≤ (k : Int) := by omega
          have k1 : (k : Int) < (cs.length : Int) := by omega
          have HX := Lib.hid hx
          clear hx hcell
          obtain ⟨E, hE⟩ : ∃ E, chkCon x = E := ⟨_, rfl⟩
          have HE := Lib.hid hE
          by_cases z : E = 0
          case neg =>
            have z' : (E != 0) = true := by simpa using z
            have HN : Hid (¬ PlanOK qs cs) := Lib.hid (fun h => z (hE.symm.trans (h.2.2 k x HX.out).1))
            have HZ := Lib.hid z
            clear hE z
            go_wp2_with fail
            refine (conk_any x _).mono ?_
            rw [HE.out]
            rintro e w2 ⟨rfl, hb2⟩
            go_wp2
            go_ret
            exact ⟨⟨E, rfl, fun h => absurd h HZ.out, fun h => absurd h HN.out⟩, belowA⟩
          subst z
          have h3 := hE
          clear hE
          by_cases z1 : x.fr ≥ (qs.length : Int)
          · have e1 : decide (x.fr ≥ (qs.length : Int)) = true := decide_eq_true z1
            have HN : Hid (¬ PlanOK qs cs) := Lib.hid (fun h => by have := (h.2.2 k x HX.out).2.1; omega)
            clear h3
            go_wp2_with fail
            refine (conk_any x _).mono ?_
            rw [HE.out]
            rintro e w2 ⟨rfl, hb2⟩
            have hB2 : Hid (Below w.heap.size w w2) := Lib.hid (btrans0 (balloc0 hB) hb2)
            have hz2 : wr.heap.size < w2.heap.size := by have := hb2.size; simp at this; omega
            have GX : w2.heap[wr.heap.size]? = some (.cells #[.int .i64 x.fr, .int .i64 x.tt, .int .i64 x.st, .int .i64 x.en, .int .i64 x.ra, .int .i64 x.rg, .int .i64 x.lo] 38 (0, 0)) := (hb2.block _ (by simp)).trans heap_new
            have GP : w2.heap[w.heap.size]? = some (.cells #[.slice aq qs.length cq, .slice (some ⟨bb, o, none⟩) cs.length cc] 25 (0, 0)) := (hb2.block _ (by simp; omega)).trans ((Below.heap_alloc _ _ _ (by omega)).trans HBX.out)
            have hsz2 : w.heap.size < w2.heap.size := by omega
            have hB2' : Below w.heap.size w w2 := hB2.out
            clear cp hb2
            have cx := fun o => cellB GX o
            have cp := fun o => cellB GP o
            go_wp2
            go_ret
            exact ⟨⟨2, rfl, fun h => absurd h (by decide), fun h => absurd h HN.out⟩, belowA⟩
          have e1 : decide (x.fr ≥ (qs.length : Int)) = false := decide_eq_false z1
          by_cases z2 : x.tt ≥ (qs.length : Int)
          · have e2 : decide (x.tt ≥ (qs.length : Int)) = true := decide_eq_true z2
            have HN : Hid (¬ PlanOK qs cs) := Lib.hid (fun h => by have := (h.2.2 k x HX.out).2.2.1; omega)
            clear h3 z1
            go_wp2_with fail
            refine (conk_any x _).mono ?_
            rw [HE.out]
            rintro e w2 ⟨rfl, hb2⟩
            have hB2 : Hid (Below w.heap.size w w2) := Lib.hid (btrans0 (balloc0 hB) hb2)
            have hz2 : wr.heap.size < w2.heap.size := by have := hb2.size; simp at this; omega
            have GX : w2.heap[wr.heap.size]? = some (.cells #[.int .i64 x.fr, .int .i64 x.tt, .int .i64 x.st, .int .i64 x.en, .int .i64 x.ra, .int .i64 x.rg, .int .i64 x.lo] 38 (0, 0)) := (hb2.block _ (by simp)).trans heap_new
            have GP : w2.heap[w.heap.size]? = some (.cells #[.slice aq qs.length cq, .slice (some ⟨bb, o, none⟩) cs.length cc] 25 (0, 0)) := (hb2.block _ (by simp; omega)).trans ((Below.heap_alloc _ _ _ (by omega)).trans HBX.out)
            have hsz2 : w.heap.size < w2.heap.size := by omega
            have hB2' : Below w.heap.size w w2 := hB2.out
            clear cp hb2
            have cx := fun o => cellB GX o
            have cp := fun o => cellB GP o
            go_wp2
            go_ret
            exact ⟨⟨2, rfl, fun h => absurd h (by decide), fun h => absurd h HN.out⟩, belowA⟩
          have e2 : decide (x.tt ≥ (qs.length : Int)) = false := decide_eq_false z2
          have HZ : Hid (x.fr < (qs.length : Int) ∧ x.tt < (qs.length : Int)) := Lib.hid ⟨by omega, by omega⟩
          clear h3 z1 z2
          go_wp2_with fail
          refine (conk_any x _).mono ?_
          rw [HE.out]
          rintro e w2 ⟨rfl, hb2⟩
          have hB2 : Hid (Below w.heap.size w w2) := Lib.hid (btrans0 (balloc0 hB) hb2)
          have hz2 : wr.heap.size < w2.heap.size := by have := hb2.size; simp at this; omega
          have GX : w2.heap[wr.heap.size]? = some (.cells #[.int .i64 x.fr, .int .i64 x.tt, .int .i64 x.st, .int .i64 x.en, .int .i64 x.ra, .int .i64 x.rg, .int .i64 x.lo] 38 (0, 0)) := (hb2.block _ (by simp)).trans heap_new
          have GP : w2.heap[w.heap.size]? = some (.cells #[.slice aq qs.length cq, .slice (some ⟨bb, o, none⟩) cs.length cc] 25 (0, 0)) := (hb2.block _ (by simp; omega)).trans ((Below.heap_alloc _ _ _ (by omega)).trans HBX.out)
          have hsz2 : w.heap.size < w2.heap.size := by omega
          have hB2' : Below w.heap.size w w2 := hB2.out
          clear cp hb2
          have cx := fun o => cellB GX o
          have cp := fun o => cellB GP o
          have kcap : (k : Int) ≤ (cc : Int) := by omega
          have kcap' : k ≤ cc := by omega
          obtain ⟨A, hA⟩ : ∃ q, (cs.take k).any (ovl x) = q := ⟨_, rfl⟩
          have HA := Lib.hid hA
          clear hA
          go_wp2_with fail
          refine (contains_PredC (cs.take k) _ 35 #[.pointer (some ⟨wr.heap.size, 0, none⟩)] (ovl x) w2 (((HC.out.take k hk)).below hB2.out (Nat.le_refl _) hB2.out.size) ⟨fun _ _ => by kernel_rfl, fun d V hd hV => ?hclos⟩).mono ?_
          case hclos =>
            obtain ⟨j, hj, hjd⟩ := List.getElem_of_mem hd
            rw [List.length_take] at hj
            rw [List.getElem_take] at hjd
            exact planc_any x d wr.heap.size V HE.out (HV.out j d (by omega) (by rw [List.getElem?_eq_getElem (by omega), hjd])).1 ((hV.block _ hz2).trans GX)
          rw [HA.out]
          rintro e w3 ⟨rfl, hb3⟩
          have HB3' : Hid (w3.heap[w.heap.size]? = some (.cells #[.slice aq qs.length cq, .slice (some ⟨bb, o, none⟩) cs.length cc] 25 (0, 0))) := Lib.hid ((hb3.block _ (by omega)).trans GP)
          have hB3 : Below w.heap.size w w3 := btrans0 hB2.out hb3
          clear hb3 GX GP cx cp hz2
          cases A with
          | true =>
            have HN : Hid (¬ PlanOK qs cs) := Lib.hid (fun h => by have := (h.2.2 k x HX.out).2.2.2; rw [HA.out] at this; cases this)
            go_wp2
            go_ret
            exact ⟨⟨14, rfl, fun h => absurd h (by decide), fun h => absurd h HN.out⟩, hB3⟩
          | false =>
            go_wp2
            go_roundw
            case rel =>
              refine ⟨k + 1, by omega, by go_num, Lib.hid ?_, HB3', hB3⟩
              intro j c hj hc
              rcases Nat.lt_or_ge j k with hjk | hjk
              · exact HV.out j c hjk hc
              · obtain rfl : j = k := by omega
                rw [HX.out] at hc
                cases hc
                exact ⟨HE.out, HZ.out.1, HZ.out.2, HA.out⟩
            case measure => simp [intOf]; omega
        · obtain rfl : k = cs.length := by omega
          have HN : Hid (PlanOK qs cs) := Lib.hid ⟨HB3.out, HQS.out, fun j c hj => HV.out j c (List.getElem?_eq_some_iff.1 hj).1 hj⟩
          go_wp2
          go_ret
          exact ⟨⟨0, rfl, fun _ => HN.out, fun _ => rfl⟩, hB⟩
end Go.Proofs.YtkokiahmgmeokaaGreat
/- CheckRequest. -/
set_option linter.unusedVariables false
set_option linter.unusedSimpArgs false
namespace Go.Proofs.YtkokiahmgmeokaaGreat
open Go Go.RowKit Iv
attribute [local go_sem] Oper.semAt_some
attribute [local go_sem] B_getElem B_size B_app B_extract B_get B_toList
/-- what a valid request is -/
def ReqOK (n : Nat) (src dst sz rd D pr : Int) : Prop := (0 ≤ src ∧ src < n ∧ 0 ≤ dst ∧ dst < n) ∧ src ≠ dst ∧ (1 ≤ sz ∧ sz ≤ 65536 ∧ 0 ≤ rd ∧ rd ≤ D ∧ D ≤ 1099511627776) ∧ 0 ≤ pr ∧ pr ≤ 2
def CrPost (qs : List Int) (cs : List Con) (src dst sz rd D pr : Int) (w : World) (e : Ending) (w' : World) : Prop := (∃ r : Int, e = .returned (.int .i64 r) ∧ (r = 0 → PlanOK qs cs ∧ ReqOK qs.length src dst sz rd D pr) ∧ (PlanOK qs cs → ReqOK qs.length src dst sz rd D pr → r = 0)) ∧ Below w.heap.size w w'
set_option maxHeartbeats 4000000 in
theorem creq_any (qs : List Int) (cs : List Con) (uq uc : Value) (src dst sz rd D pr : Int) (cu : Bool) (w : World) (hq : RRow intC 1 w w.heap.size uq qs) (hc : RRow conC 7 w w.heap.size uc cs) :
    Calls Tryz.prog 6 #[.agg #[uq, uc], .agg #[.int .i64 src, .int .i64 dst, .int .i64 sz, .int .i64 rd, .int .i64 D, .int .i64 pr, .bool cu]] w (CrPost qs cs src dst sz rd D pr w) := by
  have HQ := Lib.hid hq
  have HC := Lib.hid hc
  obtain ⟨aq, cq, rfl, -⟩ := hq
  obtain ⟨ac, cc, rfl, -⟩ := hc
  go_enter Tryz.func6, Tryz.ntmps6
  go_wp2_with fail
  refine (planchk_any qs cs _ _ _ (HQ.out.below' (by exact belowA)) (HC.out.below' (by exact belowA))).mono ?_
  unfold PlanPost
  rintro e w1 ⟨⟨r, rfl, hr1, hr2⟩, hb1⟩
  have HR2 := Lib.hid hr2
  clear hr2
  have hB1 : Below w.heap.size w w1 := btrans0 (by exact belowA) hb1
  have GQ_ : w1.heap[w.heap.size + 1]? = some (.cells #[.int .i64 src, .int .i64 dst, .int .i64 sz, .int .i64 rd, .int .i64 D, .int .i64 pr, .bool cu] 31 (0, 0)) := (hb1.block _ (by simp)).trans (by repeat (first | exact heap_new' (by first | rfl | (simp; done)) | refine (Below.heap_alloc _ _ _ (by first | (simp; done) | (simp; omega))).trans ?_))
  have cq_ := fun o => cellB GQ_ o
  have HR1 := Lib.hid hr1
  clear hb1 hr1 GQ_
  by_cases zr : r = 0
  case neg =>
    have d0 : (r != 0) = true := by simpa using zr
    have HZR := Lib.hid zr
    clear zr
    go_wp2
    go_ret
    exact ⟨⟨1, rfl, fun h => (by cases h), fun h _ => absurd (HR2.out h) HZR.out⟩, hB1⟩
  subst zr
  have HP := Lib.hid (HR1.out rfl)
  by_cases z1 : 0 ≤ src ∧ src < qs.length ∧ 0 ≤ dst ∧ dst < qs.length
  case neg =>
    have HZ := Lib.hid z1
    clear z1
    go_wp2
    all_goals (first | (go_ret; exact ⟨⟨2, rfl, fun h => (by cases h), fun _ h => absurd h.1 HZ.out⟩, hB1⟩) | (exfalso; have := HZ.out; simp at *; omega) | (exfalso; have := HZ.out; omega))
  obtain ⟨a1, a2, a3, a4⟩ := z1
  have b1 : decide (src < 0) = false := decide_eq_false (by omega)
  have b2 : decide (src ≥ (qs.length : Int)) = false := decide_eq_false (by omega)
  have b3 : decide (dst < 0) = false := decide_eq_false (by omega)
  have b4 : decide (dst ≥ (qs.length : Int)) = false := decide_eq_false (by omega)
  by_cases z2 : src = dst
  case pos =>
    have d2 : (src == dst) = true := by simpa using z2
    have HZ := Lib.hid z2
    clear z2
    go_wp2
    go_ret
    exact ⟨⟨10, rfl, fun h => (by cases h), fun _ h => absurd HZ.out h.2.1⟩, hB1⟩
  have d2 : (src == dst) = false := by simpa using z2
  have HZ2 := Lib.hid z2
  clear z2
  by_cases z3 : 1 ≤ sz ∧ sz ≤ 65536 ∧ 0 ≤ rd ∧ rd ≤ D ∧ D ≤ 1099511627776
  case neg =>
    have HZ := Lib.hid z3
    clear z3
    go_wp2
    all_goals (first | (go_ret; exact ⟨⟨2, rfl, fun h => (by cases h), fun _ h => absurd h.2.2.1 HZ.out⟩, hB1⟩) | (exfalso; have := HZ.out; simp at *; omega) | (exfalso; have := HZ.out; omega))
  have HZ3 := Lib.hid z3
  obtain ⟨c1, c2, c3, c4, c5⟩ := z3
  have e1 : decide (sz < 1) = false := decide_eq_false (by omega)
  have e2 : decide (sz > 65536) = false := decide_eq_false (by omega)
  have e3 : decide (rd < 0) = false := decide_eq_false (by omega)
  have e4 : decide (rd > D) = false := decide_eq_false (by omega)
  have e5 : decide (D > 1099511627776) = false := decide_eq_false (by omega)
  by_cases z4 : 0 ≤ pr ∧ pr ≤ 2
  case neg =>
    have HZ := Lib.hid z4
    clear z4
    go_wp2
    all_goals (first | (go_ret; exact ⟨⟨8, rfl, fun h => (by cases h), fun _ h => absurd h.2.2.2 HZ.out⟩, hB1⟩) | (exfalso; have := HZ.out; simp at *; omega) | (exfalso; have := HZ.out; omega))
  obtain ⟨g1, g2⟩ := z4
  have f1 : decide (pr < 0) = false := decide_eq_false (by omega)
  have f2 : decide (pr > 2) = false := decide_eq_false (by omega)
  go_wp2
  go_ret
  exact ⟨⟨0, rfl, fun _ => ⟨HP.out, ⟨a1, a2, a3, a4⟩, HZ2.out, HZ3.out, g1, g2⟩, fun _ _ => rfl⟩, hB1⟩
end Go.Proofs.YtkokiahmgmeokaaGreat
