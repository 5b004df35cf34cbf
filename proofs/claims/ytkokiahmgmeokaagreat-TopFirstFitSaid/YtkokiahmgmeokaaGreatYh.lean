/- Bookings: Busy, check, Load. -/
import Derived.BigQuiet
import Derived.BigRegion
import Derived.Deep.DeepCutAuto
import Derived.Deep.CutBlock
import Derived.Test.YtkokiahmgmeokaaGreatYf
import Derived.Test.YtkokiahmgmeokaaGreatSz
import Derived.Test.YtkokiahmgmeokaaGreatJkz
set_option linter.unusedVariables false
set_option linter.unusedSimpArgs false
namespace Go.Proofs.YtkokiahmgmeokaaGreat
open Go Go.RowKit Iv
attribute [local go_sem] Oper.semAt_some
attribute [local go_sem] B_getElem B_size B_app B_extract B_get B_toList

/-- the call hands back a slice of its own with these spans -/
def SpsRet (r : List Sp) (w : World) (e : Ending) (w' : World) : Prop := ∃ u, e = .returned u ∧ RSps w' w'.heap.size u r ∧ RFrom w.heap.size u ∧ Below w.heap.size w w'
set_option maxRecDepth 100000 in
set_option maxHeartbeats 4000000 in
theorem busy_any (l : List Bkg) (i : Int) (ub : Value) (w : World) (hl : RRow bkgC 4 w w.heap.size ub l) (h5 : l.length ≤ 512) :
    Calls Tryz.prog 57 #[ub, .int .i64 i] w (SpsRet (busyS l i) w) := by
  obtain ⟨al, cl, rfl, l1, l2, l3, l4⟩ := hl
  unfold maxLen at l2
  have hll : l.length ≤ 9223372036854775807 := by omega
  have HL := Lib.hid l4
  clear l3 l4
  obtain ⟨i0, hin, hz0, hz1, hz2⟩ := info_parts infoSpan
  go_enter Tryz.func57, Tryz.ntmps57
  go_wp2
  go_loopw [5, 10] (fun ov iv wr => ∃ k : Nat, k ≤ l.length ∧ iv = .int .i64 k ∧ Hid (wr.ownsRow w.heap.size 50 2 ov (busyS (l.take k) i).length (sps (busyS (l.take k) i))) ∧ Below w.heap.size w wr) (fun _ iv _ => l.length - (intOf iv).toNat)
  case atStart => exact ⟨0, Nat.zero_le _, rfl, Lib.hid (World.ownsRow_nil _ _ _ _), Below.refl _ _⟩
  case round =>
    obtain ⟨k, hk, rfl, HO, hB⟩ := hrel
    obtain ⟨P, hP⟩ : ∃ q, busyS (l.take k) i = q := ⟨_, rfl⟩
    rw [hP] at HO
    have HP := Lib.hid hP
    have hPl : P.length ≤ 512 := by
      rw [← hP]
      refine Nat.le_trans (busyS_len _ _) ?_
      rw [List.length_take]
      omega
    clear hP
    obtain ⟨va, vc, rfl⟩ := own_shape HO.out
    by_cases hlt : k < l.length
    · obtain ⟨bb, o, rfl, hbn, hcell⟩ := HL.out (by omega)
      obtain ⟨x, hx⟩ : ∃ x, l[k]? = some x := ⟨_, List.getElem?_eq_getElem hlt⟩
      have q0 : wr.cell? ⟨bb, o + k * 4, none⟩ = some (.int .i64 x.ct) := (hB.cell (p := ⟨bb, o + k * 4 + 0, none⟩) hbn).trans (hcell k x hx 0 _ rfl)
      have q1 : wr.cell? ⟨bb, o + k * 4 + 1, none⟩ = some (.int .i64 x.bg) := (hB.cell (p := ⟨bb, o + k * 4 + 1, none⟩) hbn).trans (hcell k x hx 1 _ rfl)
      have q2 : wr.cell? ⟨bb, o + k * 4 + 2, none⟩ = some (.int .i64 x.en) := (hB.cell (p := ⟨bb, o + k * 4 + 2, none⟩) hbn).trans (hcell k x hx 2 _ rfl)
      have q3 : wr.cell? ⟨bb, o + k * 4 + 3, none⟩ = some (.int .i64 x.tk) := (hB.cell (p := ⟨bb, o + k * 4 + 3, none⟩) hbn).trans (hcell k x hx 3 _ rfl)
      have k0 : (0 : Int) ≤ (k : Int) := by omega
      have k1 : (k : Int) < (l.length : Int) := by omega
      have HX := Lib.hid hx
      clear hx hcell
      by_cases z : x.ct = i
      · have f1 : (x.ct == i) = true := by rw [beq_iff_eq]; exact z
        have HN : Hid (busyS (l.take (k + 1)) i = P ++ [(x.bg, x.en)]) := Lib.hid (by rw [busyS_take i HX.out, if_pos z, HP.out])
        clear z
        go_upto_region 6 with fail
        obtain ⟨w5, hw5⟩ : ∃ q, wr.alloc (.cells #[.int .i64 x.ct, .int .i64 x.bg, .int .i64 x.en, .int .i64 x.tk] 91) = q := ⟨_, rfl⟩
        rw [hw5]
        have hB5 : Below w.heap.size w w5 := by rw [← hw5]; exact balloc0 hB
        have GX : w5.heap[wr.heap.size]? = some (.cells #[.int .i64 x.ct, .int .i64 x.bg, .int .i64 x.en, .int .i64 x.tk] 91 (0, 0)) := by rw [← hw5]; exact heap_new
        have HO5 : Hid (w5.ownsRow w.heap.size 50 2 (.slice va P.length vc) P.length (sps P)) := Lib.hid (by rw [← hw5]; exact own_kept1 HO.out (fun q hq => Below.heap_alloc _ _ _ (HO.out.lt q hq).2))
        have hz5 : wr.heap.size < w5.heap.size := by rw [← hw5]; simp
        have hzw : w.heap.size ≤ w5.heap.size := hB5.size
        clear hw5 HO
        have cx := fun o => cellB GX o
        go_wp2_with (at_builtin; refine wpList_append_F _ rfl _ _ _ rfl w.heap.size 50 i0 _ 2 16 Tryz.underlying45 hin hz0 hz1 hz2 rfl (by omega) (.slice va P.length vc) P.length (sps P) rfl (own_kept1 HO5.out (fun q hq => Below.heap_alloc _ _ _ (HO5.out.lt q hq).2)) ⟨w5.heap.size, 0, none⟩ 1 1 (spC (x.bg, x.en)) rfl rfl (news_one heap_new) (by simp [spC, Value.oneCell']) (by simp only [maxLen]; omega) (by omega) (by simp; omega) (by omega) ?_; intro vo w9 ho9 hg9 hf9)
        have HO9 : Hid (w9.ownsRow w.heap.size 50 2 vo (busyS (l.take (k + 1)) i).length (sps (busyS (l.take (k + 1)) i))) := Lib.hid (by
          rw [HN.out, List.length_append, sps_append]
          simpa [sps] using ho9)
        have hB9 : Below w.heap.size w w9 := Below.grown (by exact belowA) hg9 (by simp; omega) (fun q hq => (HO5.out.lt q hq).1)
        clear ho9 hg9 hf9 cx
        go_wp2
        go_roundw
        case rel => exact ⟨k + 1, by omega, by go_num, HO9, hB9⟩
        case measure => simp [intOf]; omega
      · have f1 : (x.ct == i) = false := by rw [beq_eq_false_iff_ne]; exact z
        have HN : Hid (busyS (l.take (k + 1)) i = P) := Lib.hid (by rw [busyS_take i HX.out, if_neg z, HP.out])
        clear z
        go_wp2
        go_roundw
        case rel => exact ⟨k + 1, by omega, by go_num, Lib.hid (by rw [HN.out]; exact own_kept1 HO.out (fun q hq => Below.heap_alloc _ _ _ (HO.out.lt q hq).2)), belowA⟩
        case measure => simp [intOf]; omega
    · obtain rfl : k = l.length := by omega
      have HN : Hid (P = busyS l i) := Lib.hid (by rw [← HP.out, List.take_length])
      go_wp2
      go_ret
      exact ⟨_, rfl, by rw [← HN.out]; exact RSps.of_own HO.out, own_from HO.out, hB⟩
set_option maxRecDepth 100000 in
set_option maxHeartbeats 4000000 in
theorem bcheck_any (qs : List Int) (cs : List Con) (l : List Bkg) (n : Nat) (uq uc ub : Value) (w : World) (hq : RRow intC 1 w w.heap.size uq qs) (hc : RRow conC 7 w w.heap.size uc cs) (hl : RRow bkgC 4 w w.heap.size ub l)
    (hp : PlanOK qs cs) (hb : BkOK cs l) (hn : n < cs.length) :
    Calls Tryz.prog 21 #[.agg #[uq, uc], ub, .int .i64 n] w fun e w' => e = .returned (.int .i64 0) ∧ Below w.heap.size w w' := by
  have HQ := Lib.hid hq
  have HC := Lib.hid hc
  have HL := Lib.hid hl
  have HOK := Lib.hid (And.intro hp hb)
  obtain ⟨aq, cq, rfl, -⟩ := hq
  obtain ⟨ac, cc, rfl, c1, c2, -⟩ := hc
  obtain ⟨al, cl, rfl, -⟩ := hl
  have n0 : (0 : Int) ≤ (n : Int) := by omega
  have d1 : decide ((n : Int) < 0) = false := decide_eq_false (by omega)
  have n1 : (n : Int) < (cs.length : Int) := by omega
  have d2 : decide ((n : Int) ≥ (cs.length : Int)) = false := decide_eq_false (by omega)
  unfold maxLen at c2
  have hlc : cs.length ≤ 9223372036854775807 := by omega
  clear hp hb
  go_enter Tryz.func21, Tryz.ntmps21
  go_wp2_with fail
  refine (bchk_any qs cs l _ _ _ _ (HQ.out.below' belowA) (HC.out.below' belowA) (HL.out.below' belowA)).mono ?_
  unfold BkPost
  rintro e w1 ⟨⟨r, rfl, -, hr2⟩, hb1⟩
  obtain rfl := hr2 HOK.out
  have hB1 : Below w.heap.size w w1 := btrans0 (balloc0 (Below.refl _ _)) hb1
  have GP : w1.heap[w.heap.size]? = some (.cells #[.slice aq qs.length cq, .slice ac cs.length cc] 25 (0, 0)) := (hb1.block _ (by simp)).trans heap_new
  have cp := fun o => cellB GP o
  clear hr2 hb1
  go_wp2
  go_ret
  exact ⟨rfl, hB1⟩
end Go.Proofs.YtkokiahmgmeokaaGreat
