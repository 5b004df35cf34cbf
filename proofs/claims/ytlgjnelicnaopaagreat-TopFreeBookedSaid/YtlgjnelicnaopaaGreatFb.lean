/-
  Proved: mailboattop.TopFreeBooked returns true for every input, and leaves its argument as it was. No condition.
-/
import Derived.Test.YtlgjnelicnaopaaGreatRows
import Derived.Test.YtlgjnelicnaopaaGreatL
import Derived.Test.YtlgjnelicnaopaaGreatYr
import Derived.Test.YtlgjnelicnaopaaGreatYu
import Derived.Test.YtlgjnelicnaopaaGreatYw
import Derived.Test.YtlgjnelicnaopaaGreatYm
import Derived.Test.YtlgjnelicnaopaaGreatYj
import Derived.Test.YtlgjnelicnaopaaGreatVg
set_option linter.unusedVariables false
set_option linter.unusedSimpArgs false
namespace Go.Proofs.YtlgjnelicnaopaaGreat.topFreeBooked
open Go Go.ChangeShapes Go.WideShapes Go.ChangeAt Go.RowKit Go.Joins Go.Proofs.YtlgjnelicnaopaaGreat
open Iv
attribute [local go_sem] B_getElem B_size B_app B_extract B_get B_toList
attribute [local go_sem] Oper.semAt_some
theorem own : ownKnob Tryz.prog.godebug = none := by kernel_rfl
set_option maxRecDepth 100000 in
set_option maxHeartbeats 16000000 in
theorem walk (qs : List Int) (cs : List Con) (l : List Bkg) (hs : List Hld) (uq uc ub uh : Value) (w : World) (hq : RRow intC 1 w w.heap.size uq qs) (hc : RRow conC 7 w w.heap.size uc cs) (hl : RRow bkgC 4 w w.heap.size ub l) (hh : RRow hldC 5 w w.heap.size uh hs) :
    Calls Tryz.prog 3 #[.agg #[uq, uc, ub, uh]] w fun e w' => e = .returned (.bool true) ∧ Below w.heap.size w w' := by
  have HQ := Lib.hid hq
  have HC := Lib.hid hc
  have HL := Lib.hid hl
  have HH := Lib.hid hh
  obtain ⟨aq, cq, rfl, -⟩ := hq
  obtain ⟨ac, cc, rfl, c1, c2, c3, c4⟩ := hc
  obtain ⟨ab, cb, rfl, -⟩ := hl
  obtain ⟨ah, ch, rfl, -⟩ := hh
  unfold maxLen at c2
  have hlc : cs.length ≤ 9223372036854775807 := by omega
  have HC4 := Lib.hid c4
  clear c3 c4
  go_enter Tryz.func3, Tryz.ntmps3
  go_wp2_with fail
  refine (great_any _ _ _ _ _ ⟨_, _, _, rfl⟩ ⟨_, _, _, rfl⟩ ⟨_, _, _, rfl⟩ ⟨_, _, _, rfl⟩).mono ?_
  rintro e w1 hr1
  obtain ⟨⟨gr, rfl⟩, hb1⟩ := hr1
  have hB1 : Below w.heap.size w w1 := btrans0 (balloc0 (Below.refl _ _)) hb1
  have GT : w1.heap[w.heap.size]? = some (.cells #[.slice aq qs.length cq, .slice ac cs.length cc, .slice ab l.length cb, .slice ah hs.length ch] 29 (0, 0)) := (hb1.block _ (by simp)).trans heap_new
  have HGT := Lib.hid GT
  have hz1 : w.heap.size < w1.heap.size := (Array.getElem?_eq_some_iff.1 GT).1
  clear hb1 GT
  cases gr with
  | true =>
    go_wp2_with fail
    refine (awake45 _).mono ?_
    rintro e w99 ⟨rfl, hb99⟩
    go_wp2
    go_ret
    exact ⟨rfl, btrans0 hB1 hb99⟩
  | false =>
  have ct := fun o => cellB HGT.out o
  go_wp2_with fail
  refine (ctab_any qs cs l hs _ _ _ _ _ (HQ.out.below' hB1) (HC.out.below' hB1) (HL.out.below' hB1) (HH.out.below' hB1)).mono ?_
  rintro e w2 hpp
  obtain ⟨⟨r, rfl, hr⟩, hb2⟩ := hpp
  have hB2 : Below w.heap.size w w2 := btrans0 hB1 hb2
  have HGT2 : Hid (w2.heap[w.heap.size]? = some (.cells #[.slice aq qs.length cq, .slice ac cs.length cc, .slice ab l.length cb, .slice ah hs.length ch] 29 (0, 0))) := Lib.hid ((hb2.block _ hz1).trans HGT.out)
  clear hb2 ct
  by_cases zr : r = 0
  case neg =>
    have d0 : (r != 0) = true := by simpa using zr
    clear zr hr
    go_wp2_with fail
    refine (awake45 _).mono ?_
    rintro e w99 ⟨rfl, hb99⟩
    go_wp2
    go_ret
    exact ⟨rfl, btrans0 hB2 hb99⟩
  subst zr
  have HOK := Lib.hid (hr rfl)
  have hz2 : w.heap.size < w2.heap.size := (Array.getElem?_eq_some_iff.1 HGT2.out).1
  have ct := fun o => cellB HGT2.out o
  clear hr
  go_wp2
  go_loopw [27] (fun i wr => ∃ k : Nat, k ≤ cs.length ∧ i = .int .i64 k ∧ Hid (wr.heap[w.heap.size]? = some (.cells #[.slice aq qs.length cq, .slice ac cs.length cc, .slice ab l.length cb, .slice ah hs.length ch] 29 (0, 0))) ∧ Below w.heap.size w wr) (fun i _ => cs.length - (intOf i).toNat)
  case atStart => exact ⟨0, Nat.zero_le _, rfl, HGT2, hB2⟩
  case round =>
    clear ct hB2 hB1 hz1 hz2 HGT HGT2
    obtain ⟨k, hk, rfl, HBX, hB⟩ := hrel
    have hsz : w.heap.size < wr.heap.size := (Array.getElem?_eq_some_iff.1 HBX.out).1
    have ct := fun o => cellB HBX.out o
    by_cases hlt : k < cs.length
    · skip
      obtain ⟨bb, o, rfl, hbn, hcell⟩ := HC4.out (by omega)
      obtain ⟨x, hx⟩ : ∃ x, cs[k]? = some x := ⟨_, List.getElem?_eq_getElem hlt⟩
      have q0 : wr.cell? ⟨bb, o + k * 7, none⟩ = some (.int .i64 x.fr) := (hB.cell (p := ⟨bb, o + k * 7 + 0, none⟩) hbn).trans (hcell k x hx 0 _ rfl)
      have q1 : wr.cell? ⟨bb, o + k * 7 + 1, none⟩ = some (.int .i64 x.tt) := (hB.cell (p := ⟨bb, o + k * 7 + 1, none⟩) hbn).trans (hcell k x hx 1 _ rfl)
      have q2 : wr.cell? ⟨bb, o + k * 7 + 2, none⟩ = some (.int .i64 x.st) := (hB.cell (p := ⟨bb, o + k * 7 + 2, none⟩) hbn).trans (hcell k x hx 2 _ rfl)
      have q3 : wr.cell? ⟨bb, o + k * 7 + 3, none⟩ = some (.int .i64 x.en) := (hB.cell (p := ⟨bb, o + k * 7 + 3, none⟩) hbn).trans (hcell k x hx 3 _ rfl)
      have q4 : wr.cell? ⟨bb, o + k * 7 + 4, none⟩ = some (.int .i64 x.ra) := (hB.cell (p := ⟨bb, o + k * 7 + 4, none⟩) hbn).trans (hcell k x hx 4 _ rfl)
      have q5 : wr.cell? ⟨bb, o + k * 7 + 5, none⟩ = some (.int .i64 x.rg) := (hB.cell (p := ⟨bb, o + k * 7 + 5, none⟩) hbn).trans (hcell k x hx 5 _ rfl)
      have q6 : wr.cell? ⟨bb, o + k * 7 + 6, none⟩ = some (.int .i64 x.lo) := (hB.cell (p := ⟨bb, o + k * 7 + 6, none⟩) hbn).trans (hcell k x hx 6 _ rfl)
      have k0 : (0 : Int) ≤ (k : Int) := by omega
      have k1 : (k : Int) < (cs.length : Int) := by omega
      have hff := fb_facts HOK.out.1 HOK.out.2 hx
      obtain ⟨M, hM⟩ : ∃ q, busyS l k = q := ⟨_, rfl⟩
      have HDJ : Hid (DJ x.st (busyS l k)) := Lib.hid hff.dj
      have HBD : Hid (∀ y ∈ busyS l k, 0 ≤ y.1 ∧ y.1 < y.2 ∧ y.2 ≤ 1099511627776) := Lib.hid hff.bnd
      have hml : M.length ≤ 512 := by rw [← hM]; exact Nat.le_trans (busyS_len _ _) HOK.out.2.1
      rw [hM] at hff
      have HM := Lib.hid hM
      have HX := Lib.hid hx
      obtain ⟨R1, hR1⟩ : ∃ q, outs x.en x.st M = q := ⟨_, rfl⟩
      obtain ⟨R2, hR2⟩ : ∃ q, nrm M = q := ⟨_, rfl⟩
      obtain ⟨T, hT⟩ : ∃ q, totS M = q := ⟨_, rfl⟩
      obtain ⟨-, -, f3, f4, f5, f6, f7, f8, f9⟩ := hff
      rw [hR1] at f5 f7 f8
      rw [hR2] at f6 f7 f8 f9
      rw [hT] at f9
      have HR1 := Lib.hid hR1
      have HR2 := Lib.hid hR2
      have HT := Lib.hid hT
      have F3 := Lib.hid f3
      have F4 := Lib.hid f4
      have F6 := Lib.hid f6
      have F7 := Lib.hid f7
      have F8 := Lib.hid f8
      have F9 := Lib.hid f9
      have dT : (T != T) = false := by simp
      clear hx hcell hM hR1 hR2 hT f3 f4 f5 f6 f7 f8 f9
      go_upto_region 6 with fail
      obtain ⟨w4, hw4⟩ : ∃ q, wr.alloc (.cells #[.int .i64 x.fr, .int .i64 x.tt, .int .i64 x.st, .int .i64 x.en, .int .i64 x.ra, .int .i64 x.rg, .int .i64 x.lo] 35) = q := ⟨_, rfl⟩
      rw [hw4]
      have hB_w4 : Below w.heap.size w w4 := by rw [← hw4]; exact balloc0 hB
      have GT_w4 : Hid (w4.heap[w.heap.size]? = some (.cells #[.slice aq qs.length cq, .slice (some ⟨bb, o, none⟩) cs.length cc, .slice ab l.length cb, .slice ah hs.length ch] 29 (0, 0))) := Lib.hid (by rw [← hw4]; exact (Below.heap_alloc _ _ _ hsz).trans HBX.out)
      have GX_w4 : Hid (w4.heap[wr.heap.size]? = some (.cells #[.int .i64 x.fr, .int .i64 x.tt, .int .i64 x.st, .int .i64 x.en, .int .i64 x.ra, .int .i64 x.rg, .int .i64 x.lo] 35 (0, 0))) := Lib.hid (by rw [← hw4]; exact heap_new)
      have hz_w4 : wr.heap.size < w4.heap.size := by rw [← hw4]; simp
      clear hw4 ct hB q0 q1 q2 q3 q4 q5 q6
      have ct := fun q => cellB GT_w4.out q
      have cx := fun q => cellB GX_w4.out q
      go_wp2_with fail
      refine (Free_any qs cs l k x _ _ _ _ (HQ.out.below' hB_w4) (HC.out.below' hB_w4) (HL.out.below' hB_w4) HOK.out.1 HOK.out.2 HX.out HDJ.out).mono ?_
      rw [HM.out, HR1.out]
      rintro e w5 hr
      obtain ⟨uf, rfl, hrf, -, hb_w5⟩ := hr
      simp only at hrf
      have RF_w5 := Lib.hid hrf
      obtain ⟨af, cf, rfl, -⟩ := id hrf
      clear hrf
      have hB_w5 : Below w.heap.size w w5 := btrans0 hB_w4 hb_w5
      have GT_w5 : Hid (w5.heap[w.heap.size]? = some (.cells #[.slice aq qs.length cq, .slice (some ⟨bb, o, none⟩) cs.length cc, .slice ab l.length cb, .slice ah hs.length ch] 29 (0, 0))) := Lib.hid ((hb_w5.block _ (by omega)).trans GT_w4.out)
      have GX_w5 : Hid (w5.heap[wr.heap.size]? = some (.cells #[.int .i64 x.fr, .int .i64 x.tt, .int .i64 x.st, .int .i64 x.en, .int .i64 x.ra, .int .i64 x.rg, .int .i64 x.lo] 35 (0, 0))) := Lib.hid ((hb_w5.block _ hz_w4).trans GX_w4.out)
      have hz_w5 : wr.heap.size < w5.heap.size := by have := hb_w5.size; omega
      clear hb_w5 ct cx hB_w4 GT_w4 GX_w4 hz_w4 
      have ct := fun q => cellB GT_w5.out q
      have cx := fun q => cellB GX_w5.out q
      go_wp2_with fail
      refine (busy_any l k _ _ (HL.out.below' hB_w5) HOK.out.2.1).mono ?_
      rw [HM.out]
      rintro e w6 hr
      obtain ⟨um, rfl, hrm, -, hb_w6⟩ := hr
      have RM := Lib.hid hrm
      obtain ⟨am, cm, rfl, -⟩ := id hrm
      clear hrm
      have hB_w6 : Below w.heap.size w w6 := btrans0 hB_w5 hb_w6
      have GT_w6 : Hid (w6.heap[w.heap.size]? = some (.cells #[.slice aq qs.length cq, .slice (some ⟨bb, o, none⟩) cs.length cc, .slice ab l.length cb, .slice ah hs.length ch] 29 (0, 0))) := Lib.hid ((hb_w6.block _ (by omega)).trans GT_w5.out)
      have GX_w6 : Hid (w6.heap[wr.heap.size]? = some (.cells #[.int .i64 x.fr, .int .i64 x.tt, .int .i64 x.st, .int .i64 x.en, .int .i64 x.ra, .int .i64 x.rg, .int .i64 x.lo] 35 (0, 0))) := Lib.hid ((hb_w6.block _ hz_w5).trans GX_w5.out)
      have hz_w6 : wr.heap.size < w6.heap.size := by have := hb_w6.size; omega
      have RF_w6 := Lib.hid (RF_w5.out.below' hb_w6)
      clear hb_w6 ct cx hB_w5 GT_w5 GX_w5 hz_w5 RF_w5
      have ct := fun q => cellB GT_w6.out q
      have cx := fun q => cellB GX_w6.out q
      go_wp2_with fail
      refine (normal_any M _ _ RM.out (by omega) F4.out F3.out).mono ?_
      rw [HR2.out]
      rintro e w7 hr
      obtain ⟨un, rfl, hrn, -, hb_w7⟩ := hr
      simp only at hrn
      have RN_w7 := Lib.hid hrn
      obtain ⟨an, cn, rfl, -⟩ := id hrn
      clear hrn
      have hB_w7 : Below w.heap.size w w7 := btrans0 hB_w6 hb_w7
      have GT_w7 : Hid (w7.heap[w.heap.size]? = some (.cells #[.slice aq qs.length cq, .slice (some ⟨bb, o, none⟩) cs.length cc, .slice ab l.length cb, .slice ah hs.length ch] 29 (0, 0))) := Lib.hid ((hb_w7.block _ (by omega)).trans GT_w6.out)
      have GX_w7 : Hid (w7.heap[wr.heap.size]? = some (.cells #[.int .i64 x.fr, .int .i64 x.tt, .int .i64 x.st, .int .i64 x.en, .int .i64 x.ra, .int .i64 x.rg, .int .i64 x.lo] 35 (0, 0))) := Lib.hid ((hb_w7.block _ hz_w6).trans GX_w6.out)
      have hz_w7 : wr.heap.size < w7.heap.size := by have := hb_w7.size; omega
      have RF_w7 := Lib.hid (RF_w6.out.below' hb_w7)
      clear hb_w7 ct cx hB_w6 GT_w6 GX_w6 hz_w6 RF_w6
      have ct := fun q => cellB GT_w7.out q
      have cx := fun q => cellB GX_w7.out q
      go_wp2_with fail
      refine (and_any R1 R2 _ _ _ RF_w7.out RN_w7.out).mono ?_
      rw [F7.out]
      rintro e w8 hr
      obtain ⟨ua, rfl, hra, -, hb_w8⟩ := hr
      simp only at hra
      obtain ⟨aa, ca, rfl, -⟩ := hra
      have hB_w8 : Below w.heap.size w w8 := btrans0 hB_w7 hb_w8
      have GT_w8 : Hid (w8.heap[w.heap.size]? = some (.cells #[.slice aq qs.length cq, .slice (some ⟨bb, o, none⟩) cs.length cc, .slice ab l.length cb, .slice ah hs.length ch] 29 (0, 0))) := Lib.hid ((hb_w8.block _ (by omega)).trans GT_w7.out)
      have GX_w8 : Hid (w8.heap[wr.heap.size]? = some (.cells #[.int .i64 x.fr, .int .i64 x.tt, .int .i64 x.st, .int .i64 x.en, .int .i64 x.ra, .int .i64 x.rg, .int .i64 x.lo] 35 (0, 0))) := Lib.hid ((hb_w8.block _ hz_w7).trans GX_w7.out)
      have hz_w8 : wr.heap.size < w8.heap.size := by have := hb_w8.size; omega
      have RF_w8 := Lib.hid (RF_w7.out.below' hb_w8)
      have RN_w8 := Lib.hid (RN_w7.out.below' hb_w8)
      clear hb_w8 ct cx hB_w7 GT_w7 GX_w7 hz_w7 RF_w7 RN_w7
      have ct := fun q => cellB GT_w8.out q
      have cx := fun q => cellB GX_w8.out q
      go_wp2_with fail
      refine (or_any R1 R2 _ _ _ RF_w8.out RN_w8.out).mono ?_
      rw [F8.out]
      rintro e w9 hr
      obtain ⟨uo, rfl, hro, -, hb_w9⟩ := hr
      simp only at hro
      have RO_w9 := Lib.hid hro
      obtain ⟨ao, co, rfl, -⟩ := id hro
      clear hro
      have hB_w9 : Below w.heap.size w w9 := btrans0 hB_w8 hb_w9
      have GT_w9 : Hid (w9.heap[w.heap.size]? = some (.cells #[.slice aq qs.length cq, .slice (some ⟨bb, o, none⟩) cs.length cc, .slice ab l.length cb, .slice ah hs.length ch] 29 (0, 0))) := Lib.hid ((hb_w9.block _ (by omega)).trans GT_w8.out)
      have GX_w9 : Hid (w9.heap[wr.heap.size]? = some (.cells #[.int .i64 x.fr, .int .i64 x.tt, .int .i64 x.st, .int .i64 x.en, .int .i64 x.ra, .int .i64 x.rg, .int .i64 x.lo] 35 (0, 0))) := Lib.hid ((hb_w9.block _ hz_w8).trans GX_w8.out)
      have hz_w9 : wr.heap.size < w9.heap.size := by have := hb_w9.size; omega
      have RN_w9 := Lib.hid (RN_w8.out.below' hb_w9)
      clear hb_w9 ct cx hB_w8 GT_w8 GX_w8 hz_w8 RN_w8
      have ct := fun q => cellB GT_w9.out q
      have cx := fun q => cellB GX_w9.out q
      go_wp2_with fail
      refine (load_any qs cs l k _ _ _ _ (HQ.out.below' hB_w9) (HC.out.below' hB_w9) (HL.out.below' hB_w9) HOK.out.1 HOK.out.2 hlt HBD.out).mono ?_
      rw [HM.out, HT.out]
      rintro e w10 ⟨rfl, hb_w10⟩
      have hB_w10 : Below w.heap.size w w10 := btrans0 hB_w9 hb_w10
      have GT_w10 : Hid (w10.heap[w.heap.size]? = some (.cells #[.slice aq qs.length cq, .slice (some ⟨bb, o, none⟩) cs.length cc, .slice ab l.length cb, .slice ah hs.length ch] 29 (0, 0))) := Lib.hid ((hb_w10.block _ (by omega)).trans GT_w9.out)
      have GX_w10 : Hid (w10.heap[wr.heap.size]? = some (.cells #[.int .i64 x.fr, .int .i64 x.tt, .int .i64 x.st, .int .i64 x.en, .int .i64 x.ra, .int .i64 x.rg, .int .i64 x.lo] 35 (0, 0))) := Lib.hid ((hb_w10.block _ hz_w9).trans GX_w9.out)
      have hz_w10 : wr.heap.size < w10.heap.size := by have := hb_w10.size; omega
      have RN_w10 := Lib.hid (RN_w9.out.below' hb_w10)
      have RO_w10 := Lib.hid (RO_w9.out.below' hb_w10)
      clear hb_w10 ct cx hB_w9 GT_w9 GX_w9 hz_w9 RN_w9 RO_w9
      have ct := fun q => cellB GT_w10.out q
      have cx := fun q => cellB GX_w10.out q
      go_wp2_with fail
      refine (rsameSp_any [(x.st, x.en)] _ _ _ (RO_w10.out.below' (balloc0 (Below.refl _ _))) (RSps.one heap_new rfl)).mono ?_
      rintro e w11 ⟨rfl, hb11⟩
      have hb_w11 : Below w10.heap.size w10 w11 := btrans0 (balloc0 (Below.refl _ _)) hb11
      clear hb11
      have hB_w11 : Below w.heap.size w w11 := btrans0 hB_w10 hb_w11
      have GT_w11 : Hid (w11.heap[w.heap.size]? = some (.cells #[.slice aq qs.length cq, .slice (some ⟨bb, o, none⟩) cs.length cc, .slice ab l.length cb, .slice ah hs.length ch] 29 (0, 0))) := Lib.hid ((hb_w11.block _ (by omega)).trans GT_w10.out)
      have GX_w11 : Hid (w11.heap[wr.heap.size]? = some (.cells #[.int .i64 x.fr, .int .i64 x.tt, .int .i64 x.st, .int .i64 x.en, .int .i64 x.ra, .int .i64 x.rg, .int .i64 x.lo] 35 (0, 0))) := Lib.hid ((hb_w11.block _ hz_w10).trans GX_w10.out)
      have hz_w11 : wr.heap.size < w11.heap.size := by have := hb_w11.size; omega
      have RN_w11 := Lib.hid (RN_w10.out.below' hb_w11)
      clear hb_w11 ct cx hB_w10 GT_w10 GX_w10 hz_w10 RN_w10
      have ct := fun q => cellB GT_w11.out q
      have cx := fun q => cellB GX_w11.out q
      go_wp2_with fail
      refine (tot_any R2 _ _ RN_w11.out F6.out).mono ?_
      rw [F9.out]
      rintro e w12 ⟨rfl, hb_w12⟩
      have hB_w12 : Below w.heap.size w w12 := btrans0 hB_w11 hb_w12
      have GT_w12 : Hid (w12.heap[w.heap.size]? = some (.cells #[.slice aq qs.length cq, .slice (some ⟨bb, o, none⟩) cs.length cc, .slice ab l.length cb, .slice ah hs.length ch] 29 (0, 0))) := Lib.hid ((hb_w12.block _ (by omega)).trans GT_w11.out)
      have GX_w12 : Hid (w12.heap[wr.heap.size]? = some (.cells #[.int .i64 x.fr, .int .i64 x.tt, .int .i64 x.st, .int .i64 x.en, .int .i64 x.ra, .int .i64 x.rg, .int .i64 x.lo] 35 (0, 0))) := Lib.hid ((hb_w12.block _ hz_w11).trans GX_w11.out)
      have hz_w12 : wr.heap.size < w12.heap.size := by have := hb_w12.size; omega
      clear hb_w12 ct cx hB_w11 GT_w11 GX_w11 hz_w11 
      go_wp2
      go_roundw
      case rel => exact ⟨k + 1, by omega, by go_num, GT_w12, hB_w12⟩
      case measure => simp [intOf]; omega
    · obtain rfl : k = cs.length := by omega
      go_wp2_with fail
      refine (awake45 _).mono ?_
      rintro e w99 ⟨rfl, hb99⟩
      go_wp2
      go_ret
      exact ⟨rfl, btrans0 hB hb99⟩
set_option maxRecDepth 100000 in
set_option maxHeartbeats 4000000 in
theorem lifted (os : Os) (started : os.Started) (H : Type) (enc : TypeId × Value → H) :
    ReturnsInHanded {} Tryz.checked os 3 .any (Rows.topFreeBookedSpec.pre6 enc Tryz.prog Tryz.f3 Rows.topFreeBookedRow.domain false) (Rows.topFreeBookedSpec.post enc Tryz.prog Tryz.f3 false true false false) := by
  refine returnsInHanded_of_change (C := Tryz.checked) own started (by kernel_rfl) Tryz.func3
    (ChangeSpec.witness6 (enc := enc) (C := Tryz.checked) false ⟨#[], #[.agg #[.slice none 0 0, .slice none 0 0, .slice none 0 0, .slice none 0 0]], []⟩ 8 (by kernel_rfl) (by kernel_rfl) (by kernel_rfl) (by kernel_rfl)) ?_
  intro W base args ds gs before hval0 hW hcnd _
  have hval : ∀ (j : Nat) t v, Tryz.f3.params[j]? = some t → args[j]? = some v → Value.okWide Tryz.prog W .any base t v := hval0
  have hW' := hW
  obtain ⟨p, q, hA0, hV, rfl, hfz, hnd⟩ := hW
  have hA : DataW.TrodAll enc Tryz.prog W 0 (fun _ => true) true Tryz.f3.params.toList args.toList ds p := hA0
  rw [Tryz.params3] at hA hval
  obtain ⟨v0, vs0, d0, ds0, p0, q0, hargs, rfl, rfl, h0, r0⟩ := trodAll_cons hA
  obtain ⟨rfl, rfl, rfl⟩ := trodAll_nil r0
  obtain rfl : args = #[v0] := by cases args; simp_all
  obtain ⟨uq, uc, ub, uh, qs, cs, l, hs, rfl, r1, r2, r3, r4⟩ := open_tables (hval 0 29 v0 rfl rfl) h0
  refine (walk qs cs l hs uq uc ub uh W r1 r2 r3 r4).mono fun e W' ⟨he, hB⟩ => ?_
  subst he
  refine ⟨_, rfl, law_post (by kernel_rfl) (by kernel_rfl) rfl Tryz.underlying4 rfl ?_ hW' hB⟩
  intro es hes
  match es, hes with
  | [_], _ => rfl

theorem proved : Rows.TopFreeBookedSaid :=
  OpenClaim.holds_of_wide 3 Tryz.f3 rfl rfl rfl rfl rfl rfl rfl ⟨rfl, rfl, rfl, rfl, rfl⟩ rfl rfl rfl rfl rfl (by kernel_rfl) Tryz.func3 (by kernel_rfl)
    (of_decide_eq_true (by kernel_rfl)) (by unfold Func.isWrapper; first | (rw [if_pos (by decide +kernel)]; kernel_rfl) | (rw [if_neg (by decide +kernel)]; exact ⟨rfl, rfl⟩))
    (fun os started H enc _ => lifted os started H enc)
#print axioms proved
end Go.Proofs.YtlgjnelicnaopaaGreat.topFreeBooked
