/-
  Proved: mailboattop.TopFirstFit returns true for every input, and leaves its arguments as they were. No condition.
-/
import Derived.BigQuiet
import Derived.BigRegion
import Derived.Lib.MinMax
import Derived.Test.YtkokiahmgmeokaaGreatRows
import Derived.Test.YtkokiahmgmeokaaGreatL
import Derived.Test.YtkokiahmgmeokaaGreatKfp
import Derived.Test.YtkokiahmgmeokaaGreatKfq
import Derived.Test.YtkokiahmgmeokaaGreatKfu
import Derived.Test.YtkokiahmgmeokaaGreatKfo
import Derived.Test.YtkokiahmgmeokaaGreatYuz
import Derived.Test.YtkokiahmgmeokaaGreatVdz
set_option linter.unusedVariables false
set_option linter.unusedSimpArgs false
namespace Go.Proofs.YtkokiahmgmeokaaGreat.topFirstFit
open Go Go.ChangeShapes Go.WideShapes Go.ChangeAt Go.RowKit Go.Joins Go.Proofs.YtkokiahmgmeokaaGreat
open Iv
attribute [local go_sem] B_getElem B_size B_app B_extract B_get B_toList
attribute [local go_sem] Oper.semAt_some
theorem own : ownKnob Tryz.prog.godebug = none := by kernel_rfl
set_option maxRecDepth 100000 in
set_option maxHeartbeats 32000000 in
theorem walk (qs : List Int) (cs : List Con) (l : List Bkg) (hs : List Hld) (src dst sz rd D pr : Int) (cu : Bool) (more : Int) (uq uc ub uh : Value) (w : World) (hm : 0 ≤ more ∧ more ≤ 255) (hq : RRow intC 1 w w.heap.size uq qs) (hc : RRow conC 7 w w.heap.size uc cs) (hl : RRow bkgC 4 w w.heap.size ub l) (hh : RRow hldC 5 w w.heap.size uh hs) :
    Calls Tryz.prog 3 #[.agg #[uq, uc, ub, uh], .agg #[.int .i64 src, .int .i64 dst, .int .i64 sz, .int .i64 rd, .int .i64 D, .int .i64 pr, .bool cu], .int .u8 more] w fun e w' => e = .returned (.bool true) ∧ Below w.heap.size w w' := by
  have HQ := Lib.hid hq
  have HC := Lib.hid hc
  have HL := Lib.hid hl
  have HH := Lib.hid hh
  obtain ⟨aq, cq, rfl, -⟩ := hq
  obtain ⟨ac, cc, rfl, c1, c2, c3, c4⟩ := hc
  obtain ⟨al, cl, rfl, -⟩ := hl
  obtain ⟨ah, ch, rfl, -⟩ := hh
  unfold maxLen at c2
  have HC4 := Lib.hid c4
  have wm : IntKind.i64.wrap more = more := by rw [IntKind.wrap_i64]; omega
  clear c3 c4
  go_enter Tryz.func3, Tryz.ntmps3
  go_upto_region 1 with fail
  obtain ⟨w0, hw0⟩ : ∃ q, (w.alloc (.cells #[.slice aq qs.length cq, .slice ac cs.length cc, .slice al l.length cl, .slice ah hs.length ch] 29)).alloc (.cells #[.int .i64 src, .int .i64 dst, .int .i64 sz, .int .i64 rd, .int .i64 D, .int .i64 pr, .bool cu] 31) = q := ⟨_, rfl⟩
  rw [hw0]
  have H_w0 : Hid (Below w.heap.size w w0) := Lib.hid (by rw [← hw0]; exact belowA)
  have BT_w0 : Hid (w0.heap[w.heap.size]? = some (.cells #[.slice aq qs.length cq, .slice ac cs.length cc, .slice al l.length cl, .slice ah hs.length ch] 29 (0, 0))) := Lib.hid (by rw [← hw0]; exact (Below.heap_alloc _ _ _ (by simp)).trans heap_new)
  have BR_w0 : Hid (w0.heap[w.heap.size + 1]? = some (.cells #[.int .i64 src, .int .i64 dst, .int .i64 sz, .int .i64 rd, .int .i64 D, .int .i64 pr, .bool cu] 31 (0, 0))) := Lib.hid (by rw [← hw0]; exact heap_new' (by simp))
  have zT_w0 : w.heap.size < w0.heap.size := (Array.getElem?_eq_some_iff.1 BT_w0.out).1
  have zR_w0 : w.heap.size + 1 < w0.heap.size := (Array.getElem?_eq_some_iff.1 BR_w0.out).1
  clear hw0
  have cT := fun q => cellB BT_w0.out q
  have cR := fun q => cellB BR_w0.out q
  go_wp2_with fail
  refine (great_any _ _ _ _ _ ⟨_, _, _, rfl⟩ ⟨_, _, _, rfl⟩ ⟨_, _, _, rfl⟩ ⟨_, _, _, rfl⟩).mono ?_
  rintro e w1 hr1
  obtain ⟨⟨gr, rfl⟩, hb1⟩ := hr1
  have H_w1 : Hid (Below w.heap.size w w1) := Lib.hid (btrans0 H_w0.out hb1)
  have BT_w1 : Hid (w1.heap[w.heap.size]? = some (.cells #[.slice aq qs.length cq, .slice ac cs.length cc, .slice al l.length cl, .slice ah hs.length ch] 29 (0, 0))) := Lib.hid ((hb1.block _ (Array.getElem?_eq_some_iff.1 BT_w0.out).1).trans BT_w0.out)
  have BR_w1 : Hid (w1.heap[w.heap.size + 1]? = some (.cells #[.int .i64 src, .int .i64 dst, .int .i64 sz, .int .i64 rd, .int .i64 D, .int .i64 pr, .bool cu] 31 (0, 0))) := Lib.hid ((hb1.block _ (Array.getElem?_eq_some_iff.1 BR_w0.out).1).trans BR_w0.out)
  have zT_w1 : w.heap.size < w1.heap.size := (Array.getElem?_eq_some_iff.1 BT_w1.out).1
  have zR_w1 : w.heap.size + 1 < w1.heap.size := (Array.getElem?_eq_some_iff.1 BR_w1.out).1
  clear hb1 cT cR zT_w0 zR_w0
  have cT := fun q => cellB BT_w1.out q
  have cR := fun q => cellB BR_w1.out q
  cases gr with
  | true =>
    go_wp2_with fail
    refine (awake45 _).mono ?_
    rintro e w99 ⟨rfl, hb99⟩
    go_wp2
    go_ret
    exact ⟨rfl, btrans0 H_w1.out hb99⟩
  | false =>
  go_wp2_with fail
  refine (ctab_any qs cs l hs _ _ _ _ _ (HQ.out.below' H_w1.out) (HC.out.below' H_w1.out) (HL.out.below' H_w1.out) (HH.out.below' H_w1.out)).mono ?_
  unfold CtPost
  rintro e w2 hpp
  obtain ⟨⟨r, rfl, hr, -⟩, hb2⟩ := hpp
  have H_w2 : Hid (Below w.heap.size w w2) := Lib.hid (btrans0 H_w1.out hb2)
  have BT_w2 : Hid (w2.heap[w.heap.size]? = some (.cells #[.slice aq qs.length cq, .slice ac cs.length cc, .slice al l.length cl, .slice ah hs.length ch] 29 (0, 0))) := Lib.hid ((hb2.block _ (Array.getElem?_eq_some_iff.1 BT_w1.out).1).trans BT_w1.out)
  have BR_w2 : Hid (w2.heap[w.heap.size + 1]? = some (.cells #[.int .i64 src, .int .i64 dst, .int .i64 sz, .int .i64 rd, .int .i64 D, .int .i64 pr, .bool cu] 31 (0, 0))) := Lib.hid ((hb2.block _ (Array.getElem?_eq_some_iff.1 BR_w1.out).1).trans BR_w1.out)
  have zT_w2 : w.heap.size < w2.heap.size := (Array.getElem?_eq_some_iff.1 BT_w2.out).1
  have zR_w2 : w.heap.size + 1 < w2.heap.size := (Array.getElem?_eq_some_iff.1 BR_w2.out).1
  clear hb2 cT cR zT_w1 zR_w1
  have cT := fun q => cellB BT_w2.out q
  have cR := fun q => cellB BR_w2.out q
  by_cases zr : r = 0
  case neg =>
    have d0 : (r != 0) = true := by simpa using zr
    clear zr hr
    go_wp2_with fail
    refine (awake45 _).mono ?_
    rintro e w99 ⟨rfl, hb99⟩
    go_wp2
    go_ret
    exact ⟨rfl, btrans0 H_w2.out hb99⟩
  subst zr
  have HP := Lib.hid (hr rfl).1
  have HB := Lib.hid (hr rfl).2.1
  clear hr
  go_wp2_with fail
  refine (creq_any qs cs _ _ src dst sz rd D pr cu _ (HQ.out.below' H_w2.out) (HC.out.below' H_w2.out)).mono ?_
  unfold CrPost
  rintro e w3 hpp
  obtain ⟨⟨r, rfl, hr, -⟩, hb3⟩ := hpp
  have H_w3 : Hid (Below w.heap.size w w3) := Lib.hid (btrans0 H_w2.out hb3)
  have BT_w3 : Hid (w3.heap[w.heap.size]? = some (.cells #[.slice aq qs.length cq, .slice ac cs.length cc, .slice al l.length cl, .slice ah hs.length ch] 29 (0, 0))) := Lib.hid ((hb3.block _ (Array.getElem?_eq_some_iff.1 BT_w2.out).1).trans BT_w2.out)
  have BR_w3 : Hid (w3.heap[w.heap.size + 1]? = some (.cells #[.int .i64 src, .int .i64 dst, .int .i64 sz, .int .i64 rd, .int .i64 D, .int .i64 pr, .bool cu] 31 (0, 0))) := Lib.hid ((hb3.block _ (Array.getElem?_eq_some_iff.1 BR_w2.out).1).trans BR_w2.out)
  have zT_w3 : w.heap.size < w3.heap.size := (Array.getElem?_eq_some_iff.1 BT_w3.out).1
  have zR_w3 : w.heap.size + 1 < w3.heap.size := (Array.getElem?_eq_some_iff.1 BR_w3.out).1
  clear hb3 cT cR zT_w2 zR_w2
  have cT := fun q => cellB BT_w3.out q
  have cR := fun q => cellB BR_w3.out q
  by_cases zr : r = 0
  case neg =>
    have d0 : (r != 0) = true := by simpa using zr
    clear zr hr
    go_wp2_with fail
    refine (awake45 _).mono ?_
    rintro e w99 ⟨rfl, hb99⟩
    go_wp2
    go_ret
    exact ⟨rfl, btrans0 H_w3.out hb99⟩
  subst zr
  have HR := Lib.hid (hr rfl).2
  clear hr
  obtain ⟨s, hs_⟩ := Int.eq_ofNat_of_zero_le (show 0 ≤ sz by have := HR.out.2.2.1.1; omega)
  subst hs_
  have s1 : 1 ≤ s := by have := HR.out.2.2.1.1; omega
  have s2 : s ≤ 65536 := by have := HR.out.2.2.1.2.1; omega
  have r0 : 0 ≤ rd := HR.out.2.2.1.2.2.1
  have r1 : rd ≤ D := HR.out.2.2.1.2.2.2.1
  have r2 : D ≤ 1099511627776 := HR.out.2.2.1.2.2.2.2
  have wr1 : IntKind.i64.wrap (rd + more) = rd + more := by rw [IntKind.wrap_i64]; omega
  go_wp2_with fail
  clear cT cR
  go_loopw [43] (fun i wr => ∃ k : Nat, k ≤ cs.length ∧ i = .int .i64 k ∧ Hid (wr.heap[w.heap.size]? = some (.cells #[.slice aq qs.length cq, .slice ac cs.length cc, .slice al l.length cl, .slice ah hs.length ch] 29 (0, 0))) ∧ Hid (wr.heap[w.heap.size + 1]? = some (.cells #[.int .i64 src, .int .i64 dst, .int .i64 (s : Int), .int .i64 rd, .int .i64 D, .int .i64 pr, .bool cu] 31 (0, 0))) ∧ Hid (Below w.heap.size w wr)) (fun i _ => cs.length - (intOf i).toNat)
  case atStart => exact ⟨0, Nat.zero_le _, rfl, BT_w3, BR_w3, H_w3⟩
  case round =>
    clear zT_w3 zR_w3 BT_w3 BR_w3 H_w3
    obtain ⟨k, hk, rfl, BT_wr, BR_wr, H_wr⟩ := hrel
    have zT_wr : w.heap.size < wr.heap.size := (Array.getElem?_eq_some_iff.1 BT_wr.out).1
    have zR_wr : w.heap.size + 1 < wr.heap.size := (Array.getElem?_eq_some_iff.1 BR_wr.out).1
    have cT := fun q => cellB BT_wr.out q
    have cR := fun q => cellB BR_wr.out q
    by_cases hlt : k < cs.length
    · skip
      obtain ⟨c, hcx⟩ : ∃ x, cs[k]? = some x := ⟨_, List.getElem?_eq_getElem hlt⟩
      obtain ⟨bb, o, e2, hbb, hcell⟩ := HC4.out (by omega)
      subst e2
      have p0 : wr.cell? ⟨bb, o + k * 7, none⟩ = some (.int .i64 c.fr) := (H_wr.out.cell (p := ⟨bb, o + k * 7, none⟩) hbb).trans (hcell k c hcx 0 _ rfl)
      have p1 : wr.cell? ⟨bb, o + k * 7 + 1, none⟩ = some (.int .i64 c.tt) := (H_wr.out.cell (p := ⟨bb, o + k * 7 + 1, none⟩) hbb).trans (hcell k c hcx 1 _ rfl)
      have p2 : wr.cell? ⟨bb, o + k * 7 + 2, none⟩ = some (.int .i64 c.st) := (H_wr.out.cell (p := ⟨bb, o + k * 7 + 2, none⟩) hbb).trans (hcell k c hcx 2 _ rfl)
      have p3 : wr.cell? ⟨bb, o + k * 7 + 3, none⟩ = some (.int .i64 c.en) := (H_wr.out.cell (p := ⟨bb, o + k * 7 + 3, none⟩) hbb).trans (hcell k c hcx 3 _ rfl)
      have p4 : wr.cell? ⟨bb, o + k * 7 + 4, none⟩ = some (.int .i64 c.ra) := (H_wr.out.cell (p := ⟨bb, o + k * 7 + 4, none⟩) hbb).trans (hcell k c hcx 4 _ rfl)
      have p5 : wr.cell? ⟨bb, o + k * 7 + 5, none⟩ = some (.int .i64 c.rg) := (H_wr.out.cell (p := ⟨bb, o + k * 7 + 5, none⟩) hbb).trans (hcell k c hcx 5 _ rfl)
      have p6 : wr.cell? ⟨bb, o + k * 7 + 6, none⟩ = some (.int .i64 c.lo) := (H_wr.out.cell (p := ⟨bb, o + k * 7 + 6, none⟩) hbb).trans (hcell k c hcx 6 _ rfl)
      have k0 : (0 : Int) ≤ (k : Int) := by omega
      have k1 : (k : Int) < (cs.length : Int) := by omega
      have HNC := Lib.hid hcx
      have HCK : Hid (chkCon c = 0) := Lib.hid (HP.out.2.2 k c hcx).1
      have HFB := Lib.hid (fb_facts HP.out HB.out hcx)
      have HGI := Lib.hid (gap_in HP.out HB.out hcx)
      have HGS := Lib.hid (gap_sort HP.out HB.out hcx)
      have hdb := durS_bnd (con_facts HCK.out) (by omega : 0 < s) s2
      have hcf := con_facts HCK.out
      have f0 := hcf.st0
      have f1 := hcf.en1
      have f2 := hcf.rg0
      have f3 := hcf.rg1
      obtain ⟨M, hM⟩ : ∃ q, outs c.en c.st (busyS l k) = q := ⟨_, rfl⟩
      have HM := Lib.hid hM
      obtain ⟨dn, hdn⟩ : ∃ q, durS c s = q := ⟨_, rfl⟩
      have HDN := Lib.hid hdn
      rw [hdn] at hdb
      have HGI2 : Hid (∀ x ∈ M, c.st ≤ x.1 ∧ x.1 < x.2 ∧ x.2 ≤ c.en) := Lib.hid (by rw [← hM]; exact HGI.out)
      have HGS2 : Hid (M.Pairwise (fun x y => x.1 ≤ y.1)) := Lib.hid (by rw [← hM]; exact HGS.out)
      have HCS : Hid (chkSp M = 0) := Lib.hid (by rw [← hM]; exact HFB.out.co)
      clear hcx hcell hcf hM hdn HGI HGS
      go_upto_region 6 with fail
      obtain ⟨w4, hw4⟩ : ∃ q, wr.alloc (.cells #[.int .i64 c.fr, .int .i64 c.tt, .int .i64 c.st, .int .i64 c.en, .int .i64 c.ra, .int .i64 c.rg, .int .i64 c.lo] 38) = q := ⟨_, rfl⟩
      rw [hw4]
      have hb4 : Below wr.heap.size wr w4 := by rw [← hw4]; exact balloc0 (Below.refl _ _)
      have BX_w4 : Hid (w4.heap[wr.heap.size]? = some (.cells #[.int .i64 c.fr, .int .i64 c.tt, .int .i64 c.st, .int .i64 c.en, .int .i64 c.ra, .int .i64 c.rg, .int .i64 c.lo] 38 (0, 0))) := Lib.hid (by rw [← hw4]; exact heap_new)
      clear hw4 p0 p1 p2 p3 p4 p5 p6
      have H_w4 : Hid (Below w.heap.size w w4) := Lib.hid (btrans0 H_wr.out hb4)
      have BT_w4 : Hid (w4.heap[w.heap.size]? = some (.cells #[.slice aq qs.length cq, .slice (some ⟨bb, o, none⟩) cs.length cc, .slice al l.length cl, .slice ah hs.length ch] 29 (0, 0))) := Lib.hid ((hb4.block _ (Array.getElem?_eq_some_iff.1 BT_wr.out).1).trans BT_wr.out)
      have BR_w4 : Hid (w4.heap[w.heap.size + 1]? = some (.cells #[.int .i64 src, .int .i64 dst, .int .i64 (s : Int), .int .i64 rd, .int .i64 D, .int .i64 pr, .bool cu] 31 (0, 0))) := Lib.hid ((hb4.block _ (Array.getElem?_eq_some_iff.1 BR_wr.out).1).trans BR_wr.out)
      have zT_w4 : w.heap.size < w4.heap.size := (Array.getElem?_eq_some_iff.1 BT_w4.out).1
      have zR_w4 : w.heap.size + 1 < w4.heap.size := (Array.getElem?_eq_some_iff.1 BR_w4.out).1
      clear hb4 cT cR zT_wr zR_wr
      have cT := fun q => cellB BT_w4.out q
      have cR := fun q => cellB BR_w4.out q
      have zX_w4 : wr.heap.size < w4.heap.size := (Array.getElem?_eq_some_iff.1 BX_w4.out).1
      obtain ⟨xB, hxB⟩ : ∃ q, wr.heap.size = q := ⟨_, rfl⟩
      have HXB := Lib.hid hxB
      rw [hxB] at BX_w4 zX_w4 ⊢
      clear hxB
      have cX := fun q => cellB BX_w4.out q
      go_wp2_with fail
      refine (Fit_any qs cs l k c rd s _ _ _ _ (HQ.out.below' H_w4.out) (HC.out.below' H_w4.out) (HL.out.below' H_w4.out) HP.out HB.out HNC.out HFB.out.dj HFB.out.bnd s1 s2).mono ?_
      rw [HM.out, HDN.out]
      obtain ⟨F1, hF1⟩ : ∃ q, hopG M dn rd = q := ⟨_, rfl⟩
      have HF1 := Lib.hid hF1
      rw [hF1]
      obtain ⟨A1, hA1⟩ : ∃ q, F1.getD 0 = q := ⟨_, rfl⟩
      obtain ⟨E1, hE1⟩ : ∃ q : Int, (if F1.isSome then 0 else 16) = q := ⟨_, rfl⟩
      rw [hA1, hE1]
      have HAE1 := Lib.hid (And.intro hA1 hE1)
      clear hF1 hA1 hE1
      rintro e w5 ⟨rfl, hb5⟩
      have H_w5 : Hid (Below w.heap.size w w5) := Lib.hid (btrans0 H_w4.out hb5)
      have BT_w5 : Hid (w5.heap[w.heap.size]? = some (.cells #[.slice aq qs.length cq, .slice (some ⟨bb, o, none⟩) cs.length cc, .slice al l.length cl, .slice ah hs.length ch] 29 (0, 0))) := Lib.hid ((hb5.block _ (Array.getElem?_eq_some_iff.1 BT_w4.out).1).trans BT_w4.out)
      have BR_w5 : Hid (w5.heap[w.heap.size + 1]? = some (.cells #[.int .i64 src, .int .i64 dst, .int .i64 (s : Int), .int .i64 rd, .int .i64 D, .int .i64 pr, .bool cu] 31 (0, 0))) := Lib.hid ((hb5.block _ (Array.getElem?_eq_some_iff.1 BR_w4.out).1).trans BR_w4.out)
      have BX_w5 : Hid (w5.heap[xB]? = some (.cells #[.int .i64 c.fr, .int .i64 c.tt, .int .i64 c.st, .int .i64 c.en, .int .i64 c.ra, .int .i64 c.rg, .int .i64 c.lo] 38 (0, 0))) := Lib.hid ((hb5.block _ (Array.getElem?_eq_some_iff.1 BX_w4.out).1).trans BX_w4.out)
      have zT_w5 : w.heap.size < w5.heap.size := (Array.getElem?_eq_some_iff.1 BT_w5.out).1
      have zR_w5 : w.heap.size + 1 < w5.heap.size := (Array.getElem?_eq_some_iff.1 BR_w5.out).1
      have zX_w5 : xB < w5.heap.size := (Array.getElem?_eq_some_iff.1 BX_w5.out).1
      clear hb5 cT cR cX zT_w4 zR_w4 zX_w4
      have cT := fun q => cellB BT_w5.out q
      have cR := fun q => cellB BR_w5.out q
      have cX := fun q => cellB BX_w5.out q
      go_wp2_with fail
      refine (Fit_any qs cs l k c (rd + more) s _ _ _ _ (HQ.out.below' H_w5.out) (HC.out.below' H_w5.out) (HL.out.below' H_w5.out) HP.out HB.out HNC.out HFB.out.dj HFB.out.bnd s1 s2).mono ?_
      rw [HM.out, HDN.out]
      obtain ⟨F2, hF2⟩ : ∃ q, hopG M dn (rd + more) = q := ⟨_, rfl⟩
      have HF2 := Lib.hid hF2
      rw [hF2]
      obtain ⟨A2, hA2⟩ : ∃ q, F2.getD 0 = q := ⟨_, rfl⟩
      obtain ⟨E2, hE2⟩ : ∃ q : Int, (if F2.isSome then 0 else 16) = q := ⟨_, rfl⟩
      rw [hA2, hE2]
      have HAE2 := Lib.hid (And.intro hA2 hE2)
      clear hF2 hA2 hE2
      rintro e w6 ⟨rfl, hb6⟩
      have H_w6 : Hid (Below w.heap.size w w6) := Lib.hid (btrans0 H_w5.out hb6)
      have BT_w6 : Hid (w6.heap[w.heap.size]? = some (.cells #[.slice aq qs.length cq, .slice (some ⟨bb, o, none⟩) cs.length cc, .slice al l.length cl, .slice ah hs.length ch] 29 (0, 0))) := Lib.hid ((hb6.block _ (Array.getElem?_eq_some_iff.1 BT_w5.out).1).trans BT_w5.out)
      have BR_w6 : Hid (w6.heap[w.heap.size + 1]? = some (.cells #[.int .i64 src, .int .i64 dst, .int .i64 (s : Int), .int .i64 rd, .int .i64 D, .int .i64 pr, .bool cu] 31 (0, 0))) := Lib.hid ((hb6.block _ (Array.getElem?_eq_some_iff.1 BR_w5.out).1).trans BR_w5.out)
      have BX_w6 : Hid (w6.heap[xB]? = some (.cells #[.int .i64 c.fr, .int .i64 c.tt, .int .i64 c.st, .int .i64 c.en, .int .i64 c.ra, .int .i64 c.rg, .int .i64 c.lo] 38 (0, 0))) := Lib.hid ((hb6.block _ (Array.getElem?_eq_some_iff.1 BX_w5.out).1).trans BX_w5.out)
      have zT_w6 : w.heap.size < w6.heap.size := (Array.getElem?_eq_some_iff.1 BT_w6.out).1
      have zR_w6 : w.heap.size + 1 < w6.heap.size := (Array.getElem?_eq_some_iff.1 BR_w6.out).1
      have zX_w6 : xB < w6.heap.size := (Array.getElem?_eq_some_iff.1 BX_w6.out).1
      clear hb6 cT cR cX zT_w5 zR_w5 zX_w5
      have cT := fun q => cellB BT_w6.out q
      have cR := fun q => cellB BR_w6.out q
      have cX := fun q => cellB BX_w6.out q
      cases F1 with
      | none =>
        have hn2 : F2 = none := by
          cases F2 with
          | none => rfl
          | some b => obtain ⟨b1, h1, _⟩ := hopG_mono (show rd ≤ rd + more by omega) HGS2.out HF2.out; rw [HF1.out] at h1; cases h1
        subst hn2
        obtain ⟨e1, e2⟩ := HAE1.out
        obtain ⟨e3, e4⟩ := HAE2.out
        simp only [Option.getD_none, Option.isSome_none, Bool.false_eq_true, if_false] at e1 e2 e3 e4
        subst e1 e2 e3 e4
        go_wp2
        go_roundw
        case rel => exact ⟨k + 1, by omega, by go_num, BT_w6, BR_w6, H_w6⟩
        case measure => simp [intOf]; omega
      | some a =>
      obtain ⟨e1, e2⟩ := HAE1.out
      simp only [Option.getD_some, Option.isSome_some, if_true] at e1 e2
      subst e1 e2
      clear HAE1
      have HA : Hid (c.st ≤ a ∧ rd ≤ a ∧ a + dn ≤ c.en ∧ M.any (covB (a, a + dn)) = true) := Lib.hid (by
        obtain ⟨x, hx, e1, e2⟩ := hopG_some HF1.out
        have h1 := HGI2.out x hx
        refine ⟨by omega, by omega, by omega, ?_⟩
        rw [List.any_eq_true]
        refine ⟨x, hx, ?_⟩
        unfold covB
        simp only [Bool.and_eq_true, decide_eq_true_eq]
        omega)
      have ha1 := HA.out.1
      have ha3 := HA.out.2.2.1
      have HF2b : Hid (∀ b, F2 = some b → a ≤ b) := Lib.hid (fun b e => by
        obtain ⟨b1, h1, h2⟩ := hopG_mono (show rd ≤ rd + more by omega) HGS2.out (HF2.out.trans e)
        rw [HF1.out] at h1
        injection h1 with h1
        omega)
      have dst_ : decide (a < c.st) = false := decide_eq_false (by omega)
      have dst2 : ¬ a < c.st := by omega
      have waa : IntKind.i64.wrap (a + dn - a) = dn := by rw [IntKind.wrap_i64]; omega
      have daa : (a != a) = false := by simp
      clear HF2
      cases F2 with
      | none =>
        obtain ⟨e3, e4⟩ := HAE2.out
        simp only [Option.getD_none, Option.isSome_none, Bool.false_eq_true, if_false] at e3 e4
        subst e3 e4
        clear HAE2
        go_wp2_with fail
        refine (Hop_ok qs cs k c a s _ _ src dst rd D pr cu _ (HQ.out.below' H_w6.out) (HC.out.below' H_w6.out) HP.out HR.out HNC.out s1 s2 ha1 (by omega) (by rw [HDN.out]; exact ha3)).mono ?_
        rw [HDN.out]
        rintro e w7 ⟨rfl, hb7⟩
        have H_w7 : Hid (Below w.heap.size w w7) := Lib.hid (btrans0 H_w6.out hb7)
        have BT_w7 : Hid (w7.heap[w.heap.size]? = some (.cells #[.slice aq qs.length cq, .slice (some ⟨bb, o, none⟩) cs.length cc, .slice al l.length cl, .slice ah hs.length ch] 29 (0, 0))) := Lib.hid ((hb7.block _ (Array.getElem?_eq_some_iff.1 BT_w6.out).1).trans BT_w6.out)
        have BR_w7 : Hid (w7.heap[w.heap.size + 1]? = some (.cells #[.int .i64 src, .int .i64 dst, .int .i64 (s : Int), .int .i64 rd, .int .i64 D, .int .i64 pr, .bool cu] 31 (0, 0))) := Lib.hid ((hb7.block _ (Array.getElem?_eq_some_iff.1 BR_w6.out).1).trans BR_w6.out)
        have BX_w7 : Hid (w7.heap[xB]? = some (.cells #[.int .i64 c.fr, .int .i64 c.tt, .int .i64 c.st, .int .i64 c.en, .int .i64 c.ra, .int .i64 c.rg, .int .i64 c.lo] 38 (0, 0))) := Lib.hid ((hb7.block _ (Array.getElem?_eq_some_iff.1 BX_w6.out).1).trans BX_w6.out)
        have zT_w7 : w.heap.size < w7.heap.size := (Array.getElem?_eq_some_iff.1 BT_w7.out).1
        have zR_w7 : w.heap.size + 1 < w7.heap.size := (Array.getElem?_eq_some_iff.1 BR_w7.out).1
        have zX_w7 : xB < w7.heap.size := (Array.getElem?_eq_some_iff.1 BX_w7.out).1
        clear hb7 cT cR cX zT_w6 zR_w6 zX_w6
        have cT := fun q => cellB BT_w7.out q
        have cR := fun q => cellB BR_w7.out q
        have cX := fun q => cellB BX_w7.out q
        go_upto_region 12 with fail
        obtain ⟨w8, hw8⟩ : ∃ q, w7.alloc (.cells #[.int .i64 (k : Int), .int .i64 a, .int .i64 (a + dn), .int .i64 (a + dn + c.rg)] 42) = q := ⟨_, rfl⟩
        rw [hw8]
        have hb8 : Below w7.heap.size w7 w8 := by rw [← hw8]; exact balloc0 (Below.refl _ _)
        have BH_w8 : Hid (w8.heap[w7.heap.size]? = some (.cells #[.int .i64 (k : Int), .int .i64 a, .int .i64 (a + dn), .int .i64 (a + dn + c.rg)] 42 (0, 0))) := Lib.hid (by rw [← hw8]; exact heap_new)
        clear hw8
        have H_w8 : Hid (Below w.heap.size w w8) := Lib.hid (btrans0 H_w7.out hb8)
        have BT_w8 : Hid (w8.heap[w.heap.size]? = some (.cells #[.slice aq qs.length cq, .slice (some ⟨bb, o, none⟩) cs.length cc, .slice al l.length cl, .slice ah hs.length ch] 29 (0, 0))) := Lib.hid ((hb8.block _ (Array.getElem?_eq_some_iff.1 BT_w7.out).1).trans BT_w7.out)
        have BR_w8 : Hid (w8.heap[w.heap.size + 1]? = some (.cells #[.int .i64 src, .int .i64 dst, .int .i64 (s : Int), .int .i64 rd, .int .i64 D, .int .i64 pr, .bool cu] 31 (0, 0))) := Lib.hid ((hb8.block _ (Array.getElem?_eq_some_iff.1 BR_w7.out).1).trans BR_w7.out)
        have BX_w8 : Hid (w8.heap[xB]? = some (.cells #[.int .i64 c.fr, .int .i64 c.tt, .int .i64 c.st, .int .i64 c.en, .int .i64 c.ra, .int .i64 c.rg, .int .i64 c.lo] 38 (0, 0))) := Lib.hid ((hb8.block _ (Array.getElem?_eq_some_iff.1 BX_w7.out).1).trans BX_w7.out)
        have zT_w8 : w.heap.size < w8.heap.size := (Array.getElem?_eq_some_iff.1 BT_w8.out).1
        have zR_w8 : w.heap.size + 1 < w8.heap.size := (Array.getElem?_eq_some_iff.1 BR_w8.out).1
        have zX_w8 : xB < w8.heap.size := (Array.getElem?_eq_some_iff.1 BX_w8.out).1
        clear hb8 cT cR cX zT_w7 zR_w7 zX_w7
        have cT := fun q => cellB BT_w8.out q
        have cR := fun q => cellB BR_w8.out q
        have cX := fun q => cellB BX_w8.out q
        have zH_w8 : w7.heap.size < w8.heap.size := (Array.getElem?_eq_some_iff.1 BH_w8.out).1
        obtain ⟨hB, hhB⟩ : ∃ q, w7.heap.size = q := ⟨_, rfl⟩
        rw [hhB] at BH_w8 zH_w8 ⊢
        clear hhB
        have cH := fun q => cellB BH_w8.out q
        go_wp2_with fail
        refine (Free_any qs cs l k c _ _ _ _ (HQ.out.below' H_w8.out) (HC.out.below' H_w8.out) (HL.out.below' H_w8.out) HP.out HB.out HNC.out HFB.out.dj).mono ?_
        rw [HM.out]
        rintro e w9 hr
        obtain ⟨uf, rfl, hrf, -, hb9⟩ := hr
        simp only at hrf
        have RF := Lib.hid hrf
        obtain ⟨af, cf, rfl, -⟩ := id hrf
        clear hrf
        have H_w9 : Hid (Below w.heap.size w w9) := Lib.hid (btrans0 H_w8.out hb9)
        have BT_w9 : Hid (w9.heap[w.heap.size]? = some (.cells #[.slice aq qs.length cq, .slice (some ⟨bb, o, none⟩) cs.length cc, .slice al l.length cl, .slice ah hs.length ch] 29 (0, 0))) := Lib.hid ((hb9.block _ (Array.getElem?_eq_some_iff.1 BT_w8.out).1).trans BT_w8.out)
        have BR_w9 : Hid (w9.heap[w.heap.size + 1]? = some (.cells #[.int .i64 src, .int .i64 dst, .int .i64 (s : Int), .int .i64 rd, .int .i64 D, .int .i64 pr, .bool cu] 31 (0, 0))) := Lib.hid ((hb9.block _ (Array.getElem?_eq_some_iff.1 BR_w8.out).1).trans BR_w8.out)
        have BX_w9 : Hid (w9.heap[xB]? = some (.cells #[.int .i64 c.fr, .int .i64 c.tt, .int .i64 c.st, .int .i64 c.en, .int .i64 c.ra, .int .i64 c.rg, .int .i64 c.lo] 38 (0, 0))) := Lib.hid ((hb9.block _ (Array.getElem?_eq_some_iff.1 BX_w8.out).1).trans BX_w8.out)
        have BH_w9 : Hid (w9.heap[hB]? = some (.cells #[.int .i64 (k : Int), .int .i64 a, .int .i64 (a + dn), .int .i64 (a + dn + c.rg)] 42 (0, 0))) := Lib.hid ((hb9.block _ (Array.getElem?_eq_some_iff.1 BH_w8.out).1).trans BH_w8.out)
        have zT_w9 : w.heap.size < w9.heap.size := (Array.getElem?_eq_some_iff.1 BT_w9.out).1
        have zR_w9 : w.heap.size + 1 < w9.heap.size := (Array.getElem?_eq_some_iff.1 BR_w9.out).1
        have zX_w9 : xB < w9.heap.size := (Array.getElem?_eq_some_iff.1 BX_w9.out).1
        have zH_w9 : hB < w9.heap.size := (Array.getElem?_eq_some_iff.1 BH_w9.out).1
        clear hb9 cT cR cX cH zT_w8 zR_w8 zX_w8 zH_w8
        have cT := fun q => cellB BT_w9.out q
        have cR := fun q => cellB BR_w9.out q
        have cX := fun q => cellB BX_w9.out q
        have cH := fun q => cellB BH_w9.out q
        go_wp2_with fail
        refine (covers_any M _ (a, a + dn) _ RF.out HCS.out (by unfold vSp; simp; omega)).mono ?_
        rw [HA.out.2.2.2]
        rintro e w10 ⟨rfl, hb10⟩
        have RF10 := Lib.hid (RF.out.below' hb10)
        have H_w10 : Hid (Below w.heap.size w w10) := Lib.hid (btrans0 H_w9.out hb10)
        have BT_w10 : Hid (w10.heap[w.heap.size]? = some (.cells #[.slice aq qs.length cq, .slice (some ⟨bb, o, none⟩) cs.length cc, .slice al l.length cl, .slice ah hs.length ch] 29 (0, 0))) := Lib.hid ((hb10.block _ (Array.getElem?_eq_some_iff.1 BT_w9.out).1).trans BT_w9.out)
        have BR_w10 : Hid (w10.heap[w.heap.size + 1]? = some (.cells #[.int .i64 src, .int .i64 dst, .int .i64 (s : Int), .int .i64 rd, .int .i64 D, .int .i64 pr, .bool cu] 31 (0, 0))) := Lib.hid ((hb10.block _ (Array.getElem?_eq_some_iff.1 BR_w9.out).1).trans BR_w9.out)
        have BX_w10 : Hid (w10.heap[xB]? = some (.cells #[.int .i64 c.fr, .int .i64 c.tt, .int .i64 c.st, .int .i64 c.en, .int .i64 c.ra, .int .i64 c.rg, .int .i64 c.lo] 38 (0, 0))) := Lib.hid ((hb10.block _ (Array.getElem?_eq_some_iff.1 BX_w9.out).1).trans BX_w9.out)
        have BH_w10 : Hid (w10.heap[hB]? = some (.cells #[.int .i64 (k : Int), .int .i64 a, .int .i64 (a + dn), .int .i64 (a + dn + c.rg)] 42 (0, 0))) := Lib.hid ((hb10.block _ (Array.getElem?_eq_some_iff.1 BH_w9.out).1).trans BH_w9.out)
        have zT_w10 : w.heap.size < w10.heap.size := (Array.getElem?_eq_some_iff.1 BT_w10.out).1
        have zR_w10 : w.heap.size + 1 < w10.heap.size := (Array.getElem?_eq_some_iff.1 BR_w10.out).1
        have zX_w10 : xB < w10.heap.size := (Array.getElem?_eq_some_iff.1 BX_w10.out).1
        have zH_w10 : hB < w10.heap.size := (Array.getElem?_eq_some_iff.1 BH_w10.out).1
        clear hb10 cT cR cX cH zT_w9 zR_w9 zX_w9 zH_w9
        have cT := fun q => cellB BT_w10.out q
        have cR := fun q => cellB BR_w10.out q
        have cX := fun q => cellB BX_w10.out q
        have cH := fun q => cellB BH_w10.out q
        go_wp2_with fail
        refine (first_any M _ rd dn _ RF10.out HCS.out (fun x hx => by have := HGI2.out x hx; unfold spOK; omega) r0 (by omega) hdb.1 (by omega)).mono ?_
        rw [HF1.out]
        rintro e w11 ⟨rfl, hb11⟩
        have H_w11 : Hid (Below w.heap.size w w11) := Lib.hid (btrans0 H_w10.out hb11)
        have BT_w11 : Hid (w11.heap[w.heap.size]? = some (.cells #[.slice aq qs.length cq, .slice (some ⟨bb, o, none⟩) cs.length cc, .slice al l.length cl, .slice ah hs.length ch] 29 (0, 0))) := Lib.hid ((hb11.block _ (Array.getElem?_eq_some_iff.1 BT_w10.out).1).trans BT_w10.out)
        have BR_w11 : Hid (w11.heap[w.heap.size + 1]? = some (.cells #[.int .i64 src, .int .i64 dst, .int .i64 (s : Int), .int .i64 rd, .int .i64 D, .int .i64 pr, .bool cu] 31 (0, 0))) := Lib.hid ((hb11.block _ (Array.getElem?_eq_some_iff.1 BR_w10.out).1).trans BR_w10.out)
        have BX_w11 : Hid (w11.heap[xB]? = some (.cells #[.int .i64 c.fr, .int .i64 c.tt, .int .i64 c.st, .int .i64 c.en, .int .i64 c.ra, .int .i64 c.rg, .int .i64 c.lo] 38 (0, 0))) := Lib.hid ((hb11.block _ (Array.getElem?_eq_some_iff.1 BX_w10.out).1).trans BX_w10.out)
        have BH_w11 : Hid (w11.heap[hB]? = some (.cells #[.int .i64 (k : Int), .int .i64 a, .int .i64 (a + dn), .int .i64 (a + dn + c.rg)] 42 (0, 0))) := Lib.hid ((hb11.block _ (Array.getElem?_eq_some_iff.1 BH_w10.out).1).trans BH_w10.out)
        have zT_w11 : w.heap.size < w11.heap.size := (Array.getElem?_eq_some_iff.1 BT_w11.out).1
        have zR_w11 : w.heap.size + 1 < w11.heap.size := (Array.getElem?_eq_some_iff.1 BR_w11.out).1
        have zX_w11 : xB < w11.heap.size := (Array.getElem?_eq_some_iff.1 BX_w11.out).1
        have zH_w11 : hB < w11.heap.size := (Array.getElem?_eq_some_iff.1 BH_w11.out).1
        clear hb11 cT cR cX cH zT_w10 zR_w10 zX_w10 zH_w10
        have cT := fun q => cellB BT_w11.out q
        have cR := fun q => cellB BR_w11.out q
        have cX := fun q => cellB BX_w11.out q
        have cH := fun q => cellB BH_w11.out q
        go_wp2
        go_roundw
        case rel => exact ⟨k + 1, by omega, by go_num, BT_w11, BR_w11, H_w11⟩
        case measure => simp [intOf]; omega
      | some b =>
        obtain ⟨e3, e4⟩ := HAE2.out
        simp only [Option.getD_some, Option.isSome_some, if_true] at e3 e4
        subst e3 e4
        clear HAE2
        have hab := HF2b.out b rfl
        have dba : decide (b < a) = false := decide_eq_false (by omega)
        have dba2 : ¬ b < a := by omega
        clear hab
        go_wp2_with fail
        refine (Hop_ok qs cs k c a s _ _ src dst rd D pr cu _ (HQ.out.below' H_w6.out) (HC.out.below' H_w6.out) HP.out HR.out HNC.out s1 s2 ha1 (by omega) (by rw [HDN.out]; exact ha3)).mono ?_
        rw [HDN.out]
        rintro e w7 ⟨rfl, hb7⟩
        have H_w7 : Hid (Below w.heap.size w w7) := Lib.hid (btrans0 H_w6.out hb7)
        have BT_w7 : Hid (w7.heap[w.heap.size]? = some (.cells #[.slice aq qs.length cq, .slice (some ⟨bb, o, none⟩) cs.length cc, .slice al l.length cl, .slice ah hs.length ch] 29 (0, 0))) := Lib.hid ((hb7.block _ (Array.getElem?_eq_some_iff.1 BT_w6.out).1).trans BT_w6.out)
        have BR_w7 : Hid (w7.heap[w.heap.size + 1]? = some (.cells #[.int .i64 src, .int .i64 dst, .int .i64 (s : Int), .int .i64 rd, .int .i64 D, .int .i64 pr, .bool cu] 31 (0, 0))) := Lib.hid ((hb7.block _ (Array.getElem?_eq_some_iff.1 BR_w6.out).1).trans BR_w6.out)
        have BX_w7 : Hid (w7.heap[xB]? = some (.cells #[.int .i64 c.fr, .int .i64 c.tt, .int .i64 c.st, .int .i64 c.en, .int .i64 c.ra, .int .i64 c.rg, .int .i64 c.lo] 38 (0, 0))) := Lib.hid ((hb7.block _ (Array.getElem?_eq_some_iff.1 BX_w6.out).1).trans BX_w6.out)
        have zT_w7 : w.heap.size < w7.heap.size := (Array.getElem?_eq_some_iff.1 BT_w7.out).1
        have zR_w7 : w.heap.size + 1 < w7.heap.size := (Array.getElem?_eq_some_iff.1 BR_w7.out).1
        have zX_w7 : xB < w7.heap.size := (Array.getElem?_eq_some_iff.1 BX_w7.out).1
        clear hb7 cT cR cX zT_w6 zR_w6 zX_w6
        have cT := fun q => cellB BT_w7.out q
        have cR := fun q => cellB BR_w7.out q
        have cX := fun q => cellB BX_w7.out q
        go_upto_region 12 with fail
        obtain ⟨w8, hw8⟩ : ∃ q, w7.alloc (.cells #[.int .i64 (k : Int), .int .i64 a, .int .i64 (a + dn), .int .i64 (a + dn + c.rg)] 42) = q := ⟨_, rfl⟩
        rw [hw8]
        have hb8 : Below w7.heap.size w7 w8 := by rw [← hw8]; exact balloc0 (Below.refl _ _)
        have BH_w8 : Hid (w8.heap[w7.heap.size]? = some (.cells #[.int .i64 (k : Int), .int .i64 a, .int .i64 (a + dn), .int .i64 (a + dn + c.rg)] 42 (0, 0))) := Lib.hid (by rw [← hw8]; exact heap_new)
        clear hw8
        have H_w8 : Hid (Below w.heap.size w w8) := Lib.hid (btrans0 H_w7.out hb8)
        have BT_w8 : Hid (w8.heap[w.heap.size]? = some (.cells #[.slice aq qs.length cq, .slice (some ⟨bb, o, none⟩) cs.length cc, .slice al l.length cl, .slice ah hs.length ch] 29 (0, 0))) := Lib.hid ((hb8.block _ (Array.getElem?_eq_some_iff.1 BT_w7.out).1).trans BT_w7.out)
        have BR_w8 : Hid (w8.heap[w.heap.size + 1]? = some (.cells #[.int .i64 src, .int .i64 dst, .int .i64 (s : Int), .int .i64 rd, .int .i64 D, .int .i64 pr, .bool cu] 31 (0, 0))) := Lib.hid ((hb8.block _ (Array.getElem?_eq_some_iff.1 BR_w7.out).1).trans BR_w7.out)
        have BX_w8 : Hid (w8.heap[xB]? = some (.cells #[.int .i64 c.fr, .int .i64 c.tt, .int .i64 c.st, .int .i64 c.en, .int .i64 c.ra, .int .i64 c.rg, .int .i64 c.lo] 38 (0, 0))) := Lib.hid ((hb8.block _ (Array.getElem?_eq_some_iff.1 BX_w7.out).1).trans BX_w7.out)
        have zT_w8 : w.heap.size < w8.heap.size := (Array.getElem?_eq_some_iff.1 BT_w8.out).1
        have zR_w8 : w.heap.size + 1 < w8.heap.size := (Array.getElem?_eq_some_iff.1 BR_w8.out).1
        have zX_w8 : xB < w8.heap.size := (Array.getElem?_eq_some_iff.1 BX_w8.out).1
        clear hb8 cT cR cX zT_w7 zR_w7 zX_w7
        have cT := fun q => cellB BT_w8.out q
        have cR := fun q => cellB BR_w8.out q
        have cX := fun q => cellB BX_w8.out q
        have zH_w8 : w7.heap.size < w8.heap.size := (Array.getElem?_eq_some_iff.1 BH_w8.out).1
        obtain ⟨hB, hhB⟩ : ∃ q, w7.heap.size = q := ⟨_, rfl⟩
        rw [hhB] at BH_w8 zH_w8 ⊢
        clear hhB
        have cH := fun q => cellB BH_w8.out q
        go_wp2_with fail
        refine (Free_any qs cs l k c _ _ _ _ (HQ.out.below' H_w8.out) (HC.out.below' H_w8.out) (HL.out.below' H_w8.out) HP.out HB.out HNC.out HFB.out.dj).mono ?_
        rw [HM.out]
        rintro e w9 hr
        obtain ⟨uf, rfl, hrf, -, hb9⟩ := hr
        simp only at hrf
        have RF := Lib.hid hrf
        obtain ⟨af, cf, rfl, -⟩ := id hrf
        clear hrf
        have H_w9 : Hid (Below w.heap.size w w9) := Lib.hid (btrans0 H_w8.out hb9)
        have BT_w9 : Hid (w9.heap[w.heap.size]? = some (.cells #[.slice aq qs.length cq, .slice (some ⟨bb, o, none⟩) cs.length cc, .slice al l.length cl, .slice ah hs.length ch] 29 (0, 0))) := Lib.hid ((hb9.block _ (Array.getElem?_eq_some_iff.1 BT_w8.out).1).trans BT_w8.out)
        have BR_w9 : Hid (w9.heap[w.heap.size + 1]? = some (.cells #[.int .i64 src, .int .i64 dst, .int .i64 (s : Int), .int .i64 rd, .int .i64 D, .int .i64 pr, .bool cu] 31 (0, 0))) := Lib.hid ((hb9.block _ (Array.getElem?_eq_some_iff.1 BR_w8.out).1).trans BR_w8.out)
        have BX_w9 : Hid (w9.heap[xB]? = some (.cells #[.int .i64 c.fr, .int .i64 c.tt, .int .i64 c.st, .int .i64 c.en, .int .i64 c.ra, .int .i64 c.rg, .int .i64 c.lo] 38 (0, 0))) := Lib.hid ((hb9.block _ (Array.getElem?_eq_some_iff.1 BX_w8.out).1).trans BX_w8.out)
        have BH_w9 : Hid (w9.heap[hB]? = some (.cells #[.int .i64 (k : Int), .int .i64 a, .int .i64 (a + dn), .int .i64 (a + dn + c.rg)] 42 (0, 0))) := Lib.hid ((hb9.block _ (Array.getElem?_eq_some_iff.1 BH_w8.out).1).trans BH_w8.out)
        have zT_w9 : w.heap.size < w9.heap.size := (Array.getElem?_eq_some_iff.1 BT_w9.out).1
        have zR_w9 : w.heap.size + 1 < w9.heap.size := (Array.getElem?_eq_some_iff.1 BR_w9.out).1
        have zX_w9 : xB < w9.heap.size := (Array.getElem?_eq_some_iff.1 BX_w9.out).1
        have zH_w9 : hB < w9.heap.size := (Array.getElem?_eq_some_iff.1 BH_w9.out).1
        clear hb9 cT cR cX cH zT_w8 zR_w8 zX_w8 zH_w8
        have cT := fun q => cellB BT_w9.out q
        have cR := fun q => cellB BR_w9.out q
        have cX := fun q => cellB BX_w9.out q
        have cH := fun q => cellB BH_w9.out q
        go_wp2_with fail
        refine (covers_any M _ (a, a + dn) _ RF.out HCS.out (by unfold vSp; simp; omega)).mono ?_
        rw [HA.out.2.2.2]
        rintro e w10 ⟨rfl, hb10⟩
        have RF10 := Lib.hid (RF.out.below' hb10)
        have H_w10 : Hid (Below w.heap.size w w10) := Lib.hid (btrans0 H_w9.out hb10)
        have BT_w10 : Hid (w10.heap[w.heap.size]? = some (.cells #[.slice aq qs.length cq, .slice (some ⟨bb, o, none⟩) cs.length cc, .slice al l.length cl, .slice ah hs.length ch] 29 (0, 0))) := Lib.hid ((hb10.block _ (Array.getElem?_eq_some_iff.1 BT_w9.out).1).trans BT_w9.out)
        have BR_w10 : Hid (w10.heap[w.heap.size + 1]? = some (.cells #[.int .i64 src, .int .i64 dst, .int .i64 (s : Int), .int .i64 rd, .int .i64 D, .int .i64 pr, .bool cu] 31 (0, 0))) := Lib.hid ((hb10.block _ (Array.getElem?_eq_some_iff.1 BR_w9.out).1).trans BR_w9.out)
        have BX_w10 : Hid (w10.heap[xB]? = some (.cells #[.int .i64 c.fr, .int .i64 c.tt, .int .i64 c.st, .int .i64 c.en, .int .i64 c.ra, .int .i64 c.rg, .int .i64 c.lo] 38 (0, 0))) := Lib.hid ((hb10.block _ (Array.getElem?_eq_some_iff.1 BX_w9.out).1).trans BX_w9.out)
        have BH_w10 : Hid (w10.heap[hB]? = some (.cells #[.int .i64 (k : Int), .int .i64 a, .int .i64 (a + dn), .int .i64 (a + dn + c.rg)] 42 (0, 0))) := Lib.hid ((hb10.block _ (Array.getElem?_eq_some_iff.1 BH_w9.out).1).trans BH_w9.out)
        have zT_w10 : w.heap.size < w10.heap.size := (Array.getElem?_eq_some_iff.1 BT_w10.out).1
        have zR_w10 : w.heap.size + 1 < w10.heap.size := (Array.getElem?_eq_some_iff.1 BR_w10.out).1
        have zX_w10 : xB < w10.heap.size := (Array.getElem?_eq_some_iff.1 BX_w10.out).1
        have zH_w10 : hB < w10.heap.size := (Array.getElem?_eq_some_iff.1 BH_w10.out).1
        clear hb10 cT cR cX cH zT_w9 zR_w9 zX_w9 zH_w9
        have cT := fun q => cellB BT_w10.out q
        have cR := fun q => cellB BR_w10.out q
        have cX := fun q => cellB BX_w10.out q
        have cH := fun q => cellB BH_w10.out q
        go_wp2_with fail
        refine (first_any M _ rd dn _ RF10.out HCS.out (fun x hx => by have := HGI2.out x hx; unfold spOK; omega) r0 (by omega) hdb.1 (by omega)).mono ?_
        rw [HF1.out]
        rintro e w11 ⟨rfl, hb11⟩
        have H_w11 : Hid (Below w.heap.size w w11) := Lib.hid (btrans0 H_w10.out hb11)
        have BT_w11 : Hid (w11.heap[w.heap.size]? = some (.cells #[.slice aq qs.length cq, .slice (some ⟨bb, o, none⟩) cs.length cc, .slice al l.length cl, .slice ah hs.length ch] 29 (0, 0))) := Lib.hid ((hb11.block _ (Array.getElem?_eq_some_iff.1 BT_w10.out).1).trans BT_w10.out)
        have BR_w11 : Hid (w11.heap[w.heap.size + 1]? = some (.cells #[.int .i64 src, .int .i64 dst, .int .i64 (s : Int), .int .i64 rd, .int .i64 D, .int .i64 pr, .bool cu] 31 (0, 0))) := Lib.hid ((hb11.block _ (Array.getElem?_eq_some_iff.1 BR_w10.out).1).trans BR_w10.out)
        have BX_w11 : Hid (w11.heap[xB]? = some (.cells #[.int .i64 c.fr, .int .i64 c.tt, .int .i64 c.st, .int .i64 c.en, .int .i64 c.ra, .int .i64 c.rg, .int .i64 c.lo] 38 (0, 0))) := Lib.hid ((hb11.block _ (Array.getElem?_eq_some_iff.1 BX_w10.out).1).trans BX_w10.out)
        have BH_w11 : Hid (w11.heap[hB]? = some (.cells #[.int .i64 (k : Int), .int .i64 a, .int .i64 (a + dn), .int .i64 (a + dn + c.rg)] 42 (0, 0))) := Lib.hid ((hb11.block _ (Array.getElem?_eq_some_iff.1 BH_w10.out).1).trans BH_w10.out)
        have zT_w11 : w.heap.size < w11.heap.size := (Array.getElem?_eq_some_iff.1 BT_w11.out).1
        have zR_w11 : w.heap.size + 1 < w11.heap.size := (Array.getElem?_eq_some_iff.1 BR_w11.out).1
        have zX_w11 : xB < w11.heap.size := (Array.getElem?_eq_some_iff.1 BX_w11.out).1
        have zH_w11 : hB < w11.heap.size := (Array.getElem?_eq_some_iff.1 BH_w11.out).1
        clear hb11 cT cR cX cH zT_w10 zR_w10 zX_w10 zH_w10
        have cT := fun q => cellB BT_w11.out q
        have cR := fun q => cellB BR_w11.out q
        have cX := fun q => cellB BX_w11.out q
        have cH := fun q => cellB BH_w11.out q
        go_wp2
        go_roundw
        case rel => exact ⟨k + 1, by omega, by go_num, BT_w11, BR_w11, H_w11⟩
        case measure => simp [intOf]; omega
    · obtain rfl : k = cs.length := by omega
      go_wp2_with fail
      refine (Arrival_any qs cs l hs src dst s rd D pr cu _ _ _ _ _ (HQ.out.below' H_wr.out) (HC.out.below' H_wr.out) (HL.out.below' H_wr.out) (HH.out.below' H_wr.out) HP.out HB.out HR.out).mono ?_
      unfold ArrPost
      rintro e w4 hpp
      obtain ⟨⟨x, f, rfl, hA1⟩, hb4⟩ := hpp
      have HA1 := Lib.hid hA1
      clear hA1
      have H_w4 : Hid (Below w.heap.size w w4) := Lib.hid (btrans0 H_wr.out hb4)
      have BT_w4 : Hid (w4.heap[w.heap.size]? = some (.cells #[.slice aq qs.length cq, .slice ac cs.length cc, .slice al l.length cl, .slice ah hs.length ch] 29 (0, 0))) := Lib.hid ((hb4.block _ (Array.getElem?_eq_some_iff.1 BT_wr.out).1).trans BT_wr.out)
      have BR_w4 : Hid (w4.heap[w.heap.size + 1]? = some (.cells #[.int .i64 src, .int .i64 dst, .int .i64 (s : Int), .int .i64 rd, .int .i64 D, .int .i64 pr, .bool cu] 31 (0, 0))) := Lib.hid ((hb4.block _ (Array.getElem?_eq_some_iff.1 BR_wr.out).1).trans BR_wr.out)
      have zT_w4 : w.heap.size < w4.heap.size := (Array.getElem?_eq_some_iff.1 BT_w4.out).1
      have zR_w4 : w.heap.size + 1 < w4.heap.size := (Array.getElem?_eq_some_iff.1 BR_w4.out).1
      clear hb4 cT cR zT_wr zR_wr
      have cT := fun q => cellB BT_w4.out q
      have cR := fun q => cellB BR_w4.out q
      go_upto_region 21 with fail
      obtain ⟨w5, hw5⟩ : ∃ q, w4.alloc (.cells #[.int .i64 src, .int .i64 dst, .int .i64 (s : Int), .int .i64 rd, .int .i64 D, .int .i64 pr, .bool cu] 31) = q := ⟨_, rfl⟩
      rw [hw5]
      have hb5 : Below w4.heap.size w4 w5 := by rw [← hw5]; exact balloc0 (Below.refl _ _)
      have BL_w5 : Hid (w5.heap[w4.heap.size]? = some (.cells #[.int .i64 src, .int .i64 dst, .int .i64 (s : Int), .int .i64 rd, .int .i64 D, .int .i64 pr, .bool cu] 31 (0, 0))) := Lib.hid (by rw [← hw5]; exact heap_new)
      clear hw5
      have H_w5 : Hid (Below w.heap.size w w5) := Lib.hid (btrans0 H_w4.out hb5)
      have BT_w5 : Hid (w5.heap[w.heap.size]? = some (.cells #[.slice aq qs.length cq, .slice ac cs.length cc, .slice al l.length cl, .slice ah hs.length ch] 29 (0, 0))) := Lib.hid ((hb5.block _ (Array.getElem?_eq_some_iff.1 BT_w4.out).1).trans BT_w4.out)
      have BR_w5 : Hid (w5.heap[w.heap.size + 1]? = some (.cells #[.int .i64 src, .int .i64 dst, .int .i64 (s : Int), .int .i64 rd, .int .i64 D, .int .i64 pr, .bool cu] 31 (0, 0))) := Lib.hid ((hb5.block _ (Array.getElem?_eq_some_iff.1 BR_w4.out).1).trans BR_w4.out)
      have zT_w5 : w.heap.size < w5.heap.size := (Array.getElem?_eq_some_iff.1 BT_w5.out).1
      have zR_w5 : w.heap.size + 1 < w5.heap.size := (Array.getElem?_eq_some_iff.1 BR_w5.out).1
      clear hb5 cT cR zT_w4 zR_w4
      have cT := fun q => cellB BT_w5.out q
      have cR := fun q => cellB BR_w5.out q
      obtain ⟨lB, hlB⟩ : ∃ q, w4.heap.size = q := ⟨_, rfl⟩
      have hlw : w.heap.size + 1 < lB := by rw [← hlB]; exact (Array.getElem?_eq_some_iff.1 BR_w4.out).1
      rw [hlB] at BL_w5 ⊢
      clear hlB
      have zL_w5 : lB < w5.heap.size := (Array.getElem?_eq_some_iff.1 BL_w5.out).1
      have cL := fun q => cellB BL_w5.out q
      have fL := fun q => frozenB BL_w5.out q
      obtain ⟨rl, hrl⟩ : ∃ q, min (rd + more) D = q := ⟨_, rfl⟩
      have hrl2 : (if rd + more ≤ D then rd + more else D) = rl := by rw [← hrl]; omega
      have hrl3 : rd ≤ rl ∧ rl ≤ D := by omega
      have HRL := Lib.hid hrl3
      have HR2 : Hid (ReqOK qs.length src dst (s : Int) rl D pr) := Lib.hid (by obtain ⟨h1, h2, ⟨h3, h4, h5, h6, h7⟩, h8⟩ := HR.out; exact ⟨h1, h2, ⟨h3, h4, by omega, by omega, h7⟩, h8⟩)
      clear hrl3
      go_upto_region 22 with fail
      obtain ⟨w6, hw6⟩ : ∃ q, w5.setCell ⟨lB, 3, none⟩ (.int .i64 rl) = q := ⟨_, rfl⟩
      rw [hw6]
      have BL_w6 : Hid (w6.heap[lB]? = some (.cells #[.int .i64 src, .int .i64 dst, .int .i64 (s : Int), .int .i64 rl, .int .i64 D, .int .i64 pr, .bool cu] 31 (0, 0))) := Lib.hid (by rw [← hw6]; exact setB BL_w5.out 3 _)
      have hb6 : Below lB w5 w6 := by rw [← hw6]; exact bset (Below.refl _ _) (Nat.le_refl _)
      have zs6 : w6.heap.size = w5.heap.size := by rw [← hw6]; simp
      have H_w6 : Hid (Below w.heap.size w w6) := Lib.hid (H_w5.out.trans (hb6.mono (by omega)))
      have BT_w6 : Hid (w6.heap[w.heap.size]? = some (.cells #[.slice aq qs.length cq, .slice ac cs.length cc, .slice al l.length cl, .slice ah hs.length ch] 29 (0, 0))) := Lib.hid ((hb6.block _ (by omega)).trans BT_w5.out)
      have BR_w6 : Hid (w6.heap[w.heap.size + 1]? = some (.cells #[.int .i64 src, .int .i64 dst, .int .i64 (s : Int), .int .i64 rd, .int .i64 D, .int .i64 pr, .bool cu] 31 (0, 0))) := Lib.hid ((hb6.block _ hlw).trans BR_w5.out)
      have zT_w6 : w.heap.size < w6.heap.size := (Array.getElem?_eq_some_iff.1 BT_w6.out).1
      have zR_w6 : w.heap.size + 1 < w6.heap.size := (Array.getElem?_eq_some_iff.1 BR_w6.out).1
      have zL_w6 : lB < w6.heap.size := (Array.getElem?_eq_some_iff.1 BL_w6.out).1
      clear hw6 hb6 zs6 cT cR cL fL hrl hrl2 zT_w5 zR_w5 zL_w5
      have cT := fun q => cellB BT_w6.out q
      have cR := fun q => cellB BR_w6.out q
      have cL := fun q => cellB BL_w6.out q
      go_wp2_with fail
      refine (Arrival_any qs cs l hs src dst s rl D pr cu _ _ _ _ _ (HQ.out.below' H_w6.out) (HC.out.below' H_w6.out) (HL.out.below' H_w6.out) (HH.out.below' H_w6.out) HP.out HB.out HR2.out).mono ?_
      unfold ArrPost
      rintro e w7 hpp
      obtain ⟨⟨y, f2, rfl, hA2⟩, hb7⟩ := hpp
      have HA2 := Lib.hid hA2
      clear hA2
      have H_w7 : Hid (Below w.heap.size w w7) := Lib.hid (btrans0 H_w6.out hb7)
      have BT_w7 : Hid (w7.heap[w.heap.size]? = some (.cells #[.slice aq qs.length cq, .slice ac cs.length cc, .slice al l.length cl, .slice ah hs.length ch] 29 (0, 0))) := Lib.hid ((hb7.block _ (Array.getElem?_eq_some_iff.1 BT_w6.out).1).trans BT_w6.out)
      have BR_w7 : Hid (w7.heap[w.heap.size + 1]? = some (.cells #[.int .i64 src, .int .i64 dst, .int .i64 (s : Int), .int .i64 rd, .int .i64 D, .int .i64 pr, .bool cu] 31 (0, 0))) := Lib.hid ((hb7.block _ (Array.getElem?_eq_some_iff.1 BR_w6.out).1).trans BR_w6.out)
      have BL_w7 : Hid (w7.heap[lB]? = some (.cells #[.int .i64 src, .int .i64 dst, .int .i64 (s : Int), .int .i64 rl, .int .i64 D, .int .i64 pr, .bool cu] 31 (0, 0))) := Lib.hid ((hb7.block _ (Array.getElem?_eq_some_iff.1 BL_w6.out).1).trans BL_w6.out)
      have zT_w7 : w.heap.size < w7.heap.size := (Array.getElem?_eq_some_iff.1 BT_w7.out).1
      have zR_w7 : w.heap.size + 1 < w7.heap.size := (Array.getElem?_eq_some_iff.1 BR_w7.out).1
      have zL_w7 : lB < w7.heap.size := (Array.getElem?_eq_some_iff.1 BL_w7.out).1
      clear hb7 cT cR cL zT_w6 zR_w6 zL_w6
      have cT := fun q => cellB BT_w7.out q
      have cR := fun q => cellB BR_w7.out q
      have cL := fun q => cellB BL_w7.out q
      by_cases z2 : f2 = 0
      case neg =>
        have d2 : (f2 == 0) = false := by simpa using z2
        clear z2
        go_wp2_with fail
        refine (awake45 _).mono ?_
        rintro e w99 ⟨rfl, hb99⟩
        go_wp2
        go_ret
        exact ⟨rfl, btrans0 H_w7.out hb99⟩
      subst z2
      by_cases zh : hs.length = 0
      case neg =>
        have zh2 : ((hs.length : Int) == 0) = false := by rw [beq_eq_false_iff_ne]; omega
        go_wp2_with fail
        refine (awake45 _).mono ?_
        rintro e w99 ⟨rfl, hb99⟩
        go_wp2
        go_ret
        exact ⟨rfl, btrans0 H_w7.out hb99⟩
      have hne : hs = [] := List.eq_nil_of_length_eq_zero zh
      have hRO : RoomsOK qs hs (s : Int) (qs.map (fun q => roomS q (s : Int))) := ⟨by simp, fun l hl => by
        obtain ⟨q, _, rfl⟩ := List.mem_map.1 hl
        unfold roomS
        split
        · exact ⟨by simp, fun x hx => by cases hx⟩
        · exact ⟨by simp, fun x hx => by rw [List.mem_singleton.1 hx]; unfold spOK; simp⟩, fun _ => rfl⟩
      have HXY : Hid (f = 0 ∧ x ≤ y) := Lib.hid (by
        obtain ⟨O1, hO1, hx1⟩ := HA1.out hne
        obtain ⟨O2, hO2, hx2⟩ := HA2.out hne
        rcases hx2 with ⟨t2, ey, _⟩ | ⟨_, h⟩
        · obtain ⟨m1, m2⟩ := arr_mono (gOf_ok cu HP.out HB.out HR.out hRO) (gOf_wide cu) (gOf_sort cu HP.out HB.out) HRL.out.1 hO1 hO2 t2
          rcases hx1 with ⟨_, ex, e0⟩ | ⟨h, _⟩
          · exact ⟨e0, by rw [ex, ey]; exact m2⟩
          · rw [h] at m1; cases m1
        · cases h)
      clear hRO
      obtain ⟨hf, hxy⟩ := HXY.out
      subst hf
      have dxy : decide (y < x) = false := decide_eq_false (by omega)
      have dxy2 : ¬ y < x := by omega
      have zh2 : ((hs.length : Int) == 0) = true := by rw [beq_iff_eq]; omega
      clear hne hxy HXY HA1 HA2
      go_wp2_with fail
      refine (awake45 _).mono ?_
      rintro e w99 ⟨rfl, hb99⟩
      go_wp2
      go_ret
      exact ⟨rfl, btrans0 H_w7.out hb99⟩
set_option maxRecDepth 100000 in
set_option maxHeartbeats 4000000 in
theorem lifted (os : Os) (started : os.Started) (H : Type) (enc : TypeId × Value → H) :
    ReturnsInHanded {} Tryz.checked os 3 .any (Rows.topFirstFitSpec.pre6 enc Tryz.prog Tryz.f3 Rows.topFirstFitRow.domain false) (Rows.topFirstFitSpec.post enc Tryz.prog Tryz.f3 false true false false) := by
  refine returnsInHanded_of_change (C := Tryz.checked) own started (by kernel_rfl) Tryz.func3
    (ChangeSpec.witness6 (enc := enc) (C := Tryz.checked) false ⟨#[], #[.agg #[.slice none 0 0, .slice none 0 0, .slice none 0 0, .slice none 0 0], .agg #[.int .i64 0, .int .i64 0, .int .i64 0, .int .i64 0, .int .i64 0, .int .i64 0, .bool false], .int .u8 0], []⟩ 8 (by kernel_rfl) (by kernel_rfl) (by kernel_rfl) (by kernel_rfl)) ?_
  intro W base args ds gs before hval0 hW hcnd _
  have hval : ∀ (j : Nat) t v, Tryz.f3.params[j]? = some t → args[j]? = some v → Value.okWide Tryz.prog W .any base t v := hval0
  have hW' := hW
  obtain ⟨p, q, hA0, hV, rfl, hfz, hnd⟩ := hW
  have hA : DataW.TrodAll enc Tryz.prog W 0 (fun _ => true) true Tryz.f3.params.toList args.toList ds p := hA0
  rw [Tryz.params3] at hA hval
  obtain ⟨v0, vs0, d0, ds0, p0, q0, hargs, rfl, rfl, h0, r0⟩ := trodAll_cons hA
  obtain ⟨v1, vs1, d1, ds1, p1, q1, rfl, rfl, rfl, h1, r1⟩ := trodAll_cons r0
  obtain ⟨v2, vs2, d2, ds2, p2, q2, rfl, rfl, rfl, h2, r2⟩ := trodAll_cons r1
  obtain ⟨rfl, rfl, rfl⟩ := trodAll_nil r2
  obtain rfl : args = #[v0, v1, v2] := by cases args; simp_all
  obtain ⟨uq, uc, ub, uh, qs, cs, l, hs, rfl, e1, e2, e3, e4⟩ := open_tables (hval 0 29 v0 rfl rfl) h0
  obtain ⟨src, dst, sz, rd, D, pr, cu, rfl⟩ := open_reqv (hval 1 31 v1 rfl rfl) h1
  obtain ⟨x2, rfl, _, _, wx2⟩ := open_int Tryz.underlying5 (hval 2 5 v2 rfl rfl) h2
  refine (walk qs cs l hs src dst sz rd D pr cu x2 uq uc ub uh W (by have := wx2; simp [Lit.wf, IntKind.min, IntKind.max, IntKind.signed, IntKind.bits] at this; omega) e1 e2 e3 e4).mono fun e W' ⟨he, hB⟩ => ?_
  subst he
  refine ⟨_, rfl, law_post (by kernel_rfl) (by kernel_rfl) rfl Tryz.underlying4 rfl ?_ hW' hB⟩
  intro es hes
  match es, hes with
  | [_, _, _], _ => rfl

theorem proved : Rows.TopFirstFitSaid :=
  OpenClaim.holds_of_wide 3 Tryz.f3 rfl rfl rfl rfl rfl rfl rfl ⟨rfl, rfl, rfl, rfl, rfl⟩ rfl rfl rfl rfl rfl (by kernel_rfl) Tryz.func3 (by kernel_rfl)
    (of_decide_eq_true (by kernel_rfl)) (by unfold Func.isWrapper; first | (rw [if_pos (by decide +kernel)]; kernel_rfl) | (rw [if_neg (by decide +kernel)]; exact ⟨rfl, rfl⟩))
    (fun os started H enc _ => lifted os started H enc)
#print axioms proved
end Go.Proofs.YtkokiahmgmeokaaGreat.topFirstFit
