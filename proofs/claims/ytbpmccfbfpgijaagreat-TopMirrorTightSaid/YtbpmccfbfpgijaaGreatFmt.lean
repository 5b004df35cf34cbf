/-
  Proved: mailboattop.TopMirrorTight returns true for every input, and leaves its arguments as they were. No condition.
-/
import Derived.Test.YtbpmccfbfpgijaaGreatRows
import Derived.BigQuiet
import Derived.BigRegion
import Derived.Test.YtbpmccfbfpgijaaGreatL
import Derived.Test.YtbpmccfbfpgijaaGreatNr
import Derived.Test.YtbpmccfbfpgijaaGreatNu
import Derived.Test.YtbpmccfbfpgijaaGreatNv
import Derived.Test.YtbpmccfbfpgijaaGreatNw
import Derived.Test.YtbpmccfbfpgijaaGreatVg
set_option linter.unusedVariables false
set_option linter.unusedSimpArgs false
namespace Go.Proofs.YtbpmccfbfpgijaaGreat.topMirrorTight
open Go Go.ChangeShapes Go.WideShapes Go.ChangeAt Go.RowKit Go.Joins Go.Proofs.YtbpmccfbfpgijaaGreat
open Iv
attribute [local go_sem] B_getElem B_size B_app B_extract B_get B_toList
attribute [local go_sem] Oper.semAt_some
theorem own : ownKnob Tryz.prog.godebug = none := by kernel_rfl
set_option maxRecDepth 100000 in
set_option maxHeartbeats 16000000 in
theorem walk (qs : List Int) (cs : List Con) (uq uc : Value) (src dst sz rd D pr : Int) (cu : Bool) (w : World) (hq : RRow intC 1 w w.heap.size uq qs) (hc : RRow conC 7 w w.heap.size uc cs) :
    Calls Tryz.prog 3 #[.agg #[uq, uc], .agg #[.int .i64 src, .int .i64 dst, .int .i64 sz, .int .i64 rd, .int .i64 D, .int .i64 pr, .bool cu]] w fun e w' => e = .returned (.bool true) ∧ Below w.heap.size w w' := by
  have HQ := Lib.hid hq
  have HC := Lib.hid hc
  obtain ⟨aq, cq, rfl, -⟩ := hq
  obtain ⟨ac, cc, rfl, -⟩ := hc
  go_enter Tryz.func3, Tryz.ntmps3
  go_wp2_with fail
  refine (great22_any _ _ _ ⟨_, _, _, rfl⟩ ⟨_, _, _, rfl⟩).mono ?_
  rintro e w1 hr1
  obtain ⟨⟨gr, rfl⟩, hb⟩ := hr1
  have B_w1 : Below w.heap.size w w1 := btrans0 (by exact belowA) hb
  have HP_w1 : Hid (w1.heap[w.heap.size]? = some (.cells #[.slice aq qs.length cq, .slice ac cs.length cc] 25 (0, 0))) := Lib.hid ((hb.block _ (by simp; omega)).trans (by repeat (first | exact heap_new' (by first | rfl | (simp; done)) | refine (Below.heap_alloc _ _ _ (by first | (simp; done) | (simp; omega))).trans ?_)))
  have HQ_w1 : Hid (w1.heap[w.heap.size + 1]? = some (.cells #[.int .i64 src, .int .i64 dst, .int .i64 sz, .int .i64 rd, .int .i64 D, .int .i64 pr, .bool cu] 27 (0, 0))) := Lib.hid ((hb.block _ (by simp)).trans (by repeat (first | exact heap_new' (by first | rfl | (simp; done)) | refine (Below.heap_alloc _ _ _ (by first | (simp; done) | (simp; omega))).trans ?_)))
  have z_w1 : w.heap.size + 1 < w1.heap.size := by have := hb.size; simp at this; omega
  have cp := fun o => cellB HP_w1.out o
  have cq_ := fun o => cellB HQ_w1.out o
  clear hb
  cases gr with
  | true =>
    go_wp2_with fail
    refine (awake45 _).mono ?_
    rintro e w99 ⟨rfl, hb99⟩
    go_wp2
    go_ret
    exact ⟨rfl, btrans0 B_w1 hb99⟩
  | false =>
  go_wp2_with fail
  refine (creq_any qs cs _ _ src dst sz rd D pr cu _ (HQ.out.below' B_w1) (HC.out.below' B_w1)).mono ?_
  unfold CrPost
  rintro e w2 hpp
  obtain ⟨⟨r, rfl, hr⟩, hb⟩ := hpp
  have B_w2 : Below w.heap.size w w2 := btrans0 B_w1 hb
  have HP_w2 : Hid (w2.heap[w.heap.size]? = some (.cells #[.slice aq qs.length cq, .slice ac cs.length cc] 25 (0, 0))) := Lib.hid ((hb.block _ (by omega)).trans HP_w1.out)
  have HQ_w2 : Hid (w2.heap[w.heap.size + 1]? = some (.cells #[.int .i64 src, .int .i64 dst, .int .i64 sz, .int .i64 rd, .int .i64 D, .int .i64 pr, .bool cu] 27 (0, 0))) := Lib.hid ((hb.block _ (by omega)).trans HQ_w1.out)
  have z_w2 : w.heap.size + 1 < w2.heap.size := by have := hb.size; omega
  clear hb cp cq_
  have cp := fun o => cellB HP_w2.out o
  have cq_ := fun o => cellB HQ_w2.out o
  by_cases zr : r = 0
  case neg =>
    have d0 : (r != 0) = true := by simpa using zr
    clear zr hr
    go_wp2_with fail
    refine (awake45 _).mono ?_
    rintro e w99 ⟨rfl, hb99⟩
    go_wp2
    go_ret
    exact ⟨rfl, btrans0 B_w2 hb99⟩
  subst zr
  have HOK := Lib.hid (hr rfl)
  clear hr
  obtain ⟨⟨a1, a2, a3, a4⟩, a5, ⟨a6, a7, a8, a9, a10⟩, a11, a12⟩ := HOK.out.2
  obtain ⟨src, rfl⟩ := Int.eq_ofNat_of_zero_le a1
  obtain ⟨dst, rfl⟩ := Int.eq_ofNat_of_zero_le a3
  obtain ⟨s, rfl⟩ := Int.eq_ofNat_of_zero_le (show 0 ≤ sz by omega)
  have hne : src ≠ dst := fun h => a5 (by rw [h])
  have HNE := Lib.hid hne
  clear a5 hne
  have hsrc : src < qs.length := by omega
  have hdst : dst < qs.length := by omega
  have s1 : 1 ≤ s := by omega
  have hs : s ≤ 65536 := by omega
  go_wp2_with fail
  refine (fore_ok qs cs _ _ src s rd _ (HQ.out.below' B_w2) (HC.out.below' B_w2) HOK.out.1 hsrc a8 (by omega) s1 hs).mono ?_
  unfold ArrPost
  rintro e w3 ⟨u, rfl, gt, F, hu, h1, h2, hb, ⟨l, h3, h4⟩⟩
  injection hu with hu
  subst hu
  have HG_w3 := Lib.hid h2
  have HI := Lib.hid h3
  have HI4 := Lib.hid h4
  have hgt : w.heap.size + 2 ≤ gt := by omega
  clear h1 h2 h3 h4
  have B_w3 : Below w.heap.size w w3 := btrans0 B_w2 hb
  have HP_w3 : Hid (w3.heap[w.heap.size]? = some (.cells #[.slice aq qs.length cq, .slice ac cs.length cc] 25 (0, 0))) := Lib.hid ((hb.block _ (by omega)).trans HP_w2.out)
  have HQ_w3 : Hid (w3.heap[w.heap.size + 1]? = some (.cells #[.int .i64 (src : Int), .int .i64 (dst : Int), .int .i64 (s : Int), .int .i64 rd, .int .i64 D, .int .i64 pr, .bool cu] 27 (0, 0))) := Lib.hid ((hb.block _ (by omega)).trans HQ_w2.out)
  have z_w3 : w.heap.size + 1 < w3.heap.size := by have := hb.size; omega
  clear hb cp cq_
  have cp := fun o => cellB HP_w3.out o
  have cq_ := fun o => cellB HQ_w3.out o
  have zg_w3 : gt < w3.heap.size := (Array.getElem?_eq_some_iff.1 HG_w3.out).1
  obtain ⟨x, hx⟩ : ∃ x, F[dst]? = some x := ⟨_, List.getElem?_eq_getElem (by rw [HI.out.lenF]; exact hdst)⟩
  have ax : Mt.at_ F dst = x := by unfold Mt.at_; rw [List.getD_eq_getElem?_getD, hx]; rfl
  have cF : w3.cell? ⟨gt, dst, none⟩ = some (.int .i64 x) := by rw [cellB HG_w3.out]; simp [hx]
  have AX := Lib.hid ax
  have i0 : (0 : Int) ≤ (dst : Int) := by omega
  have i1 : (dst : Int) < (qs.length : Int) := by omega
  have i2 : decide ((qs.length : Int) ≤ (dst : Int)) = false := decide_eq_false (by omega)
  have fq := frozenB HQ_w3.out 4
  clear hx ax
  go_upto_region 7 with fail
  have HSET := setB HQ_w3.out 4 (.int .i64 x)
  obtain ⟨w4, hw4⟩ : ∃ q, w3.setCell ⟨w.heap.size + 1, 4, none⟩ (.int .i64 x) = q := ⟨_, rfl⟩
  rw [hw4] at HSET ⊢
  have hsz4 : w4.heap.size = w3.heap.size := by rw [← hw4]; simp
  have B_w4 : Below w.heap.size w w4 := by rw [← hw4]; exact bset B_w3 (by show w.heap.size ≤ w.heap.size + 1; omega)
  have HP_w4 : Hid (w4.heap[w.heap.size]? = some (.cells #[.slice aq qs.length cq, .slice ac cs.length cc] 25 (0, 0))) := Lib.hid (by rw [← hw4]; exact (Below.heap_setCell _ _ _ _ (by show w.heap.size ≠ w.heap.size + 1; omega)).trans HP_w3.out)
  have HQ_w4 : Hid (w4.heap[w.heap.size + 1]? = some (.cells #[.int .i64 (src : Int), .int .i64 (dst : Int), .int .i64 (s : Int), .int .i64 rd, .int .i64 x, .int .i64 pr, .bool cu] 27 (0, 0))) := Lib.hid HSET
  have z_w4 : w.heap.size + 1 < w4.heap.size := by omega
  clear hw4 HSET cp cq_ cF fq hsz4
  have cp := fun o => cellB HP_w4.out o
  have cq_ := fun o => cellB HQ_w4.out o
  by_cases hx0 : 0 ≤ x
  case neg =>
    have d0 : decide (x < 0) = true := decide_eq_true (by omega)
    go_wp2_with fail
    refine (awake45 _).mono ?_
    rintro e w99 ⟨rfl, hb99⟩
    go_wp2
    go_ret
    exact ⟨rfl, btrans0 B_w4 hb99⟩
  have d0 : decide (x < 0) = false := decide_eq_false (by omega)
  have hMF := mirror_facts HOK.out.1 s1 hs HNE.out a8 (by omega) HI.out HI4.out (by rw [AX.out]; exact hx0)
  rw [AX.out] at hMF
  have HMF := Lib.hid hMF
  have k1 := hMF.d1
  have k2 := hMF.d2
  clear hMF
  go_wp2_with fail
  refine (Latest_ok qs cs _ _ s dst x _ (HQ.out.below' B_w4) (HC.out.below' B_w4) HOK.out.1 hdst hx0 k2 s1 hs).mono ?_
  unfold TimesPost
  rintro e w5 ⟨u, rfl, g1, n1, L1, hu, h1, h2, h3, h4, hb⟩
  injection hu with hu
  subst hu
  have hg1 : w.heap.size + 2 ≤ g1 := by omega
  have HL_w5 := Lib.hid h2
  have HLa := Lib.hid (HMF.out.ge L1 h3 h4)
  have hl1 := h3.len
  have HL1 := Lib.hid hl1
  clear h1 h2 h3 h4 hl1
  have B_w5 : Below w.heap.size w w5 := btrans0 B_w4 hb
  have HP_w5 : Hid (w5.heap[w.heap.size]? = some (.cells #[.slice aq qs.length cq, .slice ac cs.length cc] 25 (0, 0))) := Lib.hid ((hb.block _ (by omega)).trans HP_w4.out)
  have HQ_w5 : Hid (w5.heap[w.heap.size + 1]? = some (.cells #[.int .i64 (src : Int), .int .i64 (dst : Int), .int .i64 (s : Int), .int .i64 rd, .int .i64 x, .int .i64 pr, .bool cu] 27 (0, 0))) := Lib.hid ((hb.block _ (by omega)).trans HQ_w4.out)
  have z_w5 : w.heap.size + 1 < w5.heap.size := by have := hb.size; omega
  clear hb cp cq_
  have cp := fun o => cellB HP_w5.out o
  have cq_ := fun o => cellB HQ_w5.out o
  have zg_w5 : g1 < w5.heap.size := (Array.getElem?_eq_some_iff.1 HL_w5.out).1
  have ew : IntKind.i64.wrap (x - 1) = x - 1 := by rw [IntKind.wrap_i64]; omega
  go_wp2_with fail
  refine (Latest_ok qs cs _ _ s dst (x - 1) _ (HQ.out.below' B_w5) (HC.out.below' B_w5) HOK.out.1 hdst (by omega) (by omega) s1 hs).mono ?_
  unfold TimesPost
  rintro e w6 ⟨u, rfl, g2, n2, L2, hu, h1, h2, h3, h4, hb⟩
  injection hu with hu
  subst hu
  have hg2 : w.heap.size + 2 ≤ g2 := by omega
  have HM_w6 := Lib.hid h2
  have HLb := Lib.hid (HMF.out.lt L2 h3 h4)
  have hl2 := h3.len
  have HL2 := Lib.hid hl2
  have HL_w6 := Lib.hid ((hb.block _ zg_w5).trans HL_w5.out)
  clear h1 h2 h3 h4 hl2
  have B_w6 : Below w.heap.size w w6 := btrans0 B_w5 hb
  have HP_w6 : Hid (w6.heap[w.heap.size]? = some (.cells #[.slice aq qs.length cq, .slice ac cs.length cc] 25 (0, 0))) := Lib.hid ((hb.block _ (by omega)).trans HP_w5.out)
  have HQ_w6 : Hid (w6.heap[w.heap.size + 1]? = some (.cells #[.int .i64 (src : Int), .int .i64 (dst : Int), .int .i64 (s : Int), .int .i64 rd, .int .i64 x, .int .i64 pr, .bool cu] 27 (0, 0))) := Lib.hid ((hb.block _ (by omega)).trans HQ_w5.out)
  have z_w6 : w.heap.size + 1 < w6.heap.size := by have := hb.size; omega
  clear hb cp cq_
  have cp := fun o => cellB HP_w6.out o
  have cq_ := fun o => cellB HQ_w6.out o
  have zg_w6 : g1 < w6.heap.size := (Array.getElem?_eq_some_iff.1 HL_w6.out).1
  have zh_w6 : g2 < w6.heap.size := (Array.getElem?_eq_some_iff.1 HM_w6.out).1
  go_wp2_with fail
  refine (Find_ok qs cs _ _ src dst s rd x pr cu F _ (HQ.out.below' B_w6) (HC.out.below' B_w6) HOK.out.1 hsrc hdst HNE.out a8 (by omega) k2 s1 hs a11 a12 HMF.out.ge HMF.out.clo HMF.out.f0 HMF.out.fd).mono ?_
  rintro e w7 ⟨u, l', hp_, rfl, h1, h2, hb⟩
  have HL_w7 := Lib.hid ((hb.block _ zg_w6).trans HL_w6.out)
  have HM_w7 := Lib.hid ((hb.block _ zh_w6).trans HM_w6.out)
  obtain ⟨va, vc, rfl⟩ := own_shape h1
  have HO := Lib.hid h1
  have HX2 := Lib.hid h2
  have ho := h1
  clear h1 h2
  have B_w7 : Below w.heap.size w w7 := btrans0 B_w6 hb
  have HP_w7 : Hid (w7.heap[w.heap.size]? = some (.cells #[.slice aq qs.length cq, .slice ac cs.length cc] 25 (0, 0))) := Lib.hid ((hb.block _ (by omega)).trans HP_w6.out)
  have HQ_w7 : Hid (w7.heap[w.heap.size + 1]? = some (.cells #[.int .i64 (src : Int), .int .i64 (dst : Int), .int .i64 (s : Int), .int .i64 rd, .int .i64 x, .int .i64 pr, .bool cu] 27 (0, 0))) := Lib.hid ((hb.block _ (by omega)).trans HQ_w6.out)
  have z_w7 : w.heap.size + 1 < w7.heap.size := by have := hb.size; omega
  clear hb cp cq_
  have cp := fun o => cellB HP_w7.out o
  have cq_ := fun o => cellB HQ_w7.out o
  obtain ⟨M, hM⟩ : ∃ M, l'.length = M := ⟨_, rfl⟩
  have hm : (l' ++ [hp_]).length = M + 1 := by rw [List.length_append, hM]; rfl
  rw [hm] at HO ho ⊢
  have hMb : M + 1 ≤ 9223372036854775807 := by
    rcases ho.2 with ⟨_, h0⟩ | ⟨g3, cap, cur, e, h1, h2, h3, h4, h5, h6⟩
    · omega
    · unfold maxLen at h4; omega
  have ho' : ∃ g3, va = some ⟨g3, 0, none⟩ ∧ g3 < w7.heap.size ∧ w7.cell? ⟨g3, M * 4 + 3, none⟩ = some (.int .i64 x) := by
    rcases ho.2 with ⟨_, h0⟩ | ⟨g3, cap, cur, e, h1, h2, h3, h4, h5, h6⟩
    · omega
    · injection e with e1 e2 e3
      subst e1 e3
      refine ⟨g3, rfl, (Array.getElem?_eq_some_iff.1 h2).1, ?_⟩
      rw [ho.cellAt _ (by omega), hopsV_snoc, List.getElem?_append_right (by rw [hopsV_len, hM]; omega), hopsV_len, hM, show M * 4 + 3 - M * 4 = 3 by omega]
      show some (Value.int .i64 hp_.2.2.2) = _
      rw [HX2.out]
  obtain ⟨g3, rfl, zg3, cl⟩ := ho'
  obtain ⟨N, hN⟩ : ∃ N, M + 1 = N := ⟨_, rfl⟩
  rw [hN] at HO ho hMb ⊢
  obtain ⟨y1, hy1⟩ : ∃ y, L1[src]? = some y := ⟨_, List.getElem?_eq_getElem (by rw [HL1.out]; exact hsrc)⟩
  obtain ⟨y2, hy2⟩ : ∃ y, L2[src]? = some y := ⟨_, List.getElem?_eq_getElem (by rw [HL2.out]; exact hsrc)⟩
  have ay1 : Mt.at_ L1 src = y1 := by unfold Mt.at_; rw [List.getD_eq_getElem?_getD, hy1]; rfl
  have ay2 : Mt.at_ L2 src = y2 := by unfold Mt.at_; rw [List.getD_eq_getElem?_getD, hy2]; rfl
  have cy1 : w7.cell? ⟨g1, src, none⟩ = some (.int .i64 y1) := by rw [cellB HL_w7.out]; simp [hy1]
  have cy2 : w7.cell? ⟨g2, src, none⟩ = some (.int .i64 y2) := by rw [cellB HM_w7.out]; simp [hy2]
  have e1 : decide (y1 ≥ rd) = true := decide_eq_true (by have := HLa.out; rw [ay1] at this; omega)
  have e2 : decide (y2 < rd) = true := decide_eq_true (by have := HLb.out; rw [ay2] at this; omega)
  have e1' : rd ≤ y1 := by have := HLa.out; rw [ay1] at this; omega
  have e2' : y2 < rd := by have := HLb.out; rw [ay2] at this; omega
  have e3 : decide ((qs.length : Int) ≤ (src : Int)) = false := decide_eq_false (by omega)
  have e4 : ((N : Int) == 0) = false := by rw [beq_eq_false_iff_ne]; omega
  have e4'' : ¬ N = 0 := by omega
  have e8 : ¬ qs.length ≤ src := by omega
  have e5 : IntKind.i64.wrap ((N : Int) - 1) = (M : Int) := by rw [IntKind.wrap_i64]; omega
  have e6 : IntKind.i64.wrap (M : Int) = (M : Int) := by rw [IntKind.wrap_i64]; omega
  have e7 : (x == x) = true := by simp
  have j0 : (0 : Int) ≤ (src : Int) := by omega
  have j1 : (src : Int) < (qs.length : Int) := by omega
  have j2 : (0 : Int) ≤ (M : Int) := by omega
  have j3 : (M : Int) < (N : Int) := by omega
  have zg_w7 : g1 < w7.heap.size := (Array.getElem?_eq_some_iff.1 HL_w7.out).1
  have zh_w7 : g2 < w7.heap.size := (Array.getElem?_eq_some_iff.1 HM_w7.out).1
  clear ho hm hM hy1 hy2 ay1 ay2 hN
  go_wp2_with fail
  refine wp_region_plan (fun V => Below (w7).heap.size (w7) V) [0, 0, 1, 0, 1, 0, 1, 0, 0, 0, 0, 1, 0, 1, 0, 1, 0, 0, 0, 0, 0, 0, 0, 0, 0, 1, 0, 1, 0, 0, 0, 3, 0, 0] [0, 1, 2, 3, 4, 5, 6, 7, 8, 9, 10, 11, 12, 13, 14, 15, 16, 17, 18, 19, 20, 21, 22, 23, 24, 25, 26, 27, 28, 29, 30, 31, 32, 33] (by kernel_rfl) (by kernel_rfl) ?_ ?_
  case refine_1 => exact belowA
  (iterate 31 (first | (refine plan_held rfl (by decide) (by rfl) (fun w1 hS => by (try (obtain ⟨_, _⟩ := bcell (hS rfl))); go_simp; rfl) ?_; simp only [Act.put, List.setIfInBounds_toArray, List.set_cons_zero, List.set_cons_succ]) | (refine plan_skip rfl (by decide) (by rfl) ?_; simp only [Act.put, List.setIfInBounds_toArray, List.set_cons_zero, List.set_cons_succ])))
  (refine plan_late rfl rfl (by rfl) (fun K hK => ?_); go_simp)
  refine (awake45 _).mono ?_
  rintro e wc141 ⟨rfl, hbc141⟩
  (refine hK _ _ ?_; clear hK K; (try simp only [Act.put, List.setIfInBounds_toArray, List.set_cons_zero, List.set_cons_succ]))
  (iterate 2 (first | (refine plan_held rfl (by decide) (by rfl) (fun w1 hS => by (try (obtain ⟨_, _⟩ := bcell (hS rfl))); go_simp; rfl) ?_; simp only [Act.put, List.setIfInBounds_toArray, List.set_cons_zero, List.set_cons_succ]) | (refine plan_skip rfl (by decide) (by rfl) ?_; simp only [Act.put, List.setIfInBounds_toArray, List.set_cons_zero, List.set_cons_succ])))
  refine plan_done ?_
  go_wp2
  go_ret
  exact ⟨rfl, btrans0 B_w7 (btrans0 (bdrew (Below.refl _ _)) hbc141)⟩
set_option maxRecDepth 100000 in
set_option maxHeartbeats 4000000 in
theorem lifted (os : Os) (started : os.Started) (H : Type) (enc : TypeId × Value → H) :
    ReturnsInHanded {} Tryz.checked os 3 .any (Rows.topMirrorTightSpec.pre6 enc Tryz.prog Tryz.f3 Rows.topMirrorTightRow.domain false) (Rows.topMirrorTightSpec.post enc Tryz.prog Tryz.f3 false true false false) := by
  refine returnsInHanded_of_change (C := Tryz.checked) own started (by kernel_rfl) Tryz.func3
    (ChangeSpec.witness6 (enc := enc) (C := Tryz.checked) false ⟨#[], #[.agg #[.slice none 0 0, .slice none 0 0], .agg #[.int .i64 0, .int .i64 0, .int .i64 0, .int .i64 0, .int .i64 0, .int .i64 0, .bool false]], []⟩ 8 (by kernel_rfl) (by kernel_rfl) (by kernel_rfl) (by kernel_rfl)) ?_
  intro W base args ds gs before hval0 hW hcnd _
  have hval : ∀ (j : Nat) t v, Tryz.f3.params[j]? = some t → args[j]? = some v → Value.okWide Tryz.prog W .any base t v := hval0
  have hW' := hW
  obtain ⟨p, q, hA0, hV, rfl, hfz, hnd⟩ := hW
  have hA : DataW.TrodAll enc Tryz.prog W 0 (fun _ => true) true Tryz.f3.params.toList args.toList ds p := hA0
  rw [Tryz.params3] at hA hval
  obtain ⟨v0, vs0, d0, ds0, p0, q0, hargs, rfl, rfl, h0, r0⟩ := trodAll_cons hA
  obtain ⟨v1, vs1, d1, ds1, p1, q1, rfl, rfl, rfl, h1, r1⟩ := trodAll_cons r0
  obtain ⟨rfl, rfl, rfl⟩ := trodAll_nil r1
  obtain rfl : args = #[v0, v1] := by cases args; simp_all
  obtain ⟨uq, uc, qs, cs, rfl, e1, e2⟩ := open_planv (hval 0 25 v0 rfl rfl) h0
  obtain ⟨src, dst, sz, rd, D, pr, cu, rfl⟩ := open_reqv (hval 1 27 v1 rfl rfl) h1
  refine (walk qs cs uq uc src dst sz rd D pr cu W e1 e2).mono fun e W' ⟨he, hB⟩ => ?_
  subst he
  refine ⟨_, rfl, law_post (by kernel_rfl) (by kernel_rfl) rfl Tryz.underlying4 rfl ?_ hW' hB⟩
  intro es hes
  match es, hes with
  | [_, _], _ => rfl

theorem proved : Rows.TopMirrorTightSaid :=
  OpenClaim.holds_of_wide 3 Tryz.f3 rfl rfl rfl rfl rfl rfl rfl ⟨rfl, rfl, rfl, rfl, rfl⟩ rfl rfl rfl rfl rfl (by kernel_rfl) Tryz.func3 (by kernel_rfl)
    (of_decide_eq_true (by kernel_rfl)) (by unfold Func.isWrapper; first | (rw [if_pos (by decide +kernel)]; kernel_rfl) | (rw [if_neg (by decide +kernel)]; exact ⟨rfl, rfl⟩))
    (fun os started H enc _ => lifted os started H enc)
#print axioms proved
end Go.Proofs.YtbpmccfbfpgijaaGreat.topMirrorTight
