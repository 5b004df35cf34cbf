/- contact.Fits, route.hop. -/
import Derived.BigQuiet
import Derived.BigRegion
import Derived.Deep.DeepCutAuto
import Derived.Deep.CutBlock
import Derived.Test.YtkokiahmgmeokaaGreatNz
import Derived.Test.YtkokiahmgmeokaaGreatJkz
import Derived.Test.YtkokiahmgmeokaaGreatYcz
import Derived.Test.YtkokiahmgmeokaaGreatKfb
set_option linter.unusedVariables false
set_option linter.unusedSimpArgs false
namespace Go.Proofs.YtkokiahmgmeokaaGreat
open Go Go.RowKit Iv
attribute [local go_sem] Oper.semAt_some
attribute [local go_sem] B_getElem B_size B_app B_extract B_get B_toList
set_option maxRecDepth 100000 in
set_option maxHeartbeats 4000000 in
theorem Fits_ok (c : Con) (b : Int) (s : Nat) (w : World) (hc : chkCon c = 0) (s1 : 1 ≤ s) (hs : s ≤ 65536) (hb : c.st ≤ b) (b1 : b ≤ 1099511627776) :
    Calls Tryz.prog 24 #[.agg #[.int .i64 c.fr, .int .i64 c.tt, .int .i64 c.st, .int .i64 c.en, .int .i64 c.ra, .int .i64 c.rg, .int .i64 c.lo], .int .i64 b, .int .i64 (s : Int)] w fun e w' => e = .returned (.bool (decide (b ≤ c.en - durS c s))) ∧ Below w.heap.size w w' := by
  obtain ⟨R, hR⟩ : ∃ q, decide (b ≤ c.en - durS c s) = q := ⟨_, rfl⟩
  have HR := Lib.hid hR
  have HC := Lib.hid hc
  rw [hR]
  clear hR hc
  go_enter Tryz.func24, Tryz.ntmps24
  go_wp2_with fail
  refine (check_ok c s _ HC.out s1 hs).mono ?_
  rintro e w1 ⟨rfl, hb1⟩
  have HB1 := Lib.hid (btrans0 (balloc0 (Below.refl _ _)) hb1)
  have X1 : w1.heap[w.heap.size]? = some (.cells #[.int .i64 c.fr, .int .i64 c.tt, .int .i64 c.st, .int .i64 c.en, .int .i64 c.ra, .int .i64 c.rg, .int .i64 c.lo] 38 (0, 0)) := (hb1.block _ (by simp)).trans heap_new
  have z1 : w.heap.size < w1.heap.size := (Array.getElem?_eq_some_iff.1 X1).1
  have cb := fun o => cellB X1 o
  clear hb1 X1
  go_wp2_with fail
  refine (fits_ok c b s _ HC.out s1 hs hb b1).mono ?_
  rw [HR.out]
  rintro e w2 ⟨rfl, hb2⟩
  have HB2 := Lib.hid (btrans0 HB1.out hb2)
  clear hb2 cb
  go_wp2
  go_ret
  exact ⟨rfl, HB2.out⟩
set_option maxRecDepth 100000 in
set_option maxHeartbeats 4000000 in
theorem rhop_ok (cs : List Con) (n : Nat) (c : Con) (b : Int) (s : Nat) (uq uc : Value) (src dst rd D pr : Int) (cu : Bool) (w : World) (hrow : RRow conC 7 w w.heap.size uc cs) (hn : cs[n]? = some c) (hc : chkCon c = 0) (s1 : 1 ≤ s) (hs : s ≤ 65536) (b0 : 0 ≤ b) (b1 : b ≤ 1099511627776) :
    Calls Tryz.prog 25 #[.agg #[uq, uc], .agg #[.int .i64 src, .int .i64 dst, .int .i64 (s : Int), .int .i64 rd, .int .i64 D, .int .i64 pr, .bool cu], .int .i64 (n : Int), .int .i64 b] w fun e w' => e = .returned (.agg #[.int .i64 (n : Int), .int .i64 b, .int .i64 (b + durS c s), .int .i64 (b + durS c s + c.rg)]) ∧ Below w.heap.size w w' := by
  obtain ⟨ca, cc, rfl, e1, e2, e3, e4⟩ := hrow
  have hil := (List.getElem?_eq_some_iff.1 hn).1
  obtain ⟨bb, o, rfl, hbb, hcell⟩ := e4 (by omega)
  have p0 : w.cell? ⟨bb, o + n * 7, none⟩ = some (.int .i64 c.fr) := hcell n c hn 0 _ rfl
  have p1 : w.cell? ⟨bb, o + n * 7 + 1, none⟩ = some (.int .i64 c.tt) := hcell n c hn 1 _ rfl
  have p2 : w.cell? ⟨bb, o + n * 7 + 2, none⟩ = some (.int .i64 c.st) := hcell n c hn 2 _ rfl
  have p3 : w.cell? ⟨bb, o + n * 7 + 3, none⟩ = some (.int .i64 c.en) := hcell n c hn 3 _ rfl
  have p4 : w.cell? ⟨bb, o + n * 7 + 4, none⟩ = some (.int .i64 c.ra) := hcell n c hn 4 _ rfl
  have p5 : w.cell? ⟨bb, o + n * 7 + 5, none⟩ = some (.int .i64 c.rg) := hcell n c hn 5 _ rfl
  have p6 : w.cell? ⟨bb, o + n * 7 + 6, none⟩ = some (.int .i64 c.lo) := hcell n c hn 6 _ rfl
  have hf := con_facts hc
  have hdb := durS_bnd hf (by omega : 0 < s) hs
  have r0 := hf.rg0
  have r1 := hf.rg1
  obtain ⟨Dn, hD⟩ : ∃ q, durS c s = q := ⟨_, rfl⟩
  rw [hD] at hdb ⊢
  have HD := Lib.hid hD
  have HC := Lib.hid hc
  have n0 : (0 : Int) ≤ (n : Int) := by omega
  have n1 : (n : Int) < (cs.length : Int) := by omega
  obtain ⟨rg, hrg⟩ : ∃ q, c.rg = q := ⟨_, rfl⟩
  have HRG := Lib.hid hrg
  have w1_ : IntKind.i64.wrap (b + Dn) = b + Dn := by rw [IntKind.wrap_i64]; omega
  have w2_ : IntKind.i64.wrap (b + Dn + c.rg) = b + Dn + c.rg := by rw [IntKind.wrap_i64]; omega
  unfold maxLen at e2
  clear e3 e4 hcell hf hn hc hD hrg
  go_enter Tryz.func25, Tryz.ntmps25
  go_upto_region 1 with fail
  obtain ⟨w0, hw0⟩ : ∃ q, ((w.alloc (.cells #[uq, .slice (some ⟨bb, o, none⟩) cs.length cc] 25)).alloc (.cells #[.int .i64 src, .int .i64 dst, .int .i64 (s : Int), .int .i64 rd, .int .i64 D, .int .i64 pr, .bool cu] 31)).alloc (.cells #[.int .i64 0, .int .i64 0, .int .i64 0, .int .i64 0] 42) = q := ⟨_, rfl⟩
  rw [hw0]
  have hb0 : Below w.heap.size w w0 := by rw [← hw0]; exact belowA
  have X0 : w0.heap[w.heap.size]? = some (.cells #[uq, .slice (some ⟨bb, o, none⟩) cs.length cc] 25 (0, 0)) := by rw [← hw0]; exact (Below.heap_alloc _ _ _ (by simp; omega)).trans ((Below.heap_alloc _ _ _ (by simp)).trans heap_new)
  have X1 : w0.heap[w.heap.size + 1]? = some (.cells #[.int .i64 src, .int .i64 dst, .int .i64 (s : Int), .int .i64 rd, .int .i64 D, .int .i64 pr, .bool cu] 31 (0, 0)) := by rw [← hw0]; exact (Below.heap_alloc _ _ _ (by simp)).trans (heap_new' (by simp))
  have X2 : Hid (w0.heap[w.heap.size + 1 + 1]? = some (.cells #[.int .i64 0, .int .i64 0, .int .i64 0, .int .i64 0] 42 (0, 0))) := Lib.hid (by rw [← hw0]; exact heap_new' (by simp))
  have z0 : w.heap.size + 1 + 1 < w0.heap.size := by rw [← hw0]; simp
  have hbb0 : bb < w0.heap.size := by omega
  have c0 := fun q => cellB X0 q
  have c1 := fun q => cellB X1 q
  have HB0 := Lib.hid hb0
  have HX1 := Lib.hid X1
  have p0_ := (hb0.cell (p := ⟨bb, o + n * 7, none⟩) hbb).trans p0
  have p1_ := (hb0.cell (p := ⟨bb, o + n * 7 + 1, none⟩) hbb).trans p1
  have p2_ := (hb0.cell (p := ⟨bb, o + n * 7 + 2, none⟩) hbb).trans p2
  have p3_ := (hb0.cell (p := ⟨bb, o + n * 7 + 3, none⟩) hbb).trans p3
  have p4_ := (hb0.cell (p := ⟨bb, o + n * 7 + 4, none⟩) hbb).trans p4
  have p5_ := (hb0.cell (p := ⟨bb, o + n * 7 + 5, none⟩) hbb).trans p5
  have p6_ := (hb0.cell (p := ⟨bb, o + n * 7 + 6, none⟩) hbb).trans p6
  clear hw0 X0 X1 hb0
  go_upto_region 2 with fail
  obtain ⟨w1, hw1⟩ : ∃ q, w0.alloc (.cells #[.int .i64 c.fr, .int .i64 c.tt, .int .i64 c.st, .int .i64 c.en, .int .i64 c.ra, .int .i64 c.rg, .int .i64 c.lo] 38) = q := ⟨_, rfl⟩
  rw [hw1]
  have hb1 : Below w0.heap.size w0 w1 := by rw [← hw1]; exact balloc0 (Below.refl _ _)
  have X3 : Hid (w1.heap[w0.heap.size]? = some (.cells #[.int .i64 c.fr, .int .i64 c.tt, .int .i64 c.st, .int .i64 c.en, .int .i64 c.ra, .int .i64 c.rg, .int .i64 c.lo] 38 (0, 0))) := Lib.hid (by rw [← hw1]; exact heap_new)
  have z1 : w0.heap.size < w1.heap.size := by rw [← hw1]; simp
  have c3 := fun q => cellB X3.out q
  have c1' := fun q => (hb1.cell (p := ⟨w.heap.size + 1, q, none⟩) (by show w.heap.size + 1 < w0.heap.size; omega)).trans (c1 q)
  have HB1 := Lib.hid (HB0.out.trans (hb1.mono HB0.out.size))
  have HX2 := Lib.hid ((hb1.block _ z0).trans X2.out)
  obtain ⟨xB, hxB⟩ : ∃ q, w0.heap.size = q := ⟨_, rfl⟩
  rw [hxB] at z0 z1 X3 c3 ⊢
  clear hw1 hb1 c0 c1 X2 p0 p0_ p1 p1_ p2 p2_ p3 p3_ p4 p4_ p5 p5_ p6 p6_ hxB
  go_wp2_with fail
  refine (Dur_ok c s _ HC.out s1 hs).mono ?_
  rw [HD.out]
  rintro e w2 ⟨rfl, hb2⟩
  have X32 : Hid (w2.heap[xB]? = some (.cells #[.int .i64 c.fr, .int .i64 c.tt, .int .i64 c.st, .int .i64 c.en, .int .i64 c.ra, .int .i64 c.rg, .int .i64 c.lo] 38 (0, 0))) := Lib.hid ((hb2.block _ z1).trans X3.out)
  have HX22 := Lib.hid ((hb2.block _ (by omega)).trans HX2.out)
  have z2 := hb2.size
  have HB2 := Lib.hid (btrans0 HB1.out hb2)
  have c32 := fun q => cellB X32.out q
  have zx2 : xB < w2.heap.size := by omega
  clear hb2 c3 c1'
  go_wp2_with (refine wpList_store_block rfl 42 _ _ rfl (w.heap.size + 1 + 1) #[.int .i64 (n : Int), .int .i64 b, .int .i64 (b + Dn), .int .i64 (b + Dn + c.rg)] _ 42 rfl rfl HX22.out rfl (by kernel_rfl) (by simp [Value.oneCell']) ?_; intro wF hW hbW hsW hoW; have bF : Below w.heap.size w wF := HB2.out.trans (hbW w.heap.size (by omega)); have zF : w.heap.size + 1 + 1 < wF.heap.size := (Array.getElem?_eq_some_iff.1 hW).1; have cF := fun o => cellB hW o; clear hW hbW hsW hoW)
  refine bodyPost_ret (v := .agg #[.int .i64 (n : Int), .int .i64 b, .int .i64 (b + Dn), .int .i64 (b + Dn + c.rg)]) (by simp [results, Tryz.results25, go_sem, World.cell?_setCell_same', cF, zF]) rfl ?_
  exact ⟨rfl, bF⟩
set_option maxRecDepth 100000 in
set_option maxHeartbeats 4000000 in
theorem Hop_ok (qs : List Int) (cs : List Con) (n : Nat) (c : Con) (b : Int) (s : Nat) (uq uc : Value) (src dst rd D pr : Int) (cu : Bool) (w : World) (hq : RRow intC 1 w w.heap.size uq qs) (hrow : RRow conC 7 w w.heap.size uc cs) (hp : PlanOK qs cs) (hr : ReqOK qs.length src dst (s : Int) rd D pr) (hn : cs[n]? = some c) (s1 : 1 ≤ s) (hs : s ≤ 65536) (hb : c.st ≤ b) (b1 : b ≤ 1099511627776) (hfit : b + durS c s ≤ c.en) :
    Calls Tryz.prog 9 #[.agg #[uq, uc], .agg #[.int .i64 src, .int .i64 dst, .int .i64 (s : Int), .int .i64 rd, .int .i64 D, .int .i64 pr, .bool cu], .int .i64 (n : Int), .int .i64 b] w fun e w' => e = .returned (.tuple #[.agg #[.int .i64 (n : Int), .int .i64 b, .int .i64 (b + durS c s), .int .i64 (b + durS c s + c.rg)], .int .i64 0]) ∧ Below w.heap.size w w' := by
  have HQ := Lib.hid hq
  have HW := Lib.hid hrow
  have HP := Lib.hid hp
  have HRQ := Lib.hid hr
  have HN := Lib.hid hn
  have hc : chkCon c = 0 := (hp.2.2 n c hn).1
  have HC := Lib.hid hc
  have hf := con_facts hc
  have f0 := hf.st0
  obtain ⟨aq, cq, rfl, -⟩ := hq
  obtain ⟨ac, cc, rfl, -⟩ := hrow
  have hil := (List.getElem?_eq_some_iff.1 hn).1
  have n0 : (0 : Int) ≤ (n : Int) := by omega
  have n1 : (n : Int) < (cs.length : Int) := by omega
  have d1 : decide ((n : Int) < 0) = false := decide_eq_false (by omega)
  have d2 : decide ((n : Int) ≥ (cs.length : Int)) = false := decide_eq_false (by omega)
  have HD : Hid (decide (b ≤ c.en - durS c s) = true) := Lib.hid (decide_eq_true (by omega))
  clear hp hr hn hc hf
  go_enter Tryz.func9, Tryz.ntmps9
  go_upto_region 1 with fail
  obtain ⟨w0, hw0⟩ : ∃ q, ((w.alloc (.cells #[.slice aq qs.length cq, .slice ac cs.length cc] 25)).alloc (.cells #[.int .i64 src, .int .i64 dst, .int .i64 (s : Int), .int .i64 rd, .int .i64 D, .int .i64 pr, .bool cu] 31)).alloc (.cells #[.int .i64 0, .int .i64 0, .int .i64 0, .int .i64 0] 42) = q := ⟨_, rfl⟩
  rw [hw0]
  have hb0 : Below w.heap.size w w0 := by rw [← hw0]; exact belowA
  have X0 : w0.heap[w.heap.size]? = some (.cells #[.slice aq qs.length cq, .slice ac cs.length cc] 25 (0, 0)) := by rw [← hw0]; exact (Below.heap_alloc _ _ _ (by simp; omega)).trans ((Below.heap_alloc _ _ _ (by simp)).trans heap_new)
  have X1 : w0.heap[w.heap.size + 1]? = some (.cells #[.int .i64 src, .int .i64 dst, .int .i64 (s : Int), .int .i64 rd, .int .i64 D, .int .i64 pr, .bool cu] 31 (0, 0)) := by rw [← hw0]; exact (Below.heap_alloc _ _ _ (by simp)).trans (heap_new' (by simp))
  have X2 : w0.heap[w.heap.size + 1 + 1]? = some (.cells #[.int .i64 0, .int .i64 0, .int .i64 0, .int .i64 0] 42 (0, 0)) := by rw [← hw0]; exact heap_new' (by simp)
  have z0 : w.heap.size + 1 + 1 < w0.heap.size := by rw [← hw0]; simp
  clear hw0
  have c0 := fun q => cellB X0 q
  have c1 := fun q => cellB X1 q
  go_wp2_with fail
  refine (creq_any qs cs _ _ src dst (s : Int) rd D pr cu _ (HQ.out.below' hb0) (HW.out.below' hb0)).mono ?_
  unfold CrPost
  rintro e w1 ⟨⟨r, rfl, -, hr2⟩, hb1⟩
  obtain rfl := hr2 HP.out HRQ.out
  have HB1 := Lib.hid (btrans0 hb0 hb1)
  have X01 := (hb1.block _ (by omega)).trans X0
  have X11 := (hb1.block _ (by omega)).trans X1
  have X21 := Lib.hid ((hb1.block _ z0).trans X2)
  have z1 : w.heap.size + 1 + 1 < w1.heap.size := by have := hb1.size; omega
  have c01 := fun q => cellB X01 q
  have c11 := fun q => cellB X11 q
  have HX0 := Lib.hid X01
  have HX1 := Lib.hid X11
  obtain ⟨a', c', e', q1, q2, -, q4⟩ := HW.out
  obtain ⟨bb, o, e2, hbb, hcell⟩ := q4 (by omega)
  obtain rfl : ac = some ⟨bb, o, none⟩ := by injection e' with g1 g2 g3; rw [g1, e2]
  have p0 : w1.cell? ⟨bb, o + n * 7, none⟩ = some (.int .i64 c.fr) := (HB1.out.cell (p := ⟨bb, o + n * 7, none⟩) hbb).trans (hcell n c HN.out 0 _ rfl)
  have p1 : w1.cell? ⟨bb, o + n * 7 + 1, none⟩ = some (.int .i64 c.tt) := (HB1.out.cell (p := ⟨bb, o + n * 7 + 1, none⟩) hbb).trans (hcell n c HN.out 1 _ rfl)
  have p2 : w1.cell? ⟨bb, o + n * 7 + 2, none⟩ = some (.int .i64 c.st) := (HB1.out.cell (p := ⟨bb, o + n * 7 + 2, none⟩) hbb).trans (hcell n c HN.out 2 _ rfl)
  have p3 : w1.cell? ⟨bb, o + n * 7 + 3, none⟩ = some (.int .i64 c.en) := (HB1.out.cell (p := ⟨bb, o + n * 7 + 3, none⟩) hbb).trans (hcell n c HN.out 3 _ rfl)
  have p4 : w1.cell? ⟨bb, o + n * 7 + 4, none⟩ = some (.int .i64 c.ra) := (HB1.out.cell (p := ⟨bb, o + n * 7 + 4, none⟩) hbb).trans (hcell n c HN.out 4 _ rfl)
  have p5 : w1.cell? ⟨bb, o + n * 7 + 5, none⟩ = some (.int .i64 c.rg) := (HB1.out.cell (p := ⟨bb, o + n * 7 + 5, none⟩) hbb).trans (hcell n c HN.out 5 _ rfl)
  have p6 : w1.cell? ⟨bb, o + n * 7 + 6, none⟩ = some (.int .i64 c.lo) := (HB1.out.cell (p := ⟨bb, o + n * 7 + 6, none⟩) hbb).trans (hcell n c HN.out 6 _ rfl)
  have hbb1 : bb < w1.heap.size := by omega
  have z1a : w.heap.size < w1.heap.size := by omega
  have z1b : w.heap.size + 1 < w1.heap.size := by omega
  clear hr2 hb0 hb1 X0 X1 X2 c0 c1 X01 X11 e' e2 q1 q2 q4 hcell
  go_upto_region 5 with fail
  refine wp_region_plan (fun V => Below (w1).heap.size (w1) V) [0, 1, 0, 0, 1, 0, 0, 1, 3, 0] [0, 1, 2, 3, 4, 5, 6, 7, 8, 9] (by kernel_rfl) (by kernel_rfl) ?_ ?_
  case refine_1 => exact belowA
  (iterate 8 (first | (refine plan_held rfl (by decide) (by rfl) (fun w1 hS => by (try (obtain ⟨_, _⟩ := bcell (hS rfl))); go_simp; rfl) ?_; simp only [Act.put, List.setIfInBounds_toArray, List.set_cons_zero, List.set_cons_succ]) | (refine plan_skip rfl (by decide) (by rfl) ?_; simp only [Act.put, List.setIfInBounds_toArray, List.set_cons_zero, List.set_cons_succ])))
  (refine plan_late rfl rfl (by rfl) (fun K hK => ?_); go_simp)
  refine (Fits_ok c b s _ HC.out s1 hs hb b1).mono ?_
  rw [HD.out]
  rintro e wc33 ⟨rfl, hbc33⟩
  (refine hK _ _ ?_; clear hK K; (try simp only [Act.put, List.setIfInBounds_toArray, List.set_cons_zero, List.set_cons_succ]))
  (iterate 1 (first | (refine plan_held rfl (by decide) (by rfl) (fun w1 hS => by (try (obtain ⟨_, _⟩ := bcell (hS rfl))); go_simp; rfl) ?_; simp only [Act.put, List.setIfInBounds_toArray, List.set_cons_zero, List.set_cons_succ]) | (refine plan_skip rfl (by decide) (by rfl) ?_; simp only [Act.put, List.setIfInBounds_toArray, List.set_cons_zero, List.set_cons_succ])))
  refine plan_done ?_
  have hbd : Below w1.heap.size w1 wc33 := btrans0 (bdrew (Below.refl _ _)) hbc33
  have HB3 := Lib.hid (btrans0 HB1.out hbd)
  have c03 := fun q => cellB ((hbd.block _ (by omega)).trans HX0.out) q
  have c13 := fun q => cellB ((hbd.block _ (by omega)).trans HX1.out) q
  have X23 := Lib.hid ((hbd.block _ z1).trans X21.out)
  have z3 : w.heap.size + 1 + 1 < wc33.heap.size := by have := hbd.size; omega
  clear hbc33 hbd c01 c11 p0 p1 p2 p3 p4 p5 p6
  go_wp2_with fail
  refine (rhop_ok cs n c b s _ _ src dst rd D pr cu _ (HW.out.below' HB3.out) HN.out HC.out s1 hs (by omega) b1).mono ?_
  rintro e w4 ⟨rfl, hb4⟩
  have X24 := Lib.hid ((hb4.block _ z3).trans X23.out)
  have HB4 := Lib.hid (btrans0 HB3.out hb4)
  clear hb4 c03 c13
  go_wp2_with (refine wpList_store_block rfl 42 _ _ rfl (w.heap.size + 1 + 1) #[.int .i64 (n : Int), .int .i64 b, .int .i64 (b + durS c s), .int .i64 (b + durS c s + c.rg)] _ 42 rfl rfl X24.out rfl (by kernel_rfl) (by simp [Value.oneCell']) ?_; intro wF hW hbW hsW hoW; have bF : Below w.heap.size w wF := HB4.out.trans (hbW w.heap.size (by omega)); have zF : w.heap.size + 1 + 1 < wF.heap.size := (Array.getElem?_eq_some_iff.1 hW).1; have cF := fun o => cellB hW o; clear hW hbW hsW hoW)
  refine bodyPost_ret (v := .tuple #[.agg #[.int .i64 (n : Int), .int .i64 b, .int .i64 (b + durS c s), .int .i64 (b + durS c s + c.rg)], .int .i64 0]) (by simp [results, Tryz.results9, go_sem, World.cell?_setCell_same', cF, zF]) rfl ?_
  exact ⟨rfl, bF⟩
end Go.Proofs.YtkokiahmgmeokaaGreat
