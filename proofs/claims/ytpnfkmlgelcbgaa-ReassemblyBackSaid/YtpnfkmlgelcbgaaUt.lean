/- Chapter 18: the law's cut. -/
import Derived.BigQuiet
import Derived.BigRegion
import Derived.Lib.MinMax
import Derived.Test.YtpnfkmlgelcbgaaUs
import Derived.Test.YtpnfkmlgelcbgaaUr
import Derived.Test.YtpnfkmlgelcbgaaUv
import Derived.Test.YtpnfkmlgelcbgaaSx
set_option linter.unusedVariables false
set_option linter.unusedSimpArgs false
namespace Go.Proofs.Ytpnfkmlgelcbgaa
open Go Go.RowKit Iv
attribute [local go_sem] Oper.semAt_some
attribute [local go_sem] B_getElem B_size B_app B_extract B_get B_toList
/-- where a part begins and ends -/
def loS (b : Bun) (f t : Int) : Int := min (b.off + f % (b.payload.length : Int)) (b.off + t % (b.payload.length : Int))
def hiS (b : Bun) (f t : Int) : Int := max (b.off + f % (b.payload.length : Int)) (b.off + t % (b.payload.length : Int)) + 1
def LCutPost (D : Nat → Prop) (c : Bun) (w : World) (e : Ending) (w' : World) : Prop := ∃ u, e = .returned (.tuple #[.agg (bunC c u).toArray, .bool true]) ∧ RBlksD w' (OldD D w w') u c.blocks ∧ Below w.heap.size w w'
theorem lohi {b : Bun} (f t : Int) (h : 0 < b.payload.length) : b.off ≤ loS b f t ∧ loS b f t < hiS b f t ∧ hiS b f t ≤ b.off + b.payload.length := by
  obtain ⟨j, hj, j1⟩ := mod_nat f h
  obtain ⟨k, hk, k1⟩ := mod_nat t h
  unfold loS hiS
  rw [hj, hk]
  omega
theorem fits_cut {b : Bun} (f t : Int) (h : Fits b) : Fits (cutS b f t) := by
  refine ⟨?_, fun x hx => ?_⟩
  · have := h.1
    show ((b.payload.drop _).take _).length ≤ _
    rw [List.length_take, List.length_drop]
    omega
  · have : x ∈ (if 0 < f then copyB b.blocks else b.blocks) := hx
    split at this
    · exact h.2 x (List.mem_filter.1 this).1
    · exact h.2 x this
set_option maxRecDepth 100000 in
set_option maxHeartbeats 16000000 in
theorem lcut1_any (b : Bun) (x : Pt5) (u : Value) (D : Nat → Prop) (w : World) (hD : ∀ q, D q → q < w.heap.size) (h : RBlksD w D u b.blocks) (hf : Fits b) (hv : chkE b = 0) (hc : cutE b = 0) (hx : x.ok) (hag : x.ag = false) :
    Calls Try.prog 33 #[.agg (bunC b u).toArray, .agg (ptC x).toArray] w (LCutPost D (cutS b (loS b x.f x.t) (hiS b x.f x.t)) w) := by
  obtain ⟨f, t, ag, i, o⟩ := x
  simp only at hag
  subst hag
  obtain ⟨⟨f0, f1⟩, ⟨t0, t1⟩, ⟨i0, i1⟩, ⟨o0, o1⟩⟩ := hx
  simp only at f0 f1 t0 t1 i0 i1 o0 o1
  obtain ⟨ba, bc, rfl, -⟩ := id h
  have HRN := Lib.hid h
  have HR0 := Lib.hid (h.to hD)
  have HF := Lib.hid hf
  have HV := Lib.hid hv
  have HC := Lib.hid hc
  clear h hf
  have hvf := valid_facts hv
  have hnp : 0 < b.payload.length := by cases hp : b.payload with | nil => exact absurd hp (cutE_zero hc).2 | cons y r => simp
  obtain ⟨hl1, hl2, hl3⟩ := lohi (b := b) f t hnp
  obtain ⟨n, hn⟩ : ∃ q, b.payload.length = q := ⟨_, rfl⟩
  obtain ⟨A, hA⟩ : ∃ q, b.off = q := ⟨_, rfl⟩
  have HCU : Hid (cutR b (loS b f t) (hiS b f t) = (cutS b (loS b f t) (hiS b f t), 0)) := Lib.hid (by unfold cutR; rw [if_neg (by simp [hv]), if_neg (by simp [hc]), if_neg (by omega)])
  have HSP : Hid (spanR b = (A, A + n, 0)) := Lib.hid (by unfold spanR; rw [if_neg (by simp [hv]), hA, hn])
  obtain ⟨j, hj, j1⟩ := mod_nat f hnp
  obtain ⟨k, hk, k1⟩ := mod_nat t hnp
  rw [hn] at hj hk j1 k1
  have hlo : loS b f t = min (A + j) (A + k) := by unfold loS; rw [hA, hn, hj, hk]
  have hhi : hiS b f t = max (A + j) (A + k) + 1 := by unfold hiS; rw [hA, hn, hj, hk]
  obtain ⟨LO, hLO⟩ : ∃ q, loS b f t = q := ⟨_, rfl⟩
  obtain ⟨HI, hHI⟩ : ∃ q, hiS b f t = q := ⟨_, rfl⟩
  rw [hLO, hHI] at HCU ⊢
  rw [hLO] at hlo hl1 hl2
  rw [hHI] at hhi hl2 hl3
  have HVC := Lib.hid (chk_cutS hv hc hl1 hl2 hl3)
  have HCC := Lib.hid (isF_cutS hc hl1 hl2 hl3)
  have HFC := Lib.hid (fits_cut LO HI HF.out)
  obtain ⟨C, hC⟩ : ∃ q, cutS b LO HI = q := ⟨_, rfl⟩
  rw [hC] at HCU HVC HCC HFC ⊢
  clear hC
  obtain ⟨v1, v2, -, -, v5, -⟩ := hvf
  have hA1 : 0 ≤ A := by omega
  have hA2 : A ≤ 4096 := by omega
  have hn1 : n ≤ 4096 := by omega
  have hn0 : ¬ (n : Int) = 0 := by omega
  have hn00 : ¬ n = 0 := by omega
  have hn01 : 0 < n := by omega
  have hn3 : (0 : Int) < (n : Int) := by omega
  have hn4 : ((n : Int) == 0) = false := by rw [beq_eq_false_iff_ne]; omega
  have fm : (IntKind.i64.wrap f).tmod (n : Int) = (j : Int) := by rw [show IntKind.i64.wrap f = f by unfold IntKind.wrap; simp [IntKind.signed, IntKind.bits]; omega, Int.tmod_eq_emod_of_nonneg f0]; exact hj
  have tm : (IntKind.i64.wrap t).tmod (n : Int) = (k : Int) := by rw [show IntKind.i64.wrap t = t by unfold IntKind.wrap; simp [IntKind.signed, IntKind.bits]; omega, Int.tmod_eq_emod_of_nonneg t0]; exact hk
  obtain ⟨X, hX⟩ : ∃ q, A + (j : Int) = q := ⟨_, rfl⟩
  obtain ⟨Y, hY⟩ : ∃ q, A + (k : Int) = q := ⟨_, rfl⟩
  have xw : IntKind.i64.wrap (A + (j : Int)) = X := by rw [hX]; unfold IntKind.wrap; simp [IntKind.signed, IntKind.bits]; omega
  have yw : IntKind.i64.wrap (A + (k : Int)) = Y := by rw [hY]; unfold IntKind.wrap; simp [IntKind.signed, IntKind.bits]; omega
  rw [hX, hY] at hlo hhi
  have mn : min X Y = LO := hlo.symm
  obtain ⟨MX, hMX⟩ : ∃ q, max X Y = q := ⟨_, rfl⟩
  rw [hMX] at hhi
  have mw : wrap64 (MX + 1) = HI := by rw [hhi]; unfold wrap64; omega
  have sw : A + (n : Int) - A = (n : Int) := by omega
  have d1 : decide (A + (n : Int) ≤ A) = false := decide_eq_false (by omega)
  have sm : A + (n : Int) ≤ 9223372036854775807 := by omega
  clear hX hY hlo hhi hLO hHI hj hk hn hA hv hc hl1 hl2 hl3 v1 v2 v5
  go_enter Try.func33, Try.ntmps33
  simp only [bunC, ptC]
  go_upto_region 1 with fail
  obtain ⟨w1, hw1⟩ : ∃ q, (((w.alloc (.cells (bunC b (.slice ba b.blocks.length bc)).toArray 28 (0, 0))).alloc (.cells #[.int .u8 f, .int .u8 t, .bool false, .int .u8 i, .int .u8 o] 65 (0, 0))).alloc (.cells #[.int .i64 0, .int .i64 0, .int .i64 0, .int .i64 0, .int .i64 0, .int .i64 0, .int .i64 0, .int .i64 0, .int .i64 0, .int .i64 0, .slice none 0 0, .string ⟨#[]⟩] 28  (0, 0))) = q := ⟨_, rfl⟩
  simp only [bunC, parC, zBun, zPar, spC, List.cons_append, List.nil_append] at hw1
  rw [hw1]
  have y1 : w.heap.size < w1.heap.size := by rw [← hw1]; first | (simp; done) | (simp; omega)
  have B1 : Below w.heap.size w w1 := by rw [← hw1]; exact balloc0 (balloc0 (balloc0 (Below.refl _ _)))
  have L0_1 : Below w.heap.size w w1 := B1
  have Xb1 : Hid (w1.heap[w.heap.size]? = some (.cells (bunC b (.slice ba b.blocks.length bc)).toArray 28 (0, 0))) := Lib.hid (by rw [← hw1]; exact (Below.heap_alloc _ _ _ (by first | (simp; done) | (simp; omega))).trans ((Below.heap_alloc _ _ _ (by first | (simp; done) | (simp; omega))).trans (heap_new)))
  have zb1 : w.heap.size < w1.heap.size := by rw [← hw1]; first | (simp; done) | (simp; omega)
  have Xt1 : Hid (w1.heap[w.heap.size + 1]? = some (.cells #[.int .u8 f, .int .u8 t, .bool false, .int .u8 i, .int .u8 o] 65 (0, 0))) := Lib.hid (by rw [← hw1]; exact (Below.heap_alloc _ _ _ (by first | (simp; done) | (simp; omega))).trans (heap_new' (by simp)))
  have zt1 : w.heap.size + 1 < w1.heap.size := by rw [← hw1]; first | (simp; done) | (simp; omega)
  have Xr1 : Hid (w1.heap[w.heap.size + 2]? = some (.cells #[.int .i64 0, .int .i64 0, .int .i64 0, .int .i64 0, .int .i64 0, .int .i64 0, .int .i64 0, .int .i64 0, .int .i64 0, .int .i64 0, .slice none 0 0, .string ⟨#[]⟩] 28  (0, 0))) := Lib.hid (by rw [← hw1]; exact heap_new' (by simp))
  have zr1 : w.heap.size + 2 < w1.heap.size := by rw [← hw1]; first | (simp; done) | (simp; omega)
  clear hw1
  have cb := fun o => cellB Xb1.out o
  have ct := fun o => cellB Xt1.out o
  have cr := fun o => cellB Xr1.out o
  (try simp only [bunC, parC, zBun, zPar, spC, List.cons_append, List.nil_append] at cb ct cr)
  go_wp2_with fail
  refine (spanr_any b _ _ (HR0.out.below' (L0_1)) HF.out).mono ?_
  rw [HSP.out]
  rintro e w2 ⟨rfl, hb2⟩
  have B2 : Below w.heap.size w w2 := btrans0 B1 hb2
  have y2 : w1.heap.size ≤ w2.heap.size := by have := hb2.size; (try simp at this); omega
  have L0_2 : Below w.heap.size w w2 := btrans0 L0_1 hb2
  have Xb2 : Hid (w2.heap[w.heap.size]? = some (.cells (bunC b (.slice ba b.blocks.length bc)).toArray 28 (0, 0))) := Lib.hid ((hb2.block _ (by first | omega | (simp; omega))).trans (Xb1.out))
  have zb2 : w.heap.size < w2.heap.size := by omega
  have Xt2 : Hid (w2.heap[w.heap.size + 1]? = some (.cells #[.int .u8 f, .int .u8 t, .bool false, .int .u8 i, .int .u8 o] 65 (0, 0))) := Lib.hid ((hb2.block _ (by first | omega | (simp; omega))).trans (Xt1.out))
  have zt2 : w.heap.size + 1 < w2.heap.size := by omega
  have Xr2 : Hid (w2.heap[w.heap.size + 2]? = some (.cells #[.int .i64 0, .int .i64 0, .int .i64 0, .int .i64 0, .int .i64 0, .int .i64 0, .int .i64 0, .int .i64 0, .int .i64 0, .int .i64 0, .slice none 0 0, .string ⟨#[]⟩] 28  (0, 0))) := Lib.hid ((hb2.block _ (by first | omega | (simp; omega))).trans (Xr1.out))
  have zr2 : w.heap.size + 2 < w2.heap.size := by omega
  clear cb ct cr
  clear hb2
  have cb := fun o => cellB Xb2.out o
  have ct := fun o => cellB Xt2.out o
  have cr := fun o => cellB Xr2.out o
  (try simp only [bunC, parC, zBun, zPar, spC, List.cons_append, List.nil_append] at cb ct cr)
  go_upto_region 2 with fail
  obtain ⟨w3, hw3⟩ : ∃ q, w2.alloc (.cells #[.int .i64 A, .int .i64 (A + (n : Int))] 47 (0, 0)) = q := ⟨_, rfl⟩
  (try simp only [bunC, parC, zBun, zPar, spC, List.cons_append, List.nil_append] at hw3)
  rw [hw3]
  have y3 : w2.heap.size < w3.heap.size := by rw [← hw3]; simp
  have B3 : Below w.heap.size w w3 := by rw [← hw3]; exact balloc0 B2
  have L0_3 : Below w.heap.size w w3 := by rw [← hw3]; exact balloc0 L0_2
  have Xb3 : Hid (w3.heap[w.heap.size]? = some (.cells (bunC b (.slice ba b.blocks.length bc)).toArray 28 (0, 0))) := Lib.hid (by rw [← hw3]; exact (Below.heap_alloc _ _ _ (by omega)).trans Xb2.out)
  have zb3 : w.heap.size < w3.heap.size := by omega
  have Xt3 : Hid (w3.heap[w.heap.size + 1]? = some (.cells #[.int .u8 f, .int .u8 t, .bool false, .int .u8 i, .int .u8 o] 65 (0, 0))) := Lib.hid (by rw [← hw3]; exact (Below.heap_alloc _ _ _ (by omega)).trans Xt2.out)
  have zt3 : w.heap.size + 1 < w3.heap.size := by omega
  have Xr3 : Hid (w3.heap[w.heap.size + 2]? = some (.cells #[.int .i64 0, .int .i64 0, .int .i64 0, .int .i64 0, .int .i64 0, .int .i64 0, .int .i64 0, .int .i64 0, .int .i64 0, .int .i64 0, .slice none 0 0, .string ⟨#[]⟩] 28  (0, 0))) := Lib.hid (by rw [← hw3]; exact (Below.heap_alloc _ _ _ (by omega)).trans Xr2.out)
  have zr3 : w.heap.size + 2 < w3.heap.size := by omega
  have Xs3 : Hid (w3.heap[w2.heap.size]? = some (.cells #[.int .i64 A, .int .i64 (A + (n : Int))] 47 (0, 0))) := Lib.hid (by rw [← hw3]; exact heap_new)
  have zs3 : w2.heap.size < w3.heap.size := by omega
  clear cb ct cr
  clear hw3
  have cb := fun o => cellB Xb3.out o
  have ct := fun o => cellB Xt3.out o
  have cr := fun o => cellB Xr3.out o
  have cs := fun o => cellB Xs3.out o
  (try simp only [bunC, parC, zBun, zPar, spC, List.cons_append, List.nil_append] at cb ct cr cs)
  go_upto_region 5 with fail
  refine wp_region_plan (fun V => Below (w3).heap.size (w3) V) [0, 1, 0, 1, 0, 0, 0, 0, 0, 1, 0, 1, 0, 0, 0, 0, 0, 0] [0, 1, 2, 3, 4, 5, 6, 7, 8, 9, 10, 11, 12, 13, 14, 15, 16, 17] (by kernel_rfl) (by kernel_rfl) ?_ ?_
  case refine_1 => exact belowA
  (iterate 18 (first | (refine plan_held rfl (by decide) (by rfl) (fun w1 hS => by (try (obtain ⟨_, _⟩ := bcell (hS rfl))); go_simp; rfl) ?_; simp only [Act.put, List.setIfInBounds_toArray, List.set_cons_zero, List.set_cons_succ]) | (refine plan_skip rfl (by decide) (by rfl) ?_; simp only [Act.put, List.setIfInBounds_toArray, List.set_cons_zero, List.set_cons_succ])))
  refine plan_done ?_
  obtain ⟨w4, hw4⟩ : ∃ q, w3.drew = q := ⟨_, rfl⟩
  rw [hw4]
  have hb4 : Below w3.heap.size w3 w4 := by rw [← hw4]; exact bdrew (Below.refl _ _)
  clear hw4
  have B4 : Below w.heap.size w w4 := btrans0 B3 hb4
  have y4 : w3.heap.size ≤ w4.heap.size := hb4.size
  have L0_4 : Below w.heap.size w w4 := btrans0 L0_3 hb4
  have Xb4 : Hid (w4.heap[w.heap.size]? = some (.cells (bunC b (.slice ba b.blocks.length bc)).toArray 28 (0, 0))) := Lib.hid ((hb4.block _ (by omega)).trans Xb3.out)
  have zb4 : w.heap.size < w4.heap.size := by omega
  have Xt4 : Hid (w4.heap[w.heap.size + 1]? = some (.cells #[.int .u8 f, .int .u8 t, .bool false, .int .u8 i, .int .u8 o] 65 (0, 0))) := Lib.hid ((hb4.block _ (by omega)).trans Xt3.out)
  have zt4 : w.heap.size + 1 < w4.heap.size := by omega
  have Xr4 : Hid (w4.heap[w.heap.size + 2]? = some (.cells #[.int .i64 0, .int .i64 0, .int .i64 0, .int .i64 0, .int .i64 0, .int .i64 0, .int .i64 0, .int .i64 0, .int .i64 0, .int .i64 0, .slice none 0 0, .string ⟨#[]⟩] 28  (0, 0))) := Lib.hid ((hb4.block _ (by omega)).trans Xr3.out)
  have zr4 : w.heap.size + 2 < w4.heap.size := by omega
  have Xs4 : Hid (w4.heap[w2.heap.size]? = some (.cells #[.int .i64 A, .int .i64 (A + (n : Int))] 47 (0, 0))) := Lib.hid ((hb4.block _ (by omega)).trans Xs3.out)
  have zs4 : w2.heap.size < w4.heap.size := by omega
  clear cb ct cr cs
  clear hb4
  have cb := fun o => cellB Xb4.out o
  have ct := fun o => cellB Xt4.out o
  have cr := fun o => cellB Xr4.out o
  have cs := fun o => cellB Xs4.out o
  (try simp only [bunC, parC, zBun, zPar, spC, List.cons_append, List.nil_append] at cb ct cr cs)
  go_wp2_with fail
  refine (cutrD_any b _ LO HI D _ (fun q hq => by have := hD q hq; omega) (HRN.out.keep (fun q o hq => B4.cell (p := ⟨q, o, none⟩) (by simpa using hD q hq)) (fun _ h => h)) HF.out).mono ?_
  unfold BunEPostD
  rw [HCU.out]
  rintro e w5 ⟨uc, rfl, hc, hb5⟩
  have B5 : Below w.heap.size w w5 := btrans0 B4 hb5
  have y5 : w4.heap.size ≤ w5.heap.size := by have := hb5.size; (try simp at this); omega
  have L0_5 : Below w.heap.size w w5 := btrans0 L0_4 hb5
  have Xb5 : Hid (w5.heap[w.heap.size]? = some (.cells (bunC b (.slice ba b.blocks.length bc)).toArray 28 (0, 0))) := Lib.hid ((hb5.block _ (by first | omega | (simp; omega))).trans (Xb4.out))
  have zb5 : w.heap.size < w5.heap.size := by omega
  have Xt5 : Hid (w5.heap[w.heap.size + 1]? = some (.cells #[.int .u8 f, .int .u8 t, .bool false, .int .u8 i, .int .u8 o] 65 (0, 0))) := Lib.hid ((hb5.block _ (by first | omega | (simp; omega))).trans (Xt4.out))
  have zt5 : w.heap.size + 1 < w5.heap.size := by omega
  have Xr5 : Hid (w5.heap[w.heap.size + 2]? = some (.cells #[.int .i64 0, .int .i64 0, .int .i64 0, .int .i64 0, .int .i64 0, .int .i64 0, .int .i64 0, .int .i64 0, .int .i64 0, .int .i64 0, .slice none 0 0, .string ⟨#[]⟩] 28  (0, 0))) := Lib.hid ((hb5.block _ (by first | omega | (simp; omega))).trans (Xr4.out))
  have zr5 : w.heap.size + 2 < w5.heap.size := by omega
  have Xs5 : Hid (w5.heap[w2.heap.size]? = some (.cells #[.int .i64 A, .int .i64 (A + (n : Int))] 47 (0, 0))) := Lib.hid ((hb5.block _ (by first | omega | (simp; omega))).trans (Xs4.out))
  have zs5 : w2.heap.size < w5.heap.size := by omega
  clear cb ct cr cs
  simp only at hc
  obtain ⟨ca_, cc_, rfl, -⟩ := id hc
  obtain ⟨m, hm⟩ : ∃ q, C.blocks.length = q := ⟨_, rfl⟩
  rw [hm] at hc ⊢
  have HM := Lib.hid hm
  have HCD := Lib.hid hc
  clear hc hm
  clear hb5
  have cb := fun o => cellB Xb5.out o
  have ct := fun o => cellB Xt5.out o
  have cr := fun o => cellB Xr5.out o
  have cs := fun o => cellB Xs5.out o
  (try simp only [bunC, parC, zBun, zPar, spC, List.cons_append, List.nil_append] at cb ct cr cs)
  simp only [bunC]
  go_upto_region 7 with fail
  obtain ⟨w6, hw6⟩ : ∃ q, w5.alloc (.cells (bunC C (.slice ca_ m cc_)).toArray 28 (0, 0)) = q := ⟨_, rfl⟩
  (try simp only [bunC, parC, zBun, zPar, spC, List.cons_append, List.nil_append] at hw6)
  rw [hw6]
  have y6 : w5.heap.size < w6.heap.size := by rw [← hw6]; simp
  have B6 : Below w.heap.size w w6 := by rw [← hw6]; exact balloc0 B5
  have L0_6 : Below w.heap.size w w6 := by rw [← hw6]; exact balloc0 L0_5
  have L5_6 : Below w5.heap.size w5 w6 := by rw [← hw6]; exact balloc0 (Below.refl _ _)
  have Xb6 : Hid (w6.heap[w.heap.size]? = some (.cells (bunC b (.slice ba b.blocks.length bc)).toArray 28 (0, 0))) := Lib.hid (by rw [← hw6]; exact (Below.heap_alloc _ _ _ (by omega)).trans Xb5.out)
  have zb6 : w.heap.size < w6.heap.size := by omega
  have Xt6 : Hid (w6.heap[w.heap.size + 1]? = some (.cells #[.int .u8 f, .int .u8 t, .bool false, .int .u8 i, .int .u8 o] 65 (0, 0))) := Lib.hid (by rw [← hw6]; exact (Below.heap_alloc _ _ _ (by omega)).trans Xt5.out)
  have zt6 : w.heap.size + 1 < w6.heap.size := by omega
  have Xr6 : Hid (w6.heap[w.heap.size + 2]? = some (.cells #[.int .i64 0, .int .i64 0, .int .i64 0, .int .i64 0, .int .i64 0, .int .i64 0, .int .i64 0, .int .i64 0, .int .i64 0, .int .i64 0, .slice none 0 0, .string ⟨#[]⟩] 28  (0, 0))) := Lib.hid (by rw [← hw6]; exact (Below.heap_alloc _ _ _ (by omega)).trans Xr5.out)
  have zr6 : w.heap.size + 2 < w6.heap.size := by omega
  have Xs6 : Hid (w6.heap[w2.heap.size]? = some (.cells #[.int .i64 A, .int .i64 (A + (n : Int))] 47 (0, 0))) := Lib.hid (by rw [← hw6]; exact (Below.heap_alloc _ _ _ (by omega)).trans Xs5.out)
  have zs6 : w2.heap.size < w6.heap.size := by omega
  have Xc6 : Hid (w6.heap[w5.heap.size]? = some (.cells (bunC C (.slice ca_ m cc_)).toArray 28 (0, 0))) := Lib.hid (by rw [← hw6]; exact heap_new)
  have zc6 : w5.heap.size < w6.heap.size := by omega
  clear cb ct cr cs
  clear hw6
  have cb := fun o => cellB Xb6.out o
  have ct := fun o => cellB Xt6.out o
  have cr := fun o => cellB Xr6.out o
  have cs := fun o => cellB Xs6.out o
  have cc := fun o => cellB Xc6.out o
  (try simp only [bunC, parC, zBun, zPar, spC, List.cons_append, List.nil_append] at cb ct cr cs cc)
  have HCE : Hid (RBlksD w6 (OldD D w4 w6) (.slice ca_ m cc_) C.blocks) := Lib.hid (RBlksD.keep (D := OldD D w4 w5) (by exact HCD.out) (fun q o hq => World.cell?_of_block (L5_6.block q (by rcases hq with hq | hq; (have := hD q hq; omega); omega))) (fun q hq => hq.elim Or.inl (fun hq => Or.inr ⟨hq.1, by have := hq.2; omega⟩)))
  go_wp2_with (refine wpList_store_block rfl 28 _ _ rfl (w.heap.size + 2) #[.int .i64 C.src, .int .i64 C.crt, .int .i64 C.seq, .int .i64 C.off, .int .i64 C.tot, .int .i64 C.dk, .int .i64 C.dn, .int .i64 C.life, .int .i64 C.prio, .int .i64 C.flags, .slice ca_ m cc_, .string (B C.payload)] _ 28 rfl rfl Xr6.out rfl (by kernel_rfl) (by simp [Value.oneCell']) ?_; intro wF hW hbW hsW hoW; have bF : Below w.heap.size w wF := B6.trans (hbW _ (by omega)); have zF : w.heap.size + 2 < wF.heap.size := (by rw [hsW]; exact zr6); have cF := fun o => cellB hW o; have DF : Hid (RBlksD wF (OldD D w wF) (.slice ca_ m cc_) C.blocks) := Lib.hid (RBlksD.keep HCE.out (fun q o hq => World.cell?_of_block (hoW q (by rcases hq with hq | hq; (have := hD q hq; omega); omega))) (fun q hq => hq.elim Or.inl (fun hq => Or.inr ⟨by have := hq.1; omega, by have := hq.2; omega⟩))); clear hW hbW hsW hoW)
  refine bodyPost_ret (v := .tuple #[.agg #[.int .i64 C.src, .int .i64 C.crt, .int .i64 C.seq, .int .i64 C.off, .int .i64 C.tot, .int .i64 C.dk, .int .i64 C.dn, .int .i64 C.life, .int .i64 C.prio, .int .i64 C.flags, .slice ca_ m cc_, .string (B C.payload)], .bool true]) (by simp [results, Try.results33, go_sem, World.cell?_setCell_same', cF, zF]) rfl ?_
  exact ⟨_, rfl, DF.out, bF⟩
end Go.Proofs.Ytpnfkmlgelcbgaa
