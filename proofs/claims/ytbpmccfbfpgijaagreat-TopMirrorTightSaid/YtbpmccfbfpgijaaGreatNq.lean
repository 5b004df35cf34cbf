/- TopMirrorTight: latest.of (printed by gen/g22.py) -/
import Derived.BigQuiet
import Derived.BigRegion
import Derived.Test.YtbpmccfbfpgijaaGreatNp
set_option linter.unusedVariables false
set_option linter.unusedSimpArgs false
namespace Go.Proofs.YtbpmccfbfpgijaaGreat
open Go Go.RowKit Iv
attribute [local go_sem] Oper.semAt_some
attribute [local go_sem] B_getElem B_size B_app B_extract B_get B_toList
set_option maxRecDepth 100000 in
set_option maxHeartbeats 4000000 in
theorem of_ok (qs : List Int) (cs : List Con) (uq uc : Value) (src dst s : Nat) (rd D pr : Int) (cu : Bool) (w : World) (hq : RRow intC 1 w w.heap.size uq qs) (hc : RRow conC 7 w w.heap.size uc cs) (hp : PlanOK qs cs) (hsrc : src < qs.length) (hdst : dst < qs.length) (hne : src ≠ dst) (r0 : 0 ≤ rd) (r1 : rd ≤ D) (hD1 : D ≤ 1099511627776) (s1 : 1 ≤ s) (hs : s ≤ 65536) (p0 : 0 ≤ pr) (p1 : pr ≤ 2)
    (hge : ∀ L, Mt.LInv (dS s) dst D cs qs.length L → (∀ c ∈ cs, ¬ Mt.better (dS s) dst L c) → rd ≤ Mt.at_ L src) :
    Calls Tryz.prog 16 #[.agg #[uq, uc], .agg #[.int .i64 (src : Int), .int .i64 (dst : Int), .int .i64 (s : Int), .int .i64 rd, .int .i64 D, .int .i64 pr, .bool cu]] w fun e w' => ∃ u, e = .returned (.tuple #[u, .int .i64 0]) ∧ TimesPost cs qs.length s dst D w (.returned u) w' := by
  have HQ := Lib.hid hq
  have HC := Lib.hid hc
  have HP := Lib.hid hp
  have HGE := Lib.hid hge
  have hl := hp.1
  have HNE := Lib.hid hne
  obtain ⟨aq, cq, rfl, -⟩ := hq
  obtain ⟨ac, cc, rfl, -⟩ := hc
  clear hp hge hne
  go_enter Tryz.func16, Tryz.ntmps16
  go_wp2_with fail
  refine (planchk_any qs cs _ _ _ (HQ.out.below' belowA) (HC.out.below' belowA)).mono ?_
  unfold PlanPost
  rintro e w1 ⟨⟨r, rfl, -, hr2⟩, hb1⟩
  obtain rfl := hr2 HP.out
  have hB1 : Below w.heap.size w w1 := btrans0 (by exact belowA) hb1
  have GP : w1.heap[w.heap.size]? = some (.cells #[.slice aq qs.length cq, .slice ac cs.length cc] 25 (0, 0)) := (hb1.block _ (by simp; omega)).trans (by repeat (first | exact heap_new' (by first | rfl | (simp; done)) | refine (Below.heap_alloc _ _ _ (by first | (simp; done) | (simp; omega))).trans ?_))
  have GQ : w1.heap[w.heap.size + 1]? = some (.cells #[.int .i64 (src : Int), .int .i64 (dst : Int), .int .i64 (s : Int), .int .i64 rd, .int .i64 D, .int .i64 pr, .bool cu] 27 (0, 0)) := (hb1.block _ (by simp)).trans (by repeat (first | exact heap_new' (by first | rfl | (simp; done)) | refine (Below.heap_alloc _ _ _ (by first | (simp; done) | (simp; omega))).trans ?_))
  have cp := fun o => cellB GP o
  have cq_ := fun o => cellB GQ o
  have z1 : w.heap.size + 1 < w1.heap.size := (Array.getElem?_eq_some_iff.1 GQ).1
  have HGP := Lib.hid GP
  have HGQ := Lib.hid GQ
  have HB1 := Lib.hid hB1
  clear hr2 hb1 hB1 GP GQ
  go_wp2_with fail
  refine (request_ok aq qs.length cq _ src dst s rd D pr cu _ hsrc hdst HNE.out r0 r1 hD1 s1 hs p0 p1 hl.2.1).mono ?_
  rintro e w2 ⟨rfl, hb2⟩
  have hB2 : Below w.heap.size w w2 := btrans0 HB1.out hb2
  have GP : w2.heap[w.heap.size]? = some (.cells #[.slice aq qs.length cq, .slice ac cs.length cc] 25 (0, 0)) := (hb2.block _ (by omega)).trans HGP.out
  have GQ : w2.heap[w.heap.size + 1]? = some (.cells #[.int .i64 (src : Int), .int .i64 (dst : Int), .int .i64 (s : Int), .int .i64 rd, .int .i64 D, .int .i64 pr, .bool cu] 27 (0, 0)) := (hb2.block _ (by omega)).trans HGQ.out
  have z2 : w.heap.size + 1 < w2.heap.size := (Array.getElem?_eq_some_iff.1 GQ).1
  clear cp cq_
  have cp := fun o => cellB GP o
  have cq_ := fun o => cellB GQ o
  have HGP2 := Lib.hid GP
  have HGQ2 := Lib.hid GQ
  have HRC := Lib.hid (HC.out.below' hB2)
  have HB2 := Lib.hid hB2
  clear hb2 hB2 GP GQ
  go_wp2_with fail
  refine (times_any aq qs.length cq _ cs s dst D _ HRC.out hl.2.2 hl.2.1 hdst (by omega) hD1 s1 hs (plan_cons HP.out)).mono ?_
  unfold TimesPost
  rintro e w3 ⟨gt, nt, L, rfl, h1, h2, h3, h4, h5⟩
  have hlr := HGE.out L h3 h4
  obtain ⟨x, hx⟩ : ∃ x, L[src]? = some x := ⟨_, List.getElem?_eq_getElem (by have := h3.len; omega)⟩
  have ax : Mt.at_ L src = x := by unfold Mt.at_; rw [List.getD_eq_getElem?_getD, hx]; rfl
  rw [ax] at hlr
  have q1 : w3.cell? ⟨gt, src, none⟩ = some (.int .i64 x) := by rw [cellB h2]; simp [hx]
  have GQ : w3.heap[w.heap.size + 1]? = some (.cells #[.int .i64 (src : Int), .int .i64 (dst : Int), .int .i64 (s : Int), .int .i64 rd, .int .i64 D, .int .i64 pr, .bool cu] 27 (0, 0)) := (h5.block _ (by omega)).trans HGQ2.out
  have HH := Lib.hid (And.intro h2 (And.intro h3 h4))
  have HB := Lib.hid (btrans0 HB2.out h5)
  have zz : w.heap.size ≤ gt := Nat.le_trans HB2.out.size h1
  have dd : decide (x < rd) = false := decide_eq_false (by omega)
  have i0 : (0 : Int) ≤ (src : Int) := by omega
  have i1 : (src : Int) < (qs.length : Int) := by omega
  have z3 : w.heap.size + 1 < w3.heap.size := (Array.getElem?_eq_some_iff.1 GQ).1
  clear cp cq_
  have cq_ := fun o => cellB GQ o
  clear h1 h2 h3 h4 h5 hx ax GQ
  go_wp2_with fail
  go_quiet (fail)
  go_wp2
  go_ret2
  exact ⟨_, rfl, gt, nt, L, rfl, zz, HH.out.1, HH.out.2.1, HH.out.2.2, bdrewN HB.out _⟩
end Go.Proofs.YtbpmccfbfpgijaaGreat
