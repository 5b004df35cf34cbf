/- search.Arrival. -/
import Derived.BigQuiet
import Derived.BigRegion
import Derived.Deep.DeepCutAuto
import Derived.Deep.CutBlock
import Derived.Test.YtkokiahmgmeokaaGreatKft
import Derived.Test.YtkokiahmgmeokaaGreatKfj
set_option linter.unusedVariables false
set_option linter.unusedSimpArgs false
namespace Go.Proofs.YtkokiahmgmeokaaGreat
open Go Go.RowKit Iv
attribute [local go_sem] Oper.semAt_some
attribute [local go_sem] B_getElem B_size B_app B_extract B_get B_toList
def ArrPost (qs : List Int) (cs : List Con) (l : List Bkg) (hs : List Hld) (src dst : Int) (s : Nat) (rd D pr : Int) (cu : Bool) (w : World) (e : Ending) (w' : World) : Prop :=
  (∃ x f : Int, e = .returned (.tuple #[.int .i64 x, .int .i64 f]) ∧ (hs = [] → ∃ O, LabOK (gOf cs l (qs.map (fun q => roomS q (s : Int))) src dst s rd D pr cu) O ∧
    (((arrL (gOf cs l (qs.map (fun q => roomS q (s : Int))) src dst s rd D pr cu) O).2 = true ∧ x = (arrL (gOf cs l (qs.map (fun q => roomS q (s : Int))) src dst s rd D pr cu) O).1 ∧ f = 0) ∨ ((arrL (gOf cs l (qs.map (fun q => roomS q (s : Int))) src dst s rd D pr cu) O).2 = false ∧ f = 18)))) ∧ Below w.heap.size w w'
set_option maxRecDepth 100000 in
set_option maxHeartbeats 4000000 in
theorem Arrival_any (qs : List Int) (cs : List Con) (l : List Bkg) (hs : List Hld) (src dst : Int) (s : Nat) (rd D pr : Int) (cu : Bool) (uq uc ub uh : Value) (w : World) (hq : RRow intC 1 w w.heap.size uq qs) (hc : RRow conC 7 w w.heap.size uc cs) (hl : RRow bkgC 4 w w.heap.size ub l) (hh : RRow hldC 5 w w.heap.size uh hs)
    (hp : PlanOK qs cs) (hb : BkOK cs l) (hr : ReqOK qs.length src dst (s : Int) rd D pr) :
    Calls Tryz.prog 13 #[.agg #[uq, uc, ub, uh], .agg #[.int .i64 src, .int .i64 dst, .int .i64 (s : Int), .int .i64 rd, .int .i64 D, .int .i64 pr, .bool cu]] w (ArrPost qs cs l hs src dst s rd D pr cu w) := by
  have HQ := Lib.hid hq
  have HC := Lib.hid hc
  have HL := Lib.hid hl
  have HH := Lib.hid hh
  have HP := Lib.hid hp
  have HB := Lib.hid hb
  have HR := Lib.hid hr
  obtain ⟨aq, cq, rfl, -⟩ := hq
  obtain ⟨ac, cc, rfl, -⟩ := hc
  obtain ⟨al, cl, rfl, -⟩ := hl
  obtain ⟨ah, ch, rfl, -⟩ := hh
  clear hp hb hr
  unfold ArrPost
  go_enter Tryz.func13, Tryz.ntmps13
  go_upto_region 1 with fail
  obtain ⟨w1, hw1⟩ : ∃ q, (w.alloc (.cells #[.slice aq qs.length cq, .slice ac cs.length cc, .slice al l.length cl, .slice ah hs.length ch] 29)).alloc (.cells #[.int .i64 src, .int .i64 dst, .int .i64 (s : Int), .int .i64 rd, .int .i64 D, .int .i64 pr, .bool cu] 31) = q := ⟨_, rfl⟩
  rw [hw1]
  have hb1 : Below w.heap.size w w1 := by rw [← hw1]; exact belowA
  have X0 : w1.heap[w.heap.size]? = some (.cells #[.slice aq qs.length cq, .slice ac cs.length cc, .slice al l.length cl, .slice ah hs.length ch] 29 (0, 0)) := by rw [← hw1]; exact (Below.heap_alloc _ _ _ (by simp)).trans heap_new
  have X1 : w1.heap[w.heap.size + 1]? = some (.cells #[.int .i64 src, .int .i64 dst, .int .i64 (s : Int), .int .i64 rd, .int .i64 D, .int .i64 pr, .bool cu] 31 (0, 0)) := by rw [← hw1]; exact heap_new' (by simp)
  have z1 : w.heap.size + 1 < w1.heap.size := (Array.getElem?_eq_some_iff.1 X1).1
  have z1' : w.heap.size < w1.heap.size := by omega
  clear hw1
  have HB1 := Lib.hid hb1
  have c0 := fun q => cellB X0 q
  have c1_ := fun q => cellB X1 q
  clear X0 X1 hb1
  go_wp2_with fail
  refine (build_any qs cs l hs src dst s rd D pr cu _ _ _ _ _ (HQ.out.below' HB1.out) (HC.out.below' HB1.out) (HL.out.below' HB1.out) (HH.out.below' HB1.out) HP.out HB.out HR.out).mono ?_
  unfold BuildPost
  rintro e w2 ⟨hcase, hb2⟩
  have HB2 := Lib.hid (btrans0 HB1.out hb2)
  clear hb2 c0 c1_
  rcases hcase with ⟨R, gB, rfl, hR, hgr⟩ | ⟨hne, rfl⟩
  · have HG := Lib.hid hgr
    have HRO := Lib.hid hR
    have HOK := Lib.hid (gOf_ok cu HP.out HB.out HR.out hR)
    obtain ⟨g, hg⟩ : ∃ q, gOf cs l R src dst s rd D pr cu = q := ⟨_, rfl⟩
    have HNE : Hid (g.src ≠ g.dst) := Lib.hid (by rw [← hg]; exact HR.out.2.1)
    rw [hg] at HG HOK
    have HGE := Lib.hid hg
    have zg := HG.out.lt
    clear hgr hR hg
    go_wp2_with fail
    refine (labels_any g HOK.out gB _ HG.out HNE.out).mono ?_
    rintro e w3 ⟨O, v, rfl, hro, hlo, hb3⟩
    have HRO3 := Lib.hid hro
    have HLO := Lib.hid hlo
    have HG3 := Lib.hid (HG.out.below hb3)
    have HB3 := Lib.hid (btrans0 HB2.out hb3)
    obtain ⟨va, vc, rfl, -⟩ := id hro
    clear hro hlo hb3
    go_wp2_with fail
    refine (arr_any g HOK.out gB O _ _ HG3.out HRO3.out (fun x hx => by obtain ⟨_, _, _, _, h1, h2⟩ := HLO.out.vd x hx; have := HOK.out.d1; unfold lOK; omega)).mono ?_
    obtain ⟨p, hp⟩ : ∃ q, arrL g O = q := ⟨_, rfl⟩
    have HPP := Lib.hid hp
    rw [hp]
    obtain ⟨p1, p2⟩ := p
    clear hp
    rintro e w4 ⟨rfl, hb4⟩
    have HB4 := Lib.hid (btrans0 HB3.out hb4)
    clear hb4
    have HE : Hid (hs = [] → gOf cs l (qs.map (fun q => roomS q (s : Int))) src dst s rd D pr cu = g) := Lib.hid (fun h => by rw [← HRO.out.2.2 h]; exact HGE.out)
    cases p2 with
    | true =>
      go_wp2
      refine bodyPost_ret (results_tmp2 rfl _ _ _) rfl ?_
      exact ⟨⟨_, _, rfl, fun h => ⟨O, by rw [HE.out h]; exact HLO.out, .inl (by rw [HE.out h, HPP.out]; exact ⟨rfl, rfl, rfl⟩)⟩⟩, HB4.out⟩
    | false =>
      go_wp2
      refine bodyPost_ret (results_tmp2 rfl _ _ _) rfl ?_
      exact ⟨⟨_, _, rfl, fun h => ⟨O, by rw [HE.out h]; exact HLO.out, .inr (by rw [HE.out h, HPP.out]; exact ⟨rfl, rfl⟩)⟩⟩, HB4.out⟩
  · have HNE := Lib.hid hne
    clear hne
    go_wp2
    refine bodyPost_ret (results_tmp2 rfl _ _ _) rfl ?_
    exact ⟨⟨_, _, rfl, fun h => absurd h HNE.out⟩, HB2.out⟩
end Go.Proofs.YtkokiahmgmeokaaGreat
