/-
  Proved: mailboatlaw18.ReassemblyTwice returns true for every input, and leaves its arguments as they were. No condition.
-/
import Derived.Test.YtpnfkmlgelcbgaaRows
import Derived.Test.YtpnfkmlgelcbgaaUl
import Derived.Test.YtpnfkmlgelcbgaaUm
import Derived.Test.YtpnfkmlgelcbgaaJn
set_option linter.unusedVariables false
set_option linter.unusedSimpArgs false
namespace Go.Proofs.Ytpnfkmlgelcbgaa.reassemblyTwice
open Go Go.ChangeShapes Go.WideShapes Go.ChangeAt Go.RowKit Go.Joins Go.Proofs.Ytpnfkmlgelcbgaa
attribute [local go_sem] B_getElem B_size B_app B_extract B_get B_toList

theorem own : ownKnob Try.prog.godebug = none := by kernel_rfl

open Iv
attribute [local go_sem] Oper.semAt_some
set_option maxRecDepth 100000 in
set_option maxHeartbeats 16000000 in
theorem walk (p : Par) (ub uk : Value) (b : Bun) (u : Value) (w : World) (hh : RBlks w w.heap.size ub p.head.blocks) (hk : RSps w w.heap.size uk p.known) (hfp : Fits p.head) (hdp : p.data.length ≤ maxLen) (hr : RBlks w w.heap.size u b.blocks) (hfb : Fits b) :
    Calls Try.prog 7 #[.agg (parC p ub uk).toArray, .agg (bunC b u).toArray] w (Says w) := by
  obtain ⟨pa, pc, rfl, -⟩ := id hh
  obtain ⟨qa, qc, rfl, -⟩ := id hk
  obtain ⟨ba, bc, rfl, -⟩ := id hr
  have HH0 := Lib.hid hh
  have HK0 := Lib.hid hk
  have HR0 := Lib.hid hr
  have HFP := Lib.hid hfp
  have HDP := Lib.hid hdp
  have HFB := Lib.hid hfb
  clear hh hk hr hfp hdp hfb
  obtain ⟨⟨VN, EN⟩, hN⟩ : ∃ q, newP b = q := ⟨_, rfl⟩
  obtain ⟨⟨VQ, EF⟩, hQ⟩ : ∃ q, addP p b = q := ⟨_, rfl⟩
  have HN := Lib.hid hN
  have HQ := Lib.hid hQ
  have HFN : Hid (Fits VN.head ∧ VN.data.length ≤ maxLen) := Lib.hid (by have := newP_fits b; rw [hN] at this; exact this)
  have HFQ : Hid (Fits VQ.head ∧ VQ.data.length ≤ maxLen) := Lib.hid (by have := addP_fits p b; rw [hQ] at this; exact this)
  clear hN hQ
  go_enter Try.func7, Try.ntmps7
  simp only [parC, bunC, List.cons_append, List.nil_append]
  go_upto_region 1 with fail
  obtain ⟨w1, hw1⟩ : ∃ q, ((w.alloc (.cells (parC p (.slice pa p.head.blocks.length pc) (.slice qa p.known.length qc)).toArray 31 (0, 0))).alloc (.cells (bunC b (.slice ba b.blocks.length bc)).toArray 28 (0, 0))) = q := ⟨_, rfl⟩
  simp only [bunC, parC, zBun, zPar, spC, List.cons_append, List.nil_append] at hw1
  rw [hw1]
  have y1 : w.heap.size < w1.heap.size := by rw [← hw1]; first | (simp; done) | (simp; omega)
  have B1 : Below w.heap.size w w1 := by rw [← hw1]; exact balloc0 (balloc0 (Below.refl _ _))
  have L0_1 : Below w.heap.size w w1 := B1
  have Xp1 : Hid (w1.heap[w.heap.size]? = some (.cells (parC p (.slice pa p.head.blocks.length pc) (.slice qa p.known.length qc)).toArray 31 (0, 0))) := Lib.hid (by rw [← hw1]; exact (Below.heap_alloc _ _ _ (by simp)).trans (heap_new))
  have zp1 : w.heap.size < w1.heap.size := by rw [← hw1]; first | (simp; done) | (simp; omega)
  have Xb1 : Hid (w1.heap[w.heap.size + 1]? = some (.cells (bunC b (.slice ba b.blocks.length bc)).toArray 28 (0, 0))) := Lib.hid (by rw [← hw1]; exact heap_new' (by simp))
  have zb1 : w.heap.size + 1 < w1.heap.size := by rw [← hw1]; first | (simp; done) | (simp; omega)
  clear hw1
  have cp := fun o => cellB Xp1.out o
  have cb := fun o => cellB Xb1.out o
  simp only [bunC, parC, zBun, zPar, spC, List.cons_append, List.nil_append] at cp cb
  go_wp2_with fail
  refine (pgreat_any p _ _ _ (HH0.out.below' (L0_1)) (HK0.out.below' (L0_1)) HFP.out HDP.out).mono ?_
  rintro e w2 ⟨gp, rfl, hb2⟩
  have B2 : Below w.heap.size w w2 := btrans0 B1 hb2
  have y2 : w1.heap.size ≤ w2.heap.size := by have := hb2.size; (try simp at this); omega
  have L0_2 : Below w.heap.size w w2 := btrans0 L0_1 hb2
  have Xp2 : Hid (w2.heap[w.heap.size]? = some (.cells (parC p (.slice pa p.head.blocks.length pc) (.slice qa p.known.length qc)).toArray 31 (0, 0))) := Lib.hid ((hb2.block _ (by first | omega | (simp; omega))).trans (Xp1.out))
  have zp2 : w.heap.size < w2.heap.size := by omega
  have Xb2 : Hid (w2.heap[w.heap.size + 1]? = some (.cells (bunC b (.slice ba b.blocks.length bc)).toArray 28 (0, 0))) := Lib.hid ((hb2.block _ (by first | omega | (simp; omega))).trans (Xb1.out))
  have zb2 : w.heap.size + 1 < w2.heap.size := by omega
  clear cp cb
  clear hb2
  have cp := fun o => cellB Xp2.out o
  have cb := fun o => cellB Xb2.out o
  simp only [bunC, parC, zBun, zPar, spC, List.cons_append, List.nil_append] at cp cb
  cases gp with
  | true =>
    go_wp2_with fail
    refine (awake_any _).mono ?_
    rintro e w99 ⟨rfl, hb99⟩
    go_wp2
    go_ret
    exact ⟨rfl, belowA⟩
  | false =>
  go_wp2_with fail
  refine (great18_any [b] _ _ (runs1 (x := b) (ux := (.slice ba b.blocks.length bc)) (by exact heap_new) (HR0.out.below' (balloc0 (L0_2)))) (fun x hx => by simp at hx; subst hx; exact HFB.out)).mono ?_
  rintro e w3 ⟨gr, rfl, -, hb3⟩
  have B3 : Below w.heap.size w w3 := btrans0 (balloc0 B2) hb3
  have y3 : w2.heap.size ≤ w3.heap.size := by have := hb3.size; (try simp at this); omega
  have L0_3 : Below w.heap.size w w3 := btrans0 (balloc0 L0_2) hb3
  have Xp3 : Hid (w3.heap[w.heap.size]? = some (.cells (parC p (.slice pa p.head.blocks.length pc) (.slice qa p.known.length qc)).toArray 31 (0, 0))) := Lib.hid ((hb3.block _ (by first | omega | (simp; omega))).trans ((Below.heap_alloc _ _ _ (by first | omega | (simp; omega))).trans (Xp2.out)))
  have zp3 : w.heap.size < w3.heap.size := by omega
  have Xb3 : Hid (w3.heap[w.heap.size + 1]? = some (.cells (bunC b (.slice ba b.blocks.length bc)).toArray 28 (0, 0))) := Lib.hid ((hb3.block _ (by first | omega | (simp; omega))).trans ((Below.heap_alloc _ _ _ (by first | omega | (simp; omega))).trans (Xb2.out)))
  have zb3 : w.heap.size + 1 < w3.heap.size := by omega
  clear cp cb
  clear hb3
  have cp := fun o => cellB Xp3.out o
  have cb := fun o => cellB Xb3.out o
  simp only [bunC, parC, zBun, zPar, spC, List.cons_append, List.nil_append] at cp cb
  cases gr with
  | true =>
    go_wp2_with fail
    refine (awake_any _).mono ?_
    rintro e w99 ⟨rfl, hb99⟩
    go_wp2
    go_ret
    exact ⟨rfl, belowA⟩
  | false =>
  go_wp2_with fail
  refine (new_any b _ w3.heap.size _ (Nat.le_refl _) (HR0.out.below' (L0_3)) HFB.out).mono ?_
  rw [HN.out]
  rintro e w4 ⟨ubn, ukn, rfl, hbn, hkn, hfn, hb4⟩
  have B4 : Below w.heap.size w w4 := btrans0 B3 hb4
  have y4 : w3.heap.size ≤ w4.heap.size := by have := hb4.size; (try simp at this); omega
  have L0_4 : Below w.heap.size w w4 := btrans0 L0_3 hb4
  have Xp4 : Hid (w4.heap[w.heap.size]? = some (.cells (parC p (.slice pa p.head.blocks.length pc) (.slice qa p.known.length qc)).toArray 31 (0, 0))) := Lib.hid ((hb4.block _ (by first | omega | (simp; omega))).trans (Xp3.out))
  have zp4 : w.heap.size < w4.heap.size := by omega
  have Xb4 : Hid (w4.heap[w.heap.size + 1]? = some (.cells (bunC b (.slice ba b.blocks.length bc)).toArray 28 (0, 0))) := Lib.hid ((hb4.block _ (by first | omega | (simp; omega))).trans (Xb3.out))
  have zb4 : w.heap.size + 1 < w4.heap.size := by omega
  clear cp cb
  simp only at hbn hkn
  obtain ⟨an, nn, rfl, -⟩ := id hbn
  obtain ⟨kan, knn, rfl, -⟩ := id hkn
  have HBn4 : Hid (RBlks w4 w4.heap.size (.slice an VN.head.blocks.length nn) VN.head.blocks) := Lib.hid (hbn.to (fun q hD => by rcases hD with hD | hD <;> omega))
  have HKn4 := Lib.hid hkn
  clear hbn hkn hfn
  clear hb4
  have cp := fun o => cellB Xp4.out o
  have cb := fun o => cellB Xb4.out o
  simp only [bunC, parC, zBun, zPar, spC, List.cons_append, List.nil_append] at cp cb
  simp only [bunC, parC, zBun, zPar, spC, List.cons_append, List.nil_append]
  go_upto_region 4 with fail
  obtain ⟨w5, hw5⟩ : ∃ q, w4.alloc (.cells (parC VN (.slice an VN.head.blocks.length nn) (.slice kan VN.known.length knn)).toArray 31 (0, 0)) = q := ⟨_, rfl⟩
  simp only [bunC, parC, zBun, zPar, spC, List.cons_append, List.nil_append] at hw5
  rw [hw5]
  have y5 : w4.heap.size < w5.heap.size := by rw [← hw5]; simp
  have B5 : Below w.heap.size w w5 := by rw [← hw5]; exact balloc0 B4
  have L0_5 : Below w.heap.size w w5 := by rw [← hw5]; exact balloc0 L0_4
  have L4_5 : Below w4.heap.size w4 w5 := by rw [← hw5]; exact balloc0 (Below.refl _ _)
  have Xp5 : Hid (w5.heap[w.heap.size]? = some (.cells (parC p (.slice pa p.head.blocks.length pc) (.slice qa p.known.length qc)).toArray 31 (0, 0))) := Lib.hid (by rw [← hw5]; exact (Below.heap_alloc _ _ _ (by omega)).trans Xp4.out)
  have zp5 : w.heap.size < w5.heap.size := by omega
  have Xb5 : Hid (w5.heap[w.heap.size + 1]? = some (.cells (bunC b (.slice ba b.blocks.length bc)).toArray 28 (0, 0))) := Lib.hid (by rw [← hw5]; exact (Below.heap_alloc _ _ _ (by omega)).trans Xb4.out)
  have zb5 : w.heap.size + 1 < w5.heap.size := by omega
  have Xn5 : Hid (w5.heap[w4.heap.size]? = some (.cells (parC VN (.slice an VN.head.blocks.length nn) (.slice kan VN.known.length knn)).toArray 31 (0, 0))) := Lib.hid (by rw [← hw5]; exact heap_new)
  have zn5 : w4.heap.size < w5.heap.size := by omega
  clear cp cb
  clear hw5
  have cp := fun o => cellB Xp5.out o
  have cb := fun o => cellB Xb5.out o
  have cn := fun o => cellB Xn5.out o
  simp only [bunC, parC, zBun, zPar, spC, List.cons_append, List.nil_append] at cp cb cn
  go_wp2_with fail
  refine (add_any p b _ _ _ w5.heap.size _ (Nat.le_refl _) (HH0.out.below' (L0_5)) (HK0.out.below' (L0_5)) (HR0.out.below' (L0_5)) HFP.out HDP.out HFB.out).mono ?_
  rw [HQ.out]
  rintro e w6 ⟨ubq, ukq, rfl, hpq, hbq, hkq, hfq, hb6⟩
  have B6 : Below w.heap.size w w6 := btrans0 B5 hb6
  have y6 : w5.heap.size ≤ w6.heap.size := by have := hb6.size; (try simp at this); omega
  have L0_6 : Below w.heap.size w w6 := btrans0 L0_5 hb6
  have L4_6 : Below w4.heap.size w4 w6 := btrans0 L4_5 hb6
  have Xp6 : Hid (w6.heap[w.heap.size]? = some (.cells (parC p (.slice pa p.head.blocks.length pc) (.slice qa p.known.length qc)).toArray 31 (0, 0))) := Lib.hid ((hb6.block _ (by first | omega | (simp; omega))).trans (Xp5.out))
  have zp6 : w.heap.size < w6.heap.size := by omega
  have Xb6 : Hid (w6.heap[w.heap.size + 1]? = some (.cells (bunC b (.slice ba b.blocks.length bc)).toArray 28 (0, 0))) := Lib.hid ((hb6.block _ (by first | omega | (simp; omega))).trans (Xb5.out))
  have zb6 : w.heap.size + 1 < w6.heap.size := by omega
  have Xn6 : Hid (w6.heap[w4.heap.size]? = some (.cells (parC VN (.slice an VN.head.blocks.length nn) (.slice kan VN.known.length knn)).toArray 31 (0, 0))) := Lib.hid ((hb6.block _ (by first | omega | (simp; omega))).trans (Xn5.out))
  have zn6 : w4.heap.size < w6.heap.size := by omega
  clear cp cb cn
  simp only at hbq hkq
  obtain ⟨aq, nq, rfl, -⟩ := id hbq
  obtain ⟨kaq, knq, rfl, -⟩ := id hkq
  have HBq6 : Hid (RBlks w6 w6.heap.size (.slice aq VQ.head.blocks.length nq) VQ.head.blocks) := Lib.hid (hbq.wide (by omega))
  have HKq6 := Lib.hid hkq
  clear hbq hkq hfq hpq
  clear hb6
  have cp := fun o => cellB Xp6.out o
  have cb := fun o => cellB Xb6.out o
  have cn := fun o => cellB Xn6.out o
  simp only [bunC, parC, zBun, zPar, spC, List.cons_append, List.nil_append] at cp cb cn
  simp only [bunC, parC, zBun, zPar, spC, List.cons_append, List.nil_append]
  go_upto_region 5 with fail
  obtain ⟨w7, hw7⟩ : ∃ q, w6.alloc (.cells (parC VQ (.slice aq VQ.head.blocks.length nq) (.slice kaq VQ.known.length knq)).toArray 31 (0, 0)) = q := ⟨_, rfl⟩
  simp only [bunC, parC, zBun, zPar, spC, List.cons_append, List.nil_append] at hw7
  rw [hw7]
  have y7 : w6.heap.size < w7.heap.size := by rw [← hw7]; simp
  have B7 : Below w.heap.size w w7 := by rw [← hw7]; exact balloc0 B6
  have L0_7 : Below w.heap.size w w7 := by rw [← hw7]; exact balloc0 L0_6
  have L4_7 : Below w4.heap.size w4 w7 := by rw [← hw7]; exact balloc0 L4_6
  have L6_7 : Below w6.heap.size w6 w7 := by rw [← hw7]; exact balloc0 (Below.refl _ _)
  have Xp7 : Hid (w7.heap[w.heap.size]? = some (.cells (parC p (.slice pa p.head.blocks.length pc) (.slice qa p.known.length qc)).toArray 31 (0, 0))) := Lib.hid (by rw [← hw7]; exact (Below.heap_alloc _ _ _ (by omega)).trans Xp6.out)
  have zp7 : w.heap.size < w7.heap.size := by omega
  have Xb7 : Hid (w7.heap[w.heap.size + 1]? = some (.cells (bunC b (.slice ba b.blocks.length bc)).toArray 28 (0, 0))) := Lib.hid (by rw [← hw7]; exact (Below.heap_alloc _ _ _ (by omega)).trans Xb6.out)
  have zb7 : w.heap.size + 1 < w7.heap.size := by omega
  have Xn7 : Hid (w7.heap[w4.heap.size]? = some (.cells (parC VN (.slice an VN.head.blocks.length nn) (.slice kan VN.known.length knn)).toArray 31 (0, 0))) := Lib.hid (by rw [← hw7]; exact (Below.heap_alloc _ _ _ (by omega)).trans Xn6.out)
  have zn7 : w4.heap.size < w7.heap.size := by omega
  have Xq7 : Hid (w7.heap[w6.heap.size]? = some (.cells (parC VQ (.slice aq VQ.head.blocks.length nq) (.slice kaq VQ.known.length knq)).toArray 31 (0, 0))) := Lib.hid (by rw [← hw7]; exact heap_new)
  have zq7 : w6.heap.size < w7.heap.size := by omega
  clear cp cb cn
  clear hw7
  have cp := fun o => cellB Xp7.out o
  have cb := fun o => cellB Xb7.out o
  have cn := fun o => cellB Xn7.out o
  have cq := fun o => cellB Xq7.out o
  simp only [bunC, parC, zBun, zPar, spC, List.cons_append, List.nil_append] at cp cb cn cq
  by_cases eN : EN = 0
  case neg =>
    as_aux_lemma =>
      have dN : (EN == 0) = false := by rw [beq_eq_false_iff_ne]; exact eN
      clear eN
      by_cases eF : EF = 0
      case neg =>
        have dF : (EF != 0) = true := by rw [bne_iff_ne]; exact eF
        have hz : VQ = zPar := by have := addP_bad (p := p) (b := b) (by rw [HQ.out]; exact eF); rw [HQ.out] at this; exact this
        subst hz
        clear eF
        go_wp2_with fail
        refine (psame_any zPar _ _ _ _ _ (HBq6.out.below' (L6_7)) (HKq6.out.below' (L6_7)) (RBlks.nil _ _) (RSps.nil _ _) (by simp [zPar])).mono ?_
        rintro e w8 ⟨rfl, hb8⟩
        have B8 : Below w.heap.size w w8 := btrans0 B7 hb8
        have y8 : w7.heap.size ≤ w8.heap.size := by have := hb8.size; (try simp at this); omega
        have L0_8 : Below w.heap.size w w8 := btrans0 L0_7 hb8
        have L4_8 : Below w4.heap.size w4 w8 := btrans0 L4_7 hb8
        have L6_8 : Below w6.heap.size w6 w8 := btrans0 L6_7 hb8
        have Xp8 : Hid (w8.heap[w.heap.size]? = some (.cells (parC p (.slice pa p.head.blocks.length pc) (.slice qa p.known.length qc)).toArray 31 (0, 0))) := Lib.hid ((hb8.block _ (by first | omega | (simp; omega))).trans (Xp7.out))
        have zp8 : w.heap.size < w8.heap.size := by omega
        have Xb8 : Hid (w8.heap[w.heap.size + 1]? = some (.cells (bunC b (.slice ba b.blocks.length bc)).toArray 28 (0, 0))) := Lib.hid ((hb8.block _ (by first | omega | (simp; omega))).trans (Xb7.out))
        have zb8 : w.heap.size + 1 < w8.heap.size := by omega
        have Xn8 : Hid (w8.heap[w4.heap.size]? = some (.cells (parC VN (.slice an VN.head.blocks.length nn) (.slice kan VN.known.length knn)).toArray 31 (0, 0))) := Lib.hid ((hb8.block _ (by first | omega | (simp; omega))).trans (Xn7.out))
        have zn8 : w4.heap.size < w8.heap.size := by omega
        have Xq8 : Hid (w8.heap[w6.heap.size]? = some (.cells (parC zPar (.slice aq zPar.head.blocks.length nq) (.slice kaq zPar.known.length knq)).toArray 31 (0, 0))) := Lib.hid ((hb8.block _ (by first | omega | (simp; omega))).trans (Xq7.out))
        have zq8 : w6.heap.size < w8.heap.size := by omega
        clear cp cb cn cq
        clear hb8
        have cp := fun o => cellB Xp8.out o
        have cb := fun o => cellB Xb8.out o
        have cn := fun o => cellB Xn8.out o
        have cq := fun o => cellB Xq8.out o
        simp only [bunC, parC, zBun, zPar, spC, List.cons_append, List.nil_append] at cp cb cn cq
        go_wp2_with fail
        refine (awake_any _).mono ?_
        rintro e w99 ⟨rfl, hb99⟩
        go_wp2
        go_ret
        exact ⟨rfl, belowA⟩
      subst eF
      have HQA : Hid (addP VQ b = (VQ, 0)) := Lib.hid (by have := addP_again (p := p) (b := b) (by rw [HQ.out]); rw [HQ.out] at this; exact this)
      have HQC : Hid (chkP VQ = 0) := Lib.hid (by have := addP_valid (p := p) (b := b) (by rw [HQ.out]); rw [HQ.out] at this; exact this)
      go_wp2_with fail
      refine (add_any VQ b _ _ _ w7.heap.size _ (Nat.le_refl _) (HBq6.out.below' (L6_7)) (HKq6.out.below' (L6_7)) (HR0.out.below' (L0_7)) HFQ.out.1 HFQ.out.2 HFB.out).mono ?_
      rw [HQA.out]
      rintro e w8 ⟨ubv, ukv, rfl, hpv, hbv, hkv, hfv, hb8⟩
      have B8 : Below w.heap.size w w8 := btrans0 B7 hb8
      have y8 : w7.heap.size ≤ w8.heap.size := by have := hb8.size; (try simp at this); omega
      have L0_8 : Below w.heap.size w w8 := btrans0 L0_7 hb8
      have L4_8 : Below w4.heap.size w4 w8 := btrans0 L4_7 hb8
      have L6_8 : Below w6.heap.size w6 w8 := btrans0 L6_7 hb8
      have Xp8 : Hid (w8.heap[w.heap.size]? = some (.cells (parC p (.slice pa p.head.blocks.length pc) (.slice qa p.known.length qc)).toArray 31 (0, 0))) := Lib.hid ((hb8.block _ (by first | omega | (simp; omega))).trans (Xp7.out))
      have zp8 : w.heap.size < w8.heap.size := by omega
      have Xb8 : Hid (w8.heap[w.heap.size + 1]? = some (.cells (bunC b (.slice ba b.blocks.length bc)).toArray 28 (0, 0))) := Lib.hid ((hb8.block _ (by first | omega | (simp; omega))).trans (Xb7.out))
      have zb8 : w.heap.size + 1 < w8.heap.size := by omega
      have Xn8 : Hid (w8.heap[w4.heap.size]? = some (.cells (parC VN (.slice an VN.head.blocks.length nn) (.slice kan VN.known.length knn)).toArray 31 (0, 0))) := Lib.hid ((hb8.block _ (by first | omega | (simp; omega))).trans (Xn7.out))
      have zn8 : w4.heap.size < w8.heap.size := by omega
      have Xq8 : Hid (w8.heap[w6.heap.size]? = some (.cells (parC VQ (.slice aq VQ.head.blocks.length nq) (.slice kaq VQ.known.length knq)).toArray 31 (0, 0))) := Lib.hid ((hb8.block _ (by first | omega | (simp; omega))).trans (Xq7.out))
      have zq8 : w6.heap.size < w8.heap.size := by omega
      clear cp cb cn cq
      simp only at hbv hkv
      obtain ⟨av, nv, rfl, -⟩ := id hbv
      obtain ⟨kav, knv, rfl, -⟩ := id hkv
      have HBv8 : Hid (RBlks w8 w8.heap.size (.slice av VQ.head.blocks.length nv) VQ.head.blocks) := Lib.hid (hbv.wide (by omega))
      have HKv8 := Lib.hid hkv
      clear hbv hkv hfv hpv
      clear hb8
      have cp := fun o => cellB Xp8.out o
      have cb := fun o => cellB Xb8.out o
      have cn := fun o => cellB Xn8.out o
      have cq := fun o => cellB Xq8.out o
      simp only [bunC, parC, zBun, zPar, spC, List.cons_append, List.nil_append] at cp cb cn cq
      simp only [bunC, parC, zBun, zPar, spC, List.cons_append, List.nil_append]
      go_upto_region 12 with fail
      obtain ⟨w9, hw9⟩ : ∃ q, w8.alloc (.cells (parC VQ (.slice av VQ.head.blocks.length nv) (.slice kav VQ.known.length knv)).toArray 31 (0, 0)) = q := ⟨_, rfl⟩
      simp only [bunC, parC, zBun, zPar, spC, List.cons_append, List.nil_append] at hw9
      rw [hw9]
      have y9 : w8.heap.size < w9.heap.size := by rw [← hw9]; simp
      have B9 : Below w.heap.size w w9 := by rw [← hw9]; exact balloc0 B8
      have L0_9 : Below w.heap.size w w9 := by rw [← hw9]; exact balloc0 L0_8
      have L4_9 : Below w4.heap.size w4 w9 := by rw [← hw9]; exact balloc0 L4_8
      have L6_9 : Below w6.heap.size w6 w9 := by rw [← hw9]; exact balloc0 L6_8
      have L8_9 : Below w8.heap.size w8 w9 := by rw [← hw9]; exact balloc0 (Below.refl _ _)
      have Xp9 : Hid (w9.heap[w.heap.size]? = some (.cells (parC p (.slice pa p.head.blocks.length pc) (.slice qa p.known.length qc)).toArray 31 (0, 0))) := Lib.hid (by rw [← hw9]; exact (Below.heap_alloc _ _ _ (by omega)).trans Xp8.out)
      have zp9 : w.heap.size < w9.heap.size := by omega
      have Xb9 : Hid (w9.heap[w.heap.size + 1]? = some (.cells (bunC b (.slice ba b.blocks.length bc)).toArray 28 (0, 0))) := Lib.hid (by rw [← hw9]; exact (Below.heap_alloc _ _ _ (by omega)).trans Xb8.out)
      have zb9 : w.heap.size + 1 < w9.heap.size := by omega
      have Xn9 : Hid (w9.heap[w4.heap.size]? = some (.cells (parC VN (.slice an VN.head.blocks.length nn) (.slice kan VN.known.length knn)).toArray 31 (0, 0))) := Lib.hid (by rw [← hw9]; exact (Below.heap_alloc _ _ _ (by omega)).trans Xn8.out)
      have zn9 : w4.heap.size < w9.heap.size := by omega
      have Xq9 : Hid (w9.heap[w6.heap.size]? = some (.cells (parC VQ (.slice aq VQ.head.blocks.length nq) (.slice kaq VQ.known.length knq)).toArray 31 (0, 0))) := Lib.hid (by rw [← hw9]; exact (Below.heap_alloc _ _ _ (by omega)).trans Xq8.out)
      have zq9 : w6.heap.size < w9.heap.size := by omega
      have Xv9 : Hid (w9.heap[w8.heap.size]? = some (.cells (parC VQ (.slice av VQ.head.blocks.length nv) (.slice kav VQ.known.length knv)).toArray 31 (0, 0))) := Lib.hid (by rw [← hw9]; exact heap_new)
      have zv9 : w8.heap.size < w9.heap.size := by omega
      clear cp cb cn cq
      clear hw9
      have cp := fun o => cellB Xp9.out o
      have cb := fun o => cellB Xb9.out o
      have cn := fun o => cellB Xn9.out o
      have cq := fun o => cellB Xq9.out o
      have cv := fun o => cellB Xv9.out o
      simp only [bunC, parC, zBun, zPar, spC, List.cons_append, List.nil_append] at cp cb cn cq cv
      go_wp2_with fail
      refine (psame_any VQ _ _ _ _ _ (HBv8.out.below' (L8_9)) (HKv8.out.below' (L8_9)) (HBq6.out.below' (L6_9)) (HKq6.out.below' (L6_9)) HFQ.out.2).mono ?_
      rintro e w10 ⟨rfl, hb10⟩
      have B10 : Below w.heap.size w w10 := btrans0 B9 hb10
      have y10 : w9.heap.size ≤ w10.heap.size := by have := hb10.size; (try simp at this); omega
      have L0_10 : Below w.heap.size w w10 := btrans0 L0_9 hb10
      have L4_10 : Below w4.heap.size w4 w10 := btrans0 L4_9 hb10
      have L6_10 : Below w6.heap.size w6 w10 := btrans0 L6_9 hb10
      have L8_10 : Below w8.heap.size w8 w10 := btrans0 L8_9 hb10
      have Xp10 : Hid (w10.heap[w.heap.size]? = some (.cells (parC p (.slice pa p.head.blocks.length pc) (.slice qa p.known.length qc)).toArray 31 (0, 0))) := Lib.hid ((hb10.block _ (by first | omega | (simp; omega))).trans (Xp9.out))
      have zp10 : w.heap.size < w10.heap.size := by omega
      have Xb10 : Hid (w10.heap[w.heap.size + 1]? = some (.cells (bunC b (.slice ba b.blocks.length bc)).toArray 28 (0, 0))) := Lib.hid ((hb10.block _ (by first | omega | (simp; omega))).trans (Xb9.out))
      have zb10 : w.heap.size + 1 < w10.heap.size := by omega
      have Xn10 : Hid (w10.heap[w4.heap.size]? = some (.cells (parC VN (.slice an VN.head.blocks.length nn) (.slice kan VN.known.length knn)).toArray 31 (0, 0))) := Lib.hid ((hb10.block _ (by first | omega | (simp; omega))).trans (Xn9.out))
      have zn10 : w4.heap.size < w10.heap.size := by omega
      have Xq10 : Hid (w10.heap[w6.heap.size]? = some (.cells (parC VQ (.slice aq VQ.head.blocks.length nq) (.slice kaq VQ.known.length knq)).toArray 31 (0, 0))) := Lib.hid ((hb10.block _ (by first | omega | (simp; omega))).trans (Xq9.out))
      have zq10 : w6.heap.size < w10.heap.size := by omega
      have Xv10 : Hid (w10.heap[w8.heap.size]? = some (.cells (parC VQ (.slice av VQ.head.blocks.length nv) (.slice kav VQ.known.length knv)).toArray 31 (0, 0))) := Lib.hid ((hb10.block _ (by first | omega | (simp; omega))).trans (Xv9.out))
      have zv10 : w8.heap.size < w10.heap.size := by omega
      clear cp cb cn cq cv
      clear hb10
      have cp := fun o => cellB Xp10.out o
      have cb := fun o => cellB Xb10.out o
      have cn := fun o => cellB Xn10.out o
      have cq := fun o => cellB Xq10.out o
      have cv := fun o => cellB Xv10.out o
      simp only [bunC, parC, zBun, zPar, spC, List.cons_append, List.nil_append] at cp cb cn cq cv
      go_wp2_with fail
      refine (chkP_any VQ _ _ _ (HBq6.out.below' (L6_10)) (HKq6.out.below' (L6_10)) HFQ.out.1 HFQ.out.2).mono ?_
      rw [HQC.out]
      rintro e w11 ⟨rfl, hb11⟩
      have B11 : Below w.heap.size w w11 := btrans0 B10 hb11
      have y11 : w10.heap.size ≤ w11.heap.size := by have := hb11.size; (try simp at this); omega
      have L0_11 : Below w.heap.size w w11 := btrans0 L0_10 hb11
      have L4_11 : Below w4.heap.size w4 w11 := btrans0 L4_10 hb11
      have L6_11 : Below w6.heap.size w6 w11 := btrans0 L6_10 hb11
      have L8_11 : Below w8.heap.size w8 w11 := btrans0 L8_10 hb11
      have Xp11 : Hid (w11.heap[w.heap.size]? = some (.cells (parC p (.slice pa p.head.blocks.length pc) (.slice qa p.known.length qc)).toArray 31 (0, 0))) := Lib.hid ((hb11.block _ (by first | omega | (simp; omega))).trans (Xp10.out))
      have zp11 : w.heap.size < w11.heap.size := by omega
      have Xb11 : Hid (w11.heap[w.heap.size + 1]? = some (.cells (bunC b (.slice ba b.blocks.length bc)).toArray 28 (0, 0))) := Lib.hid ((hb11.block _ (by first | omega | (simp; omega))).trans (Xb10.out))
      have zb11 : w.heap.size + 1 < w11.heap.size := by omega
      have Xn11 : Hid (w11.heap[w4.heap.size]? = some (.cells (parC VN (.slice an VN.head.blocks.length nn) (.slice kan VN.known.length knn)).toArray 31 (0, 0))) := Lib.hid ((hb11.block _ (by first | omega | (simp; omega))).trans (Xn10.out))
      have zn11 : w4.heap.size < w11.heap.size := by omega
      have Xq11 : Hid (w11.heap[w6.heap.size]? = some (.cells (parC VQ (.slice aq VQ.head.blocks.length nq) (.slice kaq VQ.known.length knq)).toArray 31 (0, 0))) := Lib.hid ((hb11.block _ (by first | omega | (simp; omega))).trans (Xq10.out))
      have zq11 : w6.heap.size < w11.heap.size := by omega
      have Xv11 : Hid (w11.heap[w8.heap.size]? = some (.cells (parC VQ (.slice av VQ.head.blocks.length nv) (.slice kav VQ.known.length knv)).toArray 31 (0, 0))) := Lib.hid ((hb11.block _ (by first | omega | (simp; omega))).trans (Xv10.out))
      have zv11 : w8.heap.size < w11.heap.size := by omega
      clear cp cb cn cq cv
      clear hb11
      have cp := fun o => cellB Xp11.out o
      have cb := fun o => cellB Xb11.out o
      have cn := fun o => cellB Xn11.out o
      have cq := fun o => cellB Xq11.out o
      have cv := fun o => cellB Xv11.out o
      simp only [bunC, parC, zBun, zPar, spC, List.cons_append, List.nil_append] at cp cb cn cq cv
      go_wp2_with fail
      refine (awake_any _).mono ?_
      rintro e w99 ⟨rfl, hb99⟩
      go_wp2
      go_ret
      exact ⟨rfl, belowA⟩
  subst eN
  have HNA : Hid (addP VN b = (VN, 0)) := Lib.hid (by have := newP_again (b := b) (by rw [HN.out]); rw [HN.out] at this; exact this)
  have HNC : Hid (chkP VN = 0) := Lib.hid (by have := newP_valid (b := b) (by rw [HN.out]); rw [HN.out] at this; exact this)
  have HNI : Hid (isS b = true) := Lib.hid (by obtain ⟨c1, c2, -⟩ := newP_ok (b := b) (by rw [HN.out]); unfold isS; rw [Bool.and_eq_true, decide_eq_true_eq, decide_eq_true_eq]; exact ⟨c1, c2⟩)
  go_wp2_with fail
  refine (add_any VN b _ _ _ w7.heap.size _ (Nat.le_refl _) (HBn4.out.below' (L4_7)) (HKn4.out.below' (L4_7)) (HR0.out.below' (L0_7)) HFN.out.1 HFN.out.2 HFB.out).mono ?_
  rw [HNA.out]
  rintro e w8 ⟨ubm, ukm, rfl, hpm, hbm, hkm, hfm, hb8⟩
  have B8 : Below w.heap.size w w8 := btrans0 B7 hb8
  have y8 : w7.heap.size ≤ w8.heap.size := by have := hb8.size; (try simp at this); omega
  have L0_8 : Below w.heap.size w w8 := btrans0 L0_7 hb8
  have L4_8 : Below w4.heap.size w4 w8 := btrans0 L4_7 hb8
  have L6_8 : Below w6.heap.size w6 w8 := btrans0 L6_7 hb8
  have Xp8 : Hid (w8.heap[w.heap.size]? = some (.cells (parC p (.slice pa p.head.blocks.length pc) (.slice qa p.known.length qc)).toArray 31 (0, 0))) := Lib.hid ((hb8.block _ (by first | omega | (simp; omega))).trans (Xp7.out))
  have zp8 : w.heap.size < w8.heap.size := by omega
  have Xb8 : Hid (w8.heap[w.heap.size + 1]? = some (.cells (bunC b (.slice ba b.blocks.length bc)).toArray 28 (0, 0))) := Lib.hid ((hb8.block _ (by first | omega | (simp; omega))).trans (Xb7.out))
  have zb8 : w.heap.size + 1 < w8.heap.size := by omega
  have Xn8 : Hid (w8.heap[w4.heap.size]? = some (.cells (parC VN (.slice an VN.head.blocks.length nn) (.slice kan VN.known.length knn)).toArray 31 (0, 0))) := Lib.hid ((hb8.block _ (by first | omega | (simp; omega))).trans (Xn7.out))
  have zn8 : w4.heap.size < w8.heap.size := by omega
  have Xq8 : Hid (w8.heap[w6.heap.size]? = some (.cells (parC VQ (.slice aq VQ.head.blocks.length nq) (.slice kaq VQ.known.length knq)).toArray 31 (0, 0))) := Lib.hid ((hb8.block _ (by first | omega | (simp; omega))).trans (Xq7.out))
  have zq8 : w6.heap.size < w8.heap.size := by omega
  clear cp cb cn cq
  simp only at hbm hkm
  obtain ⟨am, nm, rfl, -⟩ := id hbm
  obtain ⟨kam, knm, rfl, -⟩ := id hkm
  have HBm8 : Hid (RBlks w8 w8.heap.size (.slice am VN.head.blocks.length nm) VN.head.blocks) := Lib.hid (hbm.wide (by omega))
  have HKm8 := Lib.hid hkm
  clear hbm hkm hfm hpm
  clear hb8
  have cp := fun o => cellB Xp8.out o
  have cb := fun o => cellB Xb8.out o
  have cn := fun o => cellB Xn8.out o
  have cq := fun o => cellB Xq8.out o
  simp only [bunC, parC, zBun, zPar, spC, List.cons_append, List.nil_append] at cp cb cn cq
  simp only [bunC, parC, zBun, zPar, spC, List.cons_append, List.nil_append]
  go_upto_region 7 with fail
  obtain ⟨w9, hw9⟩ : ∃ q, w8.alloc (.cells (parC VN (.slice am VN.head.blocks.length nm) (.slice kam VN.known.length knm)).toArray 31 (0, 0)) = q := ⟨_, rfl⟩
  simp only [bunC, parC, zBun, zPar, spC, List.cons_append, List.nil_append] at hw9
  rw [hw9]
  have y9 : w8.heap.size < w9.heap.size := by rw [← hw9]; simp
  have B9 : Below w.heap.size w w9 := by rw [← hw9]; exact balloc0 B8
  have L0_9 : Below w.heap.size w w9 := by rw [← hw9]; exact balloc0 L0_8
  have L4_9 : Below w4.heap.size w4 w9 := by rw [← hw9]; exact balloc0 L4_8
  have L6_9 : Below w6.heap.size w6 w9 := by rw [← hw9]; exact balloc0 L6_8
  have L8_9 : Below w8.heap.size w8 w9 := by rw [← hw9]; exact balloc0 (Below.refl _ _)
  have Xp9 : Hid (w9.heap[w.heap.size]? = some (.cells (parC p (.slice pa p.head.blocks.length pc) (.slice qa p.known.length qc)).toArray 31 (0, 0))) := Lib.hid (by rw [← hw9]; exact (Below.heap_alloc _ _ _ (by omega)).trans Xp8.out)
  have zp9 : w.heap.size < w9.heap.size := by omega
  have Xb9 : Hid (w9.heap[w.heap.size + 1]? = some (.cells (bunC b (.slice ba b.blocks.length bc)).toArray 28 (0, 0))) := Lib.hid (by rw [← hw9]; exact (Below.heap_alloc _ _ _ (by omega)).trans Xb8.out)
  have zb9 : w.heap.size + 1 < w9.heap.size := by omega
  have Xn9 : Hid (w9.heap[w4.heap.size]? = some (.cells (parC VN (.slice an VN.head.blocks.length nn) (.slice kan VN.known.length knn)).toArray 31 (0, 0))) := Lib.hid (by rw [← hw9]; exact (Below.heap_alloc _ _ _ (by omega)).trans Xn8.out)
  have zn9 : w4.heap.size < w9.heap.size := by omega
  have Xq9 : Hid (w9.heap[w6.heap.size]? = some (.cells (parC VQ (.slice aq VQ.head.blocks.length nq) (.slice kaq VQ.known.length knq)).toArray 31 (0, 0))) := Lib.hid (by rw [← hw9]; exact (Below.heap_alloc _ _ _ (by omega)).trans Xq8.out)
  have zq9 : w6.heap.size < w9.heap.size := by omega
  have Xm9 : Hid (w9.heap[w8.heap.size]? = some (.cells (parC VN (.slice am VN.head.blocks.length nm) (.slice kam VN.known.length knm)).toArray 31 (0, 0))) := Lib.hid (by rw [← hw9]; exact heap_new)
  have zm9 : w8.heap.size < w9.heap.size := by omega
  clear cp cb cn cq
  clear hw9
  have cp := fun o => cellB Xp9.out o
  have cb := fun o => cellB Xb9.out o
  have cn := fun o => cellB Xn9.out o
  have cq := fun o => cellB Xq9.out o
  have cm := fun o => cellB Xm9.out o
  simp only [bunC, parC, zBun, zPar, spC, List.cons_append, List.nil_append] at cp cb cn cq cm
  go_wp2_with fail
  refine (psame_any VN _ _ _ _ _ (HBm8.out.below' (L8_9)) (HKm8.out.below' (L8_9)) (HBn4.out.below' (L4_9)) (HKn4.out.below' (L4_9)) HFN.out.2).mono ?_
  rintro e w10 ⟨rfl, hb10⟩
  have B10 : Below w.heap.size w w10 := btrans0 B9 hb10
  have y10 : w9.heap.size ≤ w10.heap.size := by have := hb10.size; (try simp at this); omega
  have L0_10 : Below w.heap.size w w10 := btrans0 L0_9 hb10
  have L4_10 : Below w4.heap.size w4 w10 := btrans0 L4_9 hb10
  have L6_10 : Below w6.heap.size w6 w10 := btrans0 L6_9 hb10
  have L8_10 : Below w8.heap.size w8 w10 := btrans0 L8_9 hb10
  have Xp10 : Hid (w10.heap[w.heap.size]? = some (.cells (parC p (.slice pa p.head.blocks.length pc) (.slice qa p.known.length qc)).toArray 31 (0, 0))) := Lib.hid ((hb10.block _ (by first | omega | (simp; omega))).trans (Xp9.out))
  have zp10 : w.heap.size < w10.heap.size := by omega
  have Xb10 : Hid (w10.heap[w.heap.size + 1]? = some (.cells (bunC b (.slice ba b.blocks.length bc)).toArray 28 (0, 0))) := Lib.hid ((hb10.block _ (by first | omega | (simp; omega))).trans (Xb9.out))
  have zb10 : w.heap.size + 1 < w10.heap.size := by omega
  have Xn10 : Hid (w10.heap[w4.heap.size]? = some (.cells (parC VN (.slice an VN.head.blocks.length nn) (.slice kan VN.known.length knn)).toArray 31 (0, 0))) := Lib.hid ((hb10.block _ (by first | omega | (simp; omega))).trans (Xn9.out))
  have zn10 : w4.heap.size < w10.heap.size := by omega
  have Xq10 : Hid (w10.heap[w6.heap.size]? = some (.cells (parC VQ (.slice aq VQ.head.blocks.length nq) (.slice kaq VQ.known.length knq)).toArray 31 (0, 0))) := Lib.hid ((hb10.block _ (by first | omega | (simp; omega))).trans (Xq9.out))
  have zq10 : w6.heap.size < w10.heap.size := by omega
  have Xm10 : Hid (w10.heap[w8.heap.size]? = some (.cells (parC VN (.slice am VN.head.blocks.length nm) (.slice kam VN.known.length knm)).toArray 31 (0, 0))) := Lib.hid ((hb10.block _ (by first | omega | (simp; omega))).trans (Xm9.out))
  have zm10 : w8.heap.size < w10.heap.size := by omega
  clear cp cb cn cq cm
  clear hb10
  have cp := fun o => cellB Xp10.out o
  have cb := fun o => cellB Xb10.out o
  have cn := fun o => cellB Xn10.out o
  have cq := fun o => cellB Xq10.out o
  have cm := fun o => cellB Xm10.out o
  simp only [bunC, parC, zBun, zPar, spC, List.cons_append, List.nil_append] at cp cb cn cq cm
  go_wp2_with fail
  refine (chkP_any VN _ _ _ (HBn4.out.below' (L4_10)) (HKn4.out.below' (L4_10)) HFN.out.1 HFN.out.2).mono ?_
  rw [HNC.out]
  rintro e w11 ⟨rfl, hb11⟩
  have B11 : Below w.heap.size w w11 := btrans0 B10 hb11
  have y11 : w10.heap.size ≤ w11.heap.size := by have := hb11.size; (try simp at this); omega
  have L0_11 : Below w.heap.size w w11 := btrans0 L0_10 hb11
  have L4_11 : Below w4.heap.size w4 w11 := btrans0 L4_10 hb11
  have L6_11 : Below w6.heap.size w6 w11 := btrans0 L6_10 hb11
  have L8_11 : Below w8.heap.size w8 w11 := btrans0 L8_10 hb11
  have Xp11 : Hid (w11.heap[w.heap.size]? = some (.cells (parC p (.slice pa p.head.blocks.length pc) (.slice qa p.known.length qc)).toArray 31 (0, 0))) := Lib.hid ((hb11.block _ (by first | omega | (simp; omega))).trans (Xp10.out))
  have zp11 : w.heap.size < w11.heap.size := by omega
  have Xb11 : Hid (w11.heap[w.heap.size + 1]? = some (.cells (bunC b (.slice ba b.blocks.length bc)).toArray 28 (0, 0))) := Lib.hid ((hb11.block _ (by first | omega | (simp; omega))).trans (Xb10.out))
  have zb11 : w.heap.size + 1 < w11.heap.size := by omega
  have Xn11 : Hid (w11.heap[w4.heap.size]? = some (.cells (parC VN (.slice an VN.head.blocks.length nn) (.slice kan VN.known.length knn)).toArray 31 (0, 0))) := Lib.hid ((hb11.block _ (by first | omega | (simp; omega))).trans (Xn10.out))
  have zn11 : w4.heap.size < w11.heap.size := by omega
  have Xq11 : Hid (w11.heap[w6.heap.size]? = some (.cells (parC VQ (.slice aq VQ.head.blocks.length nq) (.slice kaq VQ.known.length knq)).toArray 31 (0, 0))) := Lib.hid ((hb11.block _ (by first | omega | (simp; omega))).trans (Xq10.out))
  have zq11 : w6.heap.size < w11.heap.size := by omega
  have Xm11 : Hid (w11.heap[w8.heap.size]? = some (.cells (parC VN (.slice am VN.head.blocks.length nm) (.slice kam VN.known.length knm)).toArray 31 (0, 0))) := Lib.hid ((hb11.block _ (by first | omega | (simp; omega))).trans (Xm10.out))
  have zm11 : w8.heap.size < w11.heap.size := by omega
  clear cp cb cn cq cm
  clear hb11
  have cp := fun o => cellB Xp11.out o
  have cb := fun o => cellB Xb11.out o
  have cn := fun o => cellB Xn11.out o
  have cq := fun o => cellB Xq11.out o
  have cm := fun o => cellB Xm11.out o
  simp only [bunC, parC, zBun, zPar, spC, List.cons_append, List.nil_append] at cp cb cn cq cm
  go_wp2_with fail
  refine (is_any b _ _ (HR0.out.below' (L0_11)) HFB.out).mono ?_
  rw [HNI.out]
  rintro e w12 ⟨rfl, hb12⟩
  have B12 : Below w.heap.size w w12 := btrans0 B11 hb12
  have y12 : w11.heap.size ≤ w12.heap.size := by have := hb12.size; (try simp at this); omega
  have L0_12 : Below w.heap.size w w12 := btrans0 L0_11 hb12
  have L4_12 : Below w4.heap.size w4 w12 := btrans0 L4_11 hb12
  have L6_12 : Below w6.heap.size w6 w12 := btrans0 L6_11 hb12
  have L8_12 : Below w8.heap.size w8 w12 := btrans0 L8_11 hb12
  have Xp12 : Hid (w12.heap[w.heap.size]? = some (.cells (parC p (.slice pa p.head.blocks.length pc) (.slice qa p.known.length qc)).toArray 31 (0, 0))) := Lib.hid ((hb12.block _ (by first | omega | (simp; omega))).trans (Xp11.out))
  have zp12 : w.heap.size < w12.heap.size := by omega
  have Xb12 : Hid (w12.heap[w.heap.size + 1]? = some (.cells (bunC b (.slice ba b.blocks.length bc)).toArray 28 (0, 0))) := Lib.hid ((hb12.block _ (by first | omega | (simp; omega))).trans (Xb11.out))
  have zb12 : w.heap.size + 1 < w12.heap.size := by omega
  have Xn12 : Hid (w12.heap[w4.heap.size]? = some (.cells (parC VN (.slice an VN.head.blocks.length nn) (.slice kan VN.known.length knn)).toArray 31 (0, 0))) := Lib.hid ((hb12.block _ (by first | omega | (simp; omega))).trans (Xn11.out))
  have zn12 : w4.heap.size < w12.heap.size := by omega
  have Xq12 : Hid (w12.heap[w6.heap.size]? = some (.cells (parC VQ (.slice aq VQ.head.blocks.length nq) (.slice kaq VQ.known.length knq)).toArray 31 (0, 0))) := Lib.hid ((hb12.block _ (by first | omega | (simp; omega))).trans (Xq11.out))
  have zq12 : w6.heap.size < w12.heap.size := by omega
  have Xm12 : Hid (w12.heap[w8.heap.size]? = some (.cells (parC VN (.slice am VN.head.blocks.length nm) (.slice kam VN.known.length knm)).toArray 31 (0, 0))) := Lib.hid ((hb12.block _ (by first | omega | (simp; omega))).trans (Xm11.out))
  have zm12 : w8.heap.size < w12.heap.size := by omega
  clear cp cb cn cq cm
  clear hb12
  have cp := fun o => cellB Xp12.out o
  have cb := fun o => cellB Xb12.out o
  have cn := fun o => cellB Xn12.out o
  have cq := fun o => cellB Xq12.out o
  have cm := fun o => cellB Xm12.out o
  simp only [bunC, parC, zBun, zPar, spC, List.cons_append, List.nil_append] at cp cb cn cq cm
  as_aux_lemma =>
    by_cases eF : EF = 0
    case neg =>
      have dF : (EF != 0) = true := by rw [bne_iff_ne]; exact eF
      have hz : VQ = zPar := by have := addP_bad (p := p) (b := b) (by rw [HQ.out]; exact eF); rw [HQ.out] at this; exact this
      subst hz
      clear eF
      go_wp2_with fail
      refine (psame_any zPar _ _ _ _ _ (HBq6.out.below' (L6_12)) (HKq6.out.below' (L6_12)) (RBlks.nil _ _) (RSps.nil _ _) (by simp [zPar])).mono ?_
      rintro e w13 ⟨rfl, hb13⟩
      have B13 : Below w.heap.size w w13 := btrans0 B12 hb13
      have y13 : w12.heap.size ≤ w13.heap.size := by have := hb13.size; (try simp at this); omega
      have L0_13 : Below w.heap.size w w13 := btrans0 L0_12 hb13
      have L4_13 : Below w4.heap.size w4 w13 := btrans0 L4_12 hb13
      have L6_13 : Below w6.heap.size w6 w13 := btrans0 L6_12 hb13
      have L8_13 : Below w8.heap.size w8 w13 := btrans0 L8_12 hb13
      have Xp13 : Hid (w13.heap[w.heap.size]? = some (.cells (parC p (.slice pa p.head.blocks.length pc) (.slice qa p.known.length qc)).toArray 31 (0, 0))) := Lib.hid ((hb13.block _ (by first | omega | (simp; omega))).trans (Xp12.out))
      have zp13 : w.heap.size < w13.heap.size := by omega
      have Xb13 : Hid (w13.heap[w.heap.size + 1]? = some (.cells (bunC b (.slice ba b.blocks.length bc)).toArray 28 (0, 0))) := Lib.hid ((hb13.block _ (by first | omega | (simp; omega))).trans (Xb12.out))
      have zb13 : w.heap.size + 1 < w13.heap.size := by omega
      have Xn13 : Hid (w13.heap[w4.heap.size]? = some (.cells (parC VN (.slice an VN.head.blocks.length nn) (.slice kan VN.known.length knn)).toArray 31 (0, 0))) := Lib.hid ((hb13.block _ (by first | omega | (simp; omega))).trans (Xn12.out))
      have zn13 : w4.heap.size < w13.heap.size := by omega
      have Xq13 : Hid (w13.heap[w6.heap.size]? = some (.cells (parC zPar (.slice aq zPar.head.blocks.length nq) (.slice kaq zPar.known.length knq)).toArray 31 (0, 0))) := Lib.hid ((hb13.block _ (by first | omega | (simp; omega))).trans (Xq12.out))
      have zq13 : w6.heap.size < w13.heap.size := by omega
      have Xm13 : Hid (w13.heap[w8.heap.size]? = some (.cells (parC VN (.slice am VN.head.blocks.length nm) (.slice kam VN.known.length knm)).toArray 31 (0, 0))) := Lib.hid ((hb13.block _ (by first | omega | (simp; omega))).trans (Xm12.out))
      have zm13 : w8.heap.size < w13.heap.size := by omega
      clear cp cb cn cq cm
      clear hb13
      have cp := fun o => cellB Xp13.out o
      have cb := fun o => cellB Xb13.out o
      have cn := fun o => cellB Xn13.out o
      have cq := fun o => cellB Xq13.out o
      have cm := fun o => cellB Xm13.out o
      simp only [bunC, parC, zBun, zPar, spC, List.cons_append, List.nil_append] at cp cb cn cq cm
      go_wp2_with fail
      refine (awake_any _).mono ?_
      rintro e w99 ⟨rfl, hb99⟩
      go_wp2
      go_ret
      exact ⟨rfl, belowA⟩
    subst eF
    have HQA : Hid (addP VQ b = (VQ, 0)) := Lib.hid (by have := addP_again (p := p) (b := b) (by rw [HQ.out]); rw [HQ.out] at this; exact this)
    have HQC : Hid (chkP VQ = 0) := Lib.hid (by have := addP_valid (p := p) (b := b) (by rw [HQ.out]); rw [HQ.out] at this; exact this)
    go_wp2_with fail
    refine (add_any VQ b _ _ _ w12.heap.size _ (Nat.le_refl _) (HBq6.out.below' (L6_12)) (HKq6.out.below' (L6_12)) (HR0.out.below' (L0_12)) HFQ.out.1 HFQ.out.2 HFB.out).mono ?_
    rw [HQA.out]
    rintro e w13 ⟨ubv, ukv, rfl, hpv, hbv, hkv, hfv, hb13⟩
    have B13 : Below w.heap.size w w13 := btrans0 B12 hb13
    have y13 : w12.heap.size ≤ w13.heap.size := by have := hb13.size; (try simp at this); omega
    have L0_13 : Below w.heap.size w w13 := btrans0 L0_12 hb13
    have L4_13 : Below w4.heap.size w4 w13 := btrans0 L4_12 hb13
    have L6_13 : Below w6.heap.size w6 w13 := btrans0 L6_12 hb13
    have L8_13 : Below w8.heap.size w8 w13 := btrans0 L8_12 hb13
    have Xp13 : Hid (w13.heap[w.heap.size]? = some (.cells (parC p (.slice pa p.head.blocks.length pc) (.slice qa p.known.length qc)).toArray 31 (0, 0))) := Lib.hid ((hb13.block _ (by first | omega | (simp; omega))).trans (Xp12.out))
    have zp13 : w.heap.size < w13.heap.size := by omega
    have Xb13 : Hid (w13.heap[w.heap.size + 1]? = some (.cells (bunC b (.slice ba b.blocks.length bc)).toArray 28 (0, 0))) := Lib.hid ((hb13.block _ (by first | omega | (simp; omega))).trans (Xb12.out))
    have zb13 : w.heap.size + 1 < w13.heap.size := by omega
    have Xn13 : Hid (w13.heap[w4.heap.size]? = some (.cells (parC VN (.slice an VN.head.blocks.length nn) (.slice kan VN.known.length knn)).toArray 31 (0, 0))) := Lib.hid ((hb13.block _ (by first | omega | (simp; omega))).trans (Xn12.out))
    have zn13 : w4.heap.size < w13.heap.size := by omega
    have Xq13 : Hid (w13.heap[w6.heap.size]? = some (.cells (parC VQ (.slice aq VQ.head.blocks.length nq) (.slice kaq VQ.known.length knq)).toArray 31 (0, 0))) := Lib.hid ((hb13.block _ (by first | omega | (simp; omega))).trans (Xq12.out))
    have zq13 : w6.heap.size < w13.heap.size := by omega
    have Xm13 : Hid (w13.heap[w8.heap.size]? = some (.cells (parC VN (.slice am VN.head.blocks.length nm) (.slice kam VN.known.length knm)).toArray 31 (0, 0))) := Lib.hid ((hb13.block _ (by first | omega | (simp; omega))).trans (Xm12.out))
    have zm13 : w8.heap.size < w13.heap.size := by omega
    clear cp cb cn cq cm
    simp only at hbv hkv
    obtain ⟨av, nv, rfl, -⟩ := id hbv
    obtain ⟨kav, knv, rfl, -⟩ := id hkv
    have HBv13 : Hid (RBlks w13 w13.heap.size (.slice av VQ.head.blocks.length nv) VQ.head.blocks) := Lib.hid (hbv.wide (by omega))
    have HKv13 := Lib.hid hkv
    clear hbv hkv hfv hpv
    clear hb13
    have cp := fun o => cellB Xp13.out o
    have cb := fun o => cellB Xb13.out o
    have cn := fun o => cellB Xn13.out o
    have cq := fun o => cellB Xq13.out o
    have cm := fun o => cellB Xm13.out o
    simp only [bunC, parC, zBun, zPar, spC, List.cons_append, List.nil_append] at cp cb cn cq cm
    simp only [bunC, parC, zBun, zPar, spC, List.cons_append, List.nil_append]
    go_upto_region 12 with fail
    obtain ⟨w14, hw14⟩ : ∃ q, w13.alloc (.cells (parC VQ (.slice av VQ.head.blocks.length nv) (.slice kav VQ.known.length knv)).toArray 31 (0, 0)) = q := ⟨_, rfl⟩
    simp only [bunC, parC, zBun, zPar, spC, List.cons_append, List.nil_append] at hw14
    rw [hw14]
    have y14 : w13.heap.size < w14.heap.size := by rw [← hw14]; simp
    have B14 : Below w.heap.size w w14 := by rw [← hw14]; exact balloc0 B13
    have L0_14 : Below w.heap.size w w14 := by rw [← hw14]; exact balloc0 L0_13
    have L4_14 : Below w4.heap.size w4 w14 := by rw [← hw14]; exact balloc0 L4_13
    have L6_14 : Below w6.heap.size w6 w14 := by rw [← hw14]; exact balloc0 L6_13
    have L8_14 : Below w8.heap.size w8 w14 := by rw [← hw14]; exact balloc0 L8_13
    have L13_14 : Below w13.heap.size w13 w14 := by rw [← hw14]; exact balloc0 (Below.refl _ _)
    have Xp14 : Hid (w14.heap[w.heap.size]? = some (.cells (parC p (.slice pa p.head.blocks.length pc) (.slice qa p.known.length qc)).toArray 31 (0, 0))) := Lib.hid (by rw [← hw14]; exact (Below.heap_alloc _ _ _ (by omega)).trans Xp13.out)
    have zp14 : w.heap.size < w14.heap.size := by omega
    have Xb14 : Hid (w14.heap[w.heap.size + 1]? = some (.cells (bunC b (.slice ba b.blocks.length bc)).toArray 28 (0, 0))) := Lib.hid (by rw [← hw14]; exact (Below.heap_alloc _ _ _ (by omega)).trans Xb13.out)
    have zb14 : w.heap.size + 1 < w14.heap.size := by omega
    have Xn14 : Hid (w14.heap[w4.heap.size]? = some (.cells (parC VN (.slice an VN.head.blocks.length nn) (.slice kan VN.known.length knn)).toArray 31 (0, 0))) := Lib.hid (by rw [← hw14]; exact (Below.heap_alloc _ _ _ (by omega)).trans Xn13.out)
    have zn14 : w4.heap.size < w14.heap.size := by omega
    have Xq14 : Hid (w14.heap[w6.heap.size]? = some (.cells (parC VQ (.slice aq VQ.head.blocks.length nq) (.slice kaq VQ.known.length knq)).toArray 31 (0, 0))) := Lib.hid (by rw [← hw14]; exact (Below.heap_alloc _ _ _ (by omega)).trans Xq13.out)
    have zq14 : w6.heap.size < w14.heap.size := by omega
    have Xm14 : Hid (w14.heap[w8.heap.size]? = some (.cells (parC VN (.slice am VN.head.blocks.length nm) (.slice kam VN.known.length knm)).toArray 31 (0, 0))) := Lib.hid (by rw [← hw14]; exact (Below.heap_alloc _ _ _ (by omega)).trans Xm13.out)
    have zm14 : w8.heap.size < w14.heap.size := by omega
    have Xv14 : Hid (w14.heap[w13.heap.size]? = some (.cells (parC VQ (.slice av VQ.head.blocks.length nv) (.slice kav VQ.known.length knv)).toArray 31 (0, 0))) := Lib.hid (by rw [← hw14]; exact heap_new)
    have zv14 : w13.heap.size < w14.heap.size := by omega
    clear cp cb cn cq cm
    clear hw14
    have cp := fun o => cellB Xp14.out o
    have cb := fun o => cellB Xb14.out o
    have cn := fun o => cellB Xn14.out o
    have cq := fun o => cellB Xq14.out o
    have cm := fun o => cellB Xm14.out o
    have cv := fun o => cellB Xv14.out o
    simp only [bunC, parC, zBun, zPar, spC, List.cons_append, List.nil_append] at cp cb cn cq cm cv
    go_wp2_with fail
    refine (psame_any VQ _ _ _ _ _ (HBv13.out.below' (L13_14)) (HKv13.out.below' (L13_14)) (HBq6.out.below' (L6_14)) (HKq6.out.below' (L6_14)) HFQ.out.2).mono ?_
    rintro e w15 ⟨rfl, hb15⟩
    have B15 : Below w.heap.size w w15 := btrans0 B14 hb15
    have y15 : w14.heap.size ≤ w15.heap.size := by have := hb15.size; (try simp at this); omega
    have L0_15 : Below w.heap.size w w15 := btrans0 L0_14 hb15
    have L4_15 : Below w4.heap.size w4 w15 := btrans0 L4_14 hb15
    have L6_15 : Below w6.heap.size w6 w15 := btrans0 L6_14 hb15
    have L8_15 : Below w8.heap.size w8 w15 := btrans0 L8_14 hb15
    have L13_15 : Below w13.heap.size w13 w15 := btrans0 L13_14 hb15
    have Xp15 : Hid (w15.heap[w.heap.size]? = some (.cells (parC p (.slice pa p.head.blocks.length pc) (.slice qa p.known.length qc)).toArray 31 (0, 0))) := Lib.hid ((hb15.block _ (by first | omega | (simp; omega))).trans (Xp14.out))
    have zp15 : w.heap.size < w15.heap.size := by omega
    have Xb15 : Hid (w15.heap[w.heap.size + 1]? = some (.cells (bunC b (.slice ba b.blocks.length bc)).toArray 28 (0, 0))) := Lib.hid ((hb15.block _ (by first | omega | (simp; omega))).trans (Xb14.out))
    have zb15 : w.heap.size + 1 < w15.heap.size := by omega
    have Xn15 : Hid (w15.heap[w4.heap.size]? = some (.cells (parC VN (.slice an VN.head.blocks.length nn) (.slice kan VN.known.length knn)).toArray 31 (0, 0))) := Lib.hid ((hb15.block _ (by first | omega | (simp; omega))).trans (Xn14.out))
    have zn15 : w4.heap.size < w15.heap.size := by omega
    have Xq15 : Hid (w15.heap[w6.heap.size]? = some (.cells (parC VQ (.slice aq VQ.head.blocks.length nq) (.slice kaq VQ.known.length knq)).toArray 31 (0, 0))) := Lib.hid ((hb15.block _ (by first | omega | (simp; omega))).trans (Xq14.out))
    have zq15 : w6.heap.size < w15.heap.size := by omega
    have Xm15 : Hid (w15.heap[w8.heap.size]? = some (.cells (parC VN (.slice am VN.head.blocks.length nm) (.slice kam VN.known.length knm)).toArray 31 (0, 0))) := Lib.hid ((hb15.block _ (by first | omega | (simp; omega))).trans (Xm14.out))
    have zm15 : w8.heap.size < w15.heap.size := by omega
    have Xv15 : Hid (w15.heap[w13.heap.size]? = some (.cells (parC VQ (.slice av VQ.head.blocks.length nv) (.slice kav VQ.known.length knv)).toArray 31 (0, 0))) := Lib.hid ((hb15.block _ (by first | omega | (simp; omega))).trans (Xv14.out))
    have zv15 : w13.heap.size < w15.heap.size := by omega
    clear cp cb cn cq cm cv
    clear hb15
    have cp := fun o => cellB Xp15.out o
    have cb := fun o => cellB Xb15.out o
    have cn := fun o => cellB Xn15.out o
    have cq := fun o => cellB Xq15.out o
    have cm := fun o => cellB Xm15.out o
    have cv := fun o => cellB Xv15.out o
    simp only [bunC, parC, zBun, zPar, spC, List.cons_append, List.nil_append] at cp cb cn cq cm cv
    go_wp2_with fail
    refine (chkP_any VQ _ _ _ (HBq6.out.below' (L6_15)) (HKq6.out.below' (L6_15)) HFQ.out.1 HFQ.out.2).mono ?_
    rw [HQC.out]
    rintro e w16 ⟨rfl, hb16⟩
    have B16 : Below w.heap.size w w16 := btrans0 B15 hb16
    have y16 : w15.heap.size ≤ w16.heap.size := by have := hb16.size; (try simp at this); omega
    have L0_16 : Below w.heap.size w w16 := btrans0 L0_15 hb16
    have L4_16 : Below w4.heap.size w4 w16 := btrans0 L4_15 hb16
    have L6_16 : Below w6.heap.size w6 w16 := btrans0 L6_15 hb16
    have L8_16 : Below w8.heap.size w8 w16 := btrans0 L8_15 hb16
    have L13_16 : Below w13.heap.size w13 w16 := btrans0 L13_15 hb16
    have Xp16 : Hid (w16.heap[w.heap.size]? = some (.cells (parC p (.slice pa p.head.blocks.length pc) (.slice qa p.known.length qc)).toArray 31 (0, 0))) := Lib.hid ((hb16.block _ (by first | omega | (simp; omega))).trans (Xp15.out))
    have zp16 : w.heap.size < w16.heap.size := by omega
    have Xb16 : Hid (w16.heap[w.heap.size + 1]? = some (.cells (bunC b (.slice ba b.blocks.length bc)).toArray 28 (0, 0))) := Lib.hid ((hb16.block _ (by first | omega | (simp; omega))).trans (Xb15.out))
    have zb16 : w.heap.size + 1 < w16.heap.size := by omega
    have Xn16 : Hid (w16.heap[w4.heap.size]? = some (.cells (parC VN (.slice an VN.head.blocks.length nn) (.slice kan VN.known.length knn)).toArray 31 (0, 0))) := Lib.hid ((hb16.block _ (by first | omega | (simp; omega))).trans (Xn15.out))
    have zn16 : w4.heap.size < w16.heap.size := by omega
    have Xq16 : Hid (w16.heap[w6.heap.size]? = some (.cells (parC VQ (.slice aq VQ.head.blocks.length nq) (.slice kaq VQ.known.length knq)).toArray 31 (0, 0))) := Lib.hid ((hb16.block _ (by first | omega | (simp; omega))).trans (Xq15.out))
    have zq16 : w6.heap.size < w16.heap.size := by omega
    have Xm16 : Hid (w16.heap[w8.heap.size]? = some (.cells (parC VN (.slice am VN.head.blocks.length nm) (.slice kam VN.known.length knm)).toArray 31 (0, 0))) := Lib.hid ((hb16.block _ (by first | omega | (simp; omega))).trans (Xm15.out))
    have zm16 : w8.heap.size < w16.heap.size := by omega
    have Xv16 : Hid (w16.heap[w13.heap.size]? = some (.cells (parC VQ (.slice av VQ.head.blocks.length nv) (.slice kav VQ.known.length knv)).toArray 31 (0, 0))) := Lib.hid ((hb16.block _ (by first | omega | (simp; omega))).trans (Xv15.out))
    have zv16 : w13.heap.size < w16.heap.size := by omega
    clear cp cb cn cq cm cv
    clear hb16
    have cp := fun o => cellB Xp16.out o
    have cb := fun o => cellB Xb16.out o
    have cn := fun o => cellB Xn16.out o
    have cq := fun o => cellB Xq16.out o
    have cm := fun o => cellB Xm16.out o
    have cv := fun o => cellB Xv16.out o
    simp only [bunC, parC, zBun, zPar, spC, List.cons_append, List.nil_append] at cp cb cn cq cm cv
    go_wp2_with fail
    refine (awake_any _).mono ?_
    rintro e w99 ⟨rfl, hb99⟩
    go_wp2
    go_ret
    exact ⟨rfl, belowA⟩

set_option maxRecDepth 100000 in
theorem lifted (os : Os) (started : os.Started) (H : Type) (enc : TypeId × Value → H) :
    ReturnsInHanded {} Try.checked os 7 .any (Rows.reassemblyTwiceSpec.pre6 enc Try.prog Try.f7 Rows.reassemblyTwiceRow.domain false) (Rows.reassemblyTwiceSpec.post enc Try.prog Try.f7 false true false false) := by
  refine returnsInHanded_of_change (C := Try.checked) own started (by kernel_rfl) Try.func7
    (ChangeSpec.witness6 (enc := enc) (C := Try.checked) false ⟨#[], #[.agg #[.int .i64 0, .int .i64 0, .int .i64 0, .int .i64 0, .int .i64 0, .int .i64 0, .int .i64 0, .int .i64 0, .int .i64 0, .int .i64 0, .slice none 0 0, .string (B []), .slice none 0 0, .string (B [])], .agg #[.int .i64 0, .int .i64 0, .int .i64 0, .int .i64 0, .int .i64 0, .int .i64 0, .int .i64 0, .int .i64 0, .int .i64 0, .int .i64 0, .slice none 0 0, .string (B [])]], []⟩ 8 (by kernel_rfl) (by kernel_rfl) (by kernel_rfl) (by kernel_rfl)) ?_
  intro W base args ds gs before hval0 hW hcnd _
  have hval : ∀ (j : Nat) t v, Try.f7.params[j]? = some t → args[j]? = some v → Value.okWide Try.prog W .any base t v := hval0
  have hW' := hW
  obtain ⟨p, q, hA0, hV, rfl, hfz, hnd⟩ := hW
  have hA : DataW.TrodAll enc Try.prog W 0 (fun _ => true) true Try.f7.params.toList args.toList ds p := hA0
  rw [Try.params7] at hA hval
  obtain ⟨v0, vs0, d0, ds0, p0, q0, hargs, rfl, rfl, h0, r0⟩ := trodAll_cons hA
  obtain ⟨v1, vs1, d1, ds1, p1, q1, rfl, rfl, rfl, h1, r1⟩ := trodAll_cons r0
  obtain ⟨rfl, rfl, rfl⟩ := trodAll_nil r1
  obtain rfl : args = #[v0, v1] := by cases args; simp_all
  obtain ⟨x1, u1, rfl, hr1, hf1⟩ := open_bun (hval 1 28 v1 rfl rfl) h1
  obtain ⟨x0, ub0, uk0, rfl, hh0, hk0, hf0, hd0⟩ := open_par (hval 0 31 v0 rfl rfl) h0
  refine (walk x0 ub0 uk0 x1 u1 W hh0 hk0 hf0 hd0 hr1 hf1).mono fun e W' ⟨he, hB⟩ => ?_
  subst he
  refine ⟨_, rfl, law_post (by kernel_rfl) (by kernel_rfl) rfl Try.underlying4 rfl ?_ hW' hB⟩
  intro es hes
  match es, hes with
  | [_, _], _ => rfl

theorem proved : Rows.ReassemblyTwiceSaid :=
  OpenClaim.holds_of_wide 7 Try.f7 rfl rfl rfl rfl rfl rfl rfl ⟨rfl, rfl, rfl, rfl, rfl⟩ rfl rfl rfl rfl rfl (by kernel_rfl) Try.func7 (by kernel_rfl)
    (of_decide_eq_true (by kernel_rfl)) (by unfold Func.isWrapper; first | (rw [if_pos (by decide +kernel)]; kernel_rfl) | (rw [if_neg (by decide +kernel)]; exact ⟨rfl, rfl⟩))
    (fun os started H enc _ => lifted os started H enc)
#print axioms proved
end Go.Proofs.Ytpnfkmlgelcbgaa.reassemblyTwice
