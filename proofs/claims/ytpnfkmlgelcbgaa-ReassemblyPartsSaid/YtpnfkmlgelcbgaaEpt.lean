/-
  Proved: mailboatlaw18.ReassemblyParts returns true for every input, and leaves its arguments as they were. No condition.
-/
import Derived.Test.YtpnfkmlgelcbgaaRows
import Derived.Test.YtpnfkmlgelcbgaaUl
import Derived.Test.YtpnfkmlgelcbgaaUn
import Derived.Test.YtpnfkmlgelcbgaaJn
import Derived.Test.YtpnfkmlgelcbgaaUd
import Derived.Test.YtpnfkmlgelcbgaaSq
import Derived.Test.YtpnfkmlgelcbgaaUb
import Derived.Test.YtpnfkmlgelcbgaaSo
set_option linter.unusedVariables false
set_option linter.unusedSimpArgs false
namespace Go.Proofs.Ytpnfkmlgelcbgaa.reassemblyParts
open Go Go.ChangeShapes Go.WideShapes Go.ChangeAt Go.RowKit Go.Joins Go.Proofs.Ytpnfkmlgelcbgaa
attribute [local go_sem] B_getElem B_size B_app B_extract B_get B_toList

theorem own : ownKnob Try.prog.godebug = none := by kernel_rfl

open Iv
attribute [local go_sem] Oper.semAt_some
set_option maxRecDepth 100000 in
set_option maxHeartbeats 16000000 in
theorem walk (p : Par) (ub uk : Value) (b : Bun) (u : Value) (w : World) (hh : RBlks w w.heap.size ub p.head.blocks) (hk : RSps w w.heap.size uk p.known) (hfp : Fits p.head) (hdp : p.data.length ≤ maxLen) (hr : RBlks w w.heap.size u b.blocks) (hfb : Fits b) :
    Calls Try.prog 9 #[.agg (parC p ub uk).toArray, .agg (bunC b u).toArray] w (Says w) := by
  obtain ⟨pa, pc, rfl, -⟩ := id hh
  obtain ⟨qa, qc, rfl, -⟩ := id hk
  obtain ⟨ba, bc, rfl, -⟩ := id hr
  have HH0 := Lib.hid hh
  have HK0 := Lib.hid hk
  have HR0 := Lib.hid hr
  have HFP := Lib.hid hfp
  have HDP := Lib.hid hdp
  have HFB := Lib.hid hfb
  clear hh hk hr hfp hdp hfb
  obtain ⟨⟨VQ, EF⟩, hQ⟩ : ∃ q, addP p b = q := ⟨_, rfl⟩
  have HQ := Lib.hid hQ
  obtain ⟨⟨VM, EM⟩, hM⟩ : ∃ q, missP p = q := ⟨_, rfl⟩
  have HM := Lib.hid hM
  obtain ⟨⟨VR, ER⟩, hS⟩ : ∃ q, resP p = q := ⟨_, rfl⟩
  have HS := Lib.hid hS
  obtain ⟨CP, hC⟩ : ∃ q, chkP p = q := ⟨_, rfl⟩
  have HC := Lib.hid hC
  have HFQ : Hid (Fits VQ.head ∧ VQ.data.length ≤ maxLen) := Lib.hid (by have := addP_fits p b; rw [hQ] at this; exact this)
  clear hQ hM hS hC
  go_enter Try.func9, Try.ntmps9
  simp only [parC, bunC, List.cons_append, List.nil_append]
  go_upto_region 1 with fail
  obtain ⟨w1, hw1⟩ : ∃ q, ((w.alloc (.cells (parC p (.slice pa p.head.blocks.length pc) (.slice qa p.known.length qc)).toArray 31 (0, 0))).alloc (.cells (bunC b (.slice ba b.blocks.length bc)).toArray 28 (0, 0))) = q := ⟨_, rfl⟩
  simp only [bunC, parC, zBun, zPar, spC, List.cons_append, List.nil_append] at hw1
  rw [hw1]
  have y1 : w.heap.size < w1.heap.size := by rw [← hw1]; first | (simp; done) | (simp; omega)
  have B1 : Below w.heap.size w w1 := by rw [← hw1]; exact balloc0 (balloc0 (Below.refl _ _))
  have L0_1 : Below w.heap.size w w1 := B1
  have Xp1 : Hid (w1.heap[w.heap.size]? = some (.cells (parC p (.slice pa p.head.blocks.length pc) (.slice qa p.known.length qc)).toArray 31 (0, 0))) := Lib.hid (by rw [← hw1]; exact (Below.heap_alloc _ _ _ (by simp)).trans (heap_new))
  have zp1 : w.heap.size < w1.heap.size := by rw [← hw1]; first | (simp; done) | (simp; omega)
  have Xb1 : Hid (w1.heap[w.heap.size + 1]? = some (.cells (bunC b (.slice ba b.blocks.length bc)).toArray 28 (0, 0))) := Lib.hid (by rw [← hw1]; exact heap_new' (by simp))
  have zb1 : w.heap.size + 1 < w1.heap.size := by rw [← hw1]; first | (simp; done) | (simp; omega)
  clear hw1
  have cp := fun o => cellB Xp1.out o
  have cb := fun o => cellB Xb1.out o
  simp only [bunC, parC, zBun, zPar, spC, List.cons_append, List.nil_append] at cp cb
  go_wp2_with fail
  refine (pgreat_any p _ _ _ (HH0.out.below' (L0_1)) (HK0.out.below' (L0_1)) HFP.out HDP.out).mono ?_
  rintro e w2 ⟨gp, rfl, hb2⟩
  have B2 : Below w.heap.size w w2 := btrans0 B1 hb2
  have y2 : w1.heap.size ≤ w2.heap.size := by have := hb2.size; (try simp at this); omega
  have L0_2 : Below w.heap.size w w2 := btrans0 L0_1 hb2
  have Xp2 : Hid (w2.heap[w.heap.size]? = some (.cells (parC p (.slice pa p.head.blocks.length pc) (.slice qa p.known.length qc)).toArray 31 (0, 0))) := Lib.hid ((hb2.block _ (by first | omega | (simp; omega))).trans (Xp1.out))
  have zp2 : w.heap.size < w2.heap.size := by omega
  have Xb2 : Hid (w2.heap[w.heap.size + 1]? = some (.cells (bunC b (.slice ba b.blocks.length bc)).toArray 28 (0, 0))) := Lib.hid ((hb2.block _ (by first | omega | (simp; omega))).trans (Xb1.out))
  have zb2 : w.heap.size + 1 < w2.heap.size := by omega
  clear cp cb
  clear hb2
  have cp := fun o => cellB Xp2.out o
  have cb := fun o => cellB Xb2.out o
  simp only [bunC, parC, zBun, zPar, spC, List.cons_append, List.nil_append] at cp cb
  cases gp with
  | true =>
    go_wp2_with fail
    refine (awake_any _).mono ?_
    rintro e w99 ⟨rfl, hb99⟩
    go_wp2
    go_ret
    exact ⟨rfl, belowA⟩
  | false =>
  go_wp2_with fail
  refine (great18_any [b] _ _ (runs1 (x := b) (ux := (.slice ba b.blocks.length bc)) (by exact heap_new) (HR0.out.below' (balloc0 (L0_2)))) (fun x hx => by simp at hx; subst hx; exact HFB.out)).mono ?_
  rintro e w3 ⟨gr, rfl, -, hb3⟩
  have B3 : Below w.heap.size w w3 := btrans0 (balloc0 B2) hb3
  have y3 : w2.heap.size ≤ w3.heap.size := by have := hb3.size; (try simp at this); omega
  have L0_3 : Below w.heap.size w w3 := btrans0 (balloc0 L0_2) hb3
  have Xp3 : Hid (w3.heap[w.heap.size]? = some (.cells (parC p (.slice pa p.head.blocks.length pc) (.slice qa p.known.length qc)).toArray 31 (0, 0))) := Lib.hid ((hb3.block _ (by first | omega | (simp; omega))).trans ((Below.heap_alloc _ _ _ (by first | omega | (simp; omega))).trans (Xp2.out)))
  have zp3 : w.heap.size < w3.heap.size := by omega
  have Xb3 : Hid (w3.heap[w.heap.size + 1]? = some (.cells (bunC b (.slice ba b.blocks.length bc)).toArray 28 (0, 0))) := Lib.hid ((hb3.block _ (by first | omega | (simp; omega))).trans ((Below.heap_alloc _ _ _ (by first | omega | (simp; omega))).trans (Xb2.out)))
  have zb3 : w.heap.size + 1 < w3.heap.size := by omega
  clear cp cb
  clear hb3
  have cp := fun o => cellB Xp3.out o
  have cb := fun o => cellB Xb3.out o
  simp only [bunC, parC, zBun, zPar, spC, List.cons_append, List.nil_append] at cp cb
  cases gr with
  | true =>
    go_wp2_with fail
    refine (awake_any _).mono ?_
    rintro e w99 ⟨rfl, hb99⟩
    go_wp2
    go_ret
    exact ⟨rfl, belowA⟩
  | false =>
  go_wp2_with fail
  refine (chkP_any p _ _ _ (HH0.out.below' (L0_3)) (HK0.out.below' (L0_3)) HFP.out HDP.out).mono ?_
  rw [HC.out]
  rintro e w4 ⟨rfl, hb4⟩
  have B4 : Below w.heap.size w w4 := btrans0 B3 hb4
  have y4 : w3.heap.size ≤ w4.heap.size := by have := hb4.size; (try simp at this); omega
  have L0_4 : Below w.heap.size w w4 := btrans0 L0_3 hb4
  have Xp4 : Hid (w4.heap[w.heap.size]? = some (.cells (parC p (.slice pa p.head.blocks.length pc) (.slice qa p.known.length qc)).toArray 31 (0, 0))) := Lib.hid ((hb4.block _ (by first | omega | (simp; omega))).trans (Xp3.out))
  have zp4 : w.heap.size < w4.heap.size := by omega
  have Xb4 : Hid (w4.heap[w.heap.size + 1]? = some (.cells (bunC b (.slice ba b.blocks.length bc)).toArray 28 (0, 0))) := Lib.hid ((hb4.block _ (by first | omega | (simp; omega))).trans (Xb3.out))
  have zb4 : w.heap.size + 1 < w4.heap.size := by omega
  clear cp cb
  clear hb4
  have cp := fun o => cellB Xp4.out o
  have cb := fun o => cellB Xb4.out o
  simp only [bunC, parC, zBun, zPar, spC, List.cons_append, List.nil_append] at cp cb
  by_cases c0 : CP = 0
  case neg =>
    as_aux_lemma =>
      have dC : (CP != 0) = true := by rw [bne_iff_ne]; exact c0
      clear c0
      go_wp2_with fail
      refine (awake_any _).mono ?_
      rintro e w99 ⟨rfl, hb99⟩
      go_wp2
      go_ret
      exact ⟨rfl, belowA⟩
  subst c0
  go_wp2_with fail
  refine (miss_any p _ _ _ (HH0.out.below' (L0_4)) (HK0.out.below' (L0_4)) HFP.out HDP.out).mono ?_
  unfold SpsPostF
  rw [HM.out]
  rintro e w5 ⟨usm, rfl, hsm, -, hb5⟩
  have B5 : Below w.heap.size w w5 := btrans0 B4 hb5
  have y5 : w4.heap.size ≤ w5.heap.size := by have := hb5.size; (try simp at this); omega
  have L0_5 : Below w.heap.size w w5 := btrans0 L0_4 hb5
  have Xp5 : Hid (w5.heap[w.heap.size]? = some (.cells (parC p (.slice pa p.head.blocks.length pc) (.slice qa p.known.length qc)).toArray 31 (0, 0))) := Lib.hid ((hb5.block _ (by first | omega | (simp; omega))).trans (Xp4.out))
  have zp5 : w.heap.size < w5.heap.size := by omega
  have Xb5 : Hid (w5.heap[w.heap.size + 1]? = some (.cells (bunC b (.slice ba b.blocks.length bc)).toArray 28 (0, 0))) := Lib.hid ((hb5.block _ (by first | omega | (simp; omega))).trans (Xb4.out))
  have zb5 : w.heap.size + 1 < w5.heap.size := by omega
  clear cp cb
  simp only at hsm
  obtain ⟨sam, snm, rfl, -⟩ := id hsm
  obtain ⟨lsm, hlsm⟩ : ∃ q, (VM : List Iv.Sp).length = q := ⟨_, rfl⟩
  rw [hlsm] at hsm ⊢
  have HLm := Lib.hid hlsm
  have HSm5 := Lib.hid hsm
  clear hsm hlsm
  clear hb5
  have cp := fun o => cellB Xp5.out o
  have cb := fun o => cellB Xb5.out o
  simp only [bunC, parC, zBun, zPar, spC, List.cons_append, List.nil_append] at cp cb
  by_cases eM : EM = 0
  case neg =>
    as_aux_lemma =>
      have e4 : EM = 4 := by have := miss_err HC.out (by rw [HM.out]; exact eM); rw [HM.out] at this; exact this
      subst e4
      clear eM
      go_wp2_with fail
      refine (awake_any _).mono ?_
      rintro e w99 ⟨rfl, hb99⟩
      go_wp2
      go_ret
      exact ⟨rfl, belowA⟩
  subst eM
  have HMK := Lib.hid (miss_ok HC.out (by rw [HM.out]))
  have HME : Hid (VM = outs p.data.length 0 p.known) := Lib.hid (by have := HMK.out.1; rw [HM.out] at this; exact (Prod.mk.inj this).1)
  have HCM : Hid (chkSp VM = 0) := Lib.hid (by rw [HME.out]; exact HMK.out.2)
  have HAN : Hid (combS (fun x y => x && y) VM p.known = ([], 0)) := Lib.hid (by rw [HME.out]; exact miss_and HC.out (by rw [HM.out]))
  have HKA := Lib.hid (known_all HC.out)
  obtain ⟨T1, hT1⟩ : ∃ q, totS VM = q := ⟨_, rfl⟩
  obtain ⟨T2, hT2⟩ : ∃ q, totS p.known = q := ⟨_, rfl⟩
  have tt : T1 + T2 = p.data.length := by rw [← hT1, ← hT2, HME.out]; exact miss_tot HC.out
  have dT : (T1 + T2 != (p.data.length : Int)) = false := by rw [bne_eq_false_iff_eq]; exact tt
  have bT1 : (0 : Int) ≤ T1 + T2 := by omega
  have bT2 : T1 + T2 ≤ 4096 := by have := HKA.out.2.2.2.2; omega
  have dTw : (wrap64 (T1 + T2) != (p.data.length : Int)) = false := by rw [show wrap64 (T1 + T2) = T1 + T2 by unfold wrap64; omega]; exact dT
  have dTi : (IntKind.i64.wrap (T1 + T2) != (p.data.length : Int)) = false := by rw [show IntKind.i64.wrap (T1 + T2) = T1 + T2 by unfold IntKind.wrap; simp [IntKind.signed, IntKind.bits]; omega]; exact dT
  have HT1 := Lib.hid hT1
  have HT2 := Lib.hid hT2
  clear hT1 hT2 tt
  go_wp2_with fail
  refine (and_any VM p.known _ _ _ (HSm5.out.below' (Below.refl _ _)) (HK0.out.below' (L0_5))).mono ?_
  unfold SpsPostF
  rw [HAN.out]
  rintro e w6 ⟨usi, rfl, hsi, -, hb6⟩
  have B6 : Below w.heap.size w w6 := btrans0 B5 hb6
  have y6 : w5.heap.size ≤ w6.heap.size := by have := hb6.size; (try simp at this); omega
  have L0_6 : Below w.heap.size w w6 := btrans0 L0_5 hb6
  have L5_6 : Below w5.heap.size w5 w6 := btrans0 (Below.refl _ _) hb6
  have Xp6 : Hid (w6.heap[w.heap.size]? = some (.cells (parC p (.slice pa p.head.blocks.length pc) (.slice qa p.known.length qc)).toArray 31 (0, 0))) := Lib.hid ((hb6.block _ (by first | omega | (simp; omega))).trans (Xp5.out))
  have zp6 : w.heap.size < w6.heap.size := by omega
  have Xb6 : Hid (w6.heap[w.heap.size + 1]? = some (.cells (bunC b (.slice ba b.blocks.length bc)).toArray 28 (0, 0))) := Lib.hid ((hb6.block _ (by first | omega | (simp; omega))).trans (Xb5.out))
  have zb6 : w.heap.size + 1 < w6.heap.size := by omega
  clear cp cb
  simp only at hsi
  obtain ⟨sai, sni, rfl, -⟩ := id hsi
  obtain ⟨lsi, hlsi⟩ : ∃ q, ([] : List Iv.Sp).length = q := ⟨_, rfl⟩
  rw [hlsi] at hsi ⊢
  have HLi := Lib.hid hlsi
  have HSi6 := Lib.hid hsi
  clear hsi hlsi
  clear hb6
  have cp := fun o => cellB Xp6.out o
  have cb := fun o => cellB Xb6.out o
  simp only [bunC, parC, zBun, zPar, spC, List.cons_append, List.nil_append] at cp cb
  obtain rfl : lsi = 0 := HLi.out.symm
  go_upto_region 7 with fail
  refine wp_region_plan (fun V => Below (w6).heap.size (w6) V) [0, 0, 0, 0, 0, 0, 0, 0, 0, 2, 0, 1, 2, 0, 0, 1, 0, 0, 0] [0, 1, 2, 3, 4, 5, 6, 7, 8, 10, 11, 14, 15, 16, 9, 12, 13, 17, 18] (by kernel_rfl) (by kernel_rfl) ?_ ?_
  case refine_1 => exact belowA
  (iterate 14 (first | (refine plan_held rfl (by decide) (by rfl) (fun w1 hS => by (try (obtain ⟨_, _⟩ := bcell (hS rfl))); go_simp; rfl) ?_; simp only [Act.put, List.setIfInBounds_toArray, List.set_cons_zero, List.set_cons_succ]) | (refine plan_skip rfl (by decide) (by rfl) ?_; simp only [Act.put, List.setIfInBounds_toArray, List.set_cons_zero, List.set_cons_succ])))
  (refine plan_keep rfl rfl (by rfl) (fun K hK => ?_); go_simp)
  refine (tot_any VM _ _ (HSm5.out.below' (by exact belowA)) HCM.out).mono ?_
  rw [HT1.out]
  rintro e wc56 ⟨rfl, hbc56⟩
  (refine hK _ _ (by exact belowA) ?_; clear hK K; (try simp only [Act.put, List.setIfInBounds_toArray, List.set_cons_zero, List.set_cons_succ]))
  (refine plan_keep rfl rfl (by rfl) (fun K hK => ?_); go_simp)
  refine (tot_any p.known _ _ (HK0.out.below' (by exact belowA)) HKA.out.2.2.1).mono ?_
  rw [HT2.out]
  rintro e wc59 ⟨rfl, hbc59⟩
  (refine hK _ _ (by exact belowA) ?_; clear hK K; (try simp only [Act.put, List.setIfInBounds_toArray, List.set_cons_zero, List.set_cons_succ]))
  (iterate 3 (first | (refine plan_held rfl (by decide) (by rfl) (fun w1 hS => by (try (obtain ⟨_, _⟩ := bcell (hS rfl))); go_simp; rfl) ?_; simp only [Act.put, List.setIfInBounds_toArray, List.set_cons_zero, List.set_cons_succ]) | (refine plan_skip rfl (by decide) (by rfl) ?_; simp only [Act.put, List.setIfInBounds_toArray, List.set_cons_zero, List.set_cons_succ])))
  refine plan_done ?_
  have hb7 : Below w6.heap.size w6 wc59 := by exact belowA
  obtain ⟨w7, rfl⟩ : ∃ q, q = wc59 := ⟨_, rfl⟩
  have B7 : Below w.heap.size w w7 := btrans0 B6 hb7
  have y7 : w6.heap.size ≤ w7.heap.size := hb7.size
  have L0_7 : Below w.heap.size w w7 := btrans0 L0_6 hb7
  have L5_7 : Below w5.heap.size w5 w7 := btrans0 L5_6 hb7
  have L6_7 : Below w6.heap.size w6 w7 := btrans0 (Below.refl _ _) hb7
  have Xp7 : Hid (w7.heap[w.heap.size]? = some (.cells (parC p (.slice pa p.head.blocks.length pc) (.slice qa p.known.length qc)).toArray 31 (0, 0))) := Lib.hid ((hb7.block _ (by omega)).trans Xp6.out)
  have zp7 : w.heap.size < w7.heap.size := by omega
  have Xb7 : Hid (w7.heap[w.heap.size + 1]? = some (.cells (bunC b (.slice ba b.blocks.length bc)).toArray 28 (0, 0))) := Lib.hid ((hb7.block _ (by omega)).trans Xb6.out)
  have zb7 : w.heap.size + 1 < w7.heap.size := by omega
  clear cp cb
  clear hb7
  have cp := fun o => cellB Xp7.out o
  have cb := fun o => cellB Xb7.out o
  simp only [bunC, parC, zBun, zPar, spC, List.cons_append, List.nil_append] at cp cb
  go_wp2_with fail
  refine (res_any p _ _ w7.heap.size _ (Nat.le_refl _) (HH0.out.below' (L0_7)) (HK0.out.below' (L0_7)) HFP.out HDP.out).mono ?_
  rw [HS.out]
  rintro e w8 ⟨urc, rfl, -, hrc, hb8⟩
  have B8 : Below w.heap.size w w8 := btrans0 B7 hb8
  have y8 : w7.heap.size ≤ w8.heap.size := by have := hb8.size; (try simp at this); omega
  have L0_8 : Below w.heap.size w w8 := btrans0 L0_7 hb8
  have L5_8 : Below w5.heap.size w5 w8 := btrans0 L5_7 hb8
  have L6_8 : Below w6.heap.size w6 w8 := btrans0 L6_7 hb8
  have Xp8 : Hid (w8.heap[w.heap.size]? = some (.cells (parC p (.slice pa p.head.blocks.length pc) (.slice qa p.known.length qc)).toArray 31 (0, 0))) := Lib.hid ((hb8.block _ (by first | omega | (simp; omega))).trans (Xp7.out))
  have zp8 : w.heap.size < w8.heap.size := by omega
  have Xb8 : Hid (w8.heap[w.heap.size + 1]? = some (.cells (bunC b (.slice ba b.blocks.length bc)).toArray 28 (0, 0))) := Lib.hid ((hb8.block _ (by first | omega | (simp; omega))).trans (Xb7.out))
  have zb8 : w.heap.size + 1 < w8.heap.size := by omega
  clear cp cb
  simp only at hrc
  obtain ⟨rac, rnc, rfl, -⟩ := id hrc
  have HRc8 := Lib.hid (hrc.wide (M := w8.heap.size) (by omega))
  clear hrc
  clear hb8
  have cp := fun o => cellB Xp8.out o
  have cb := fun o => cellB Xb8.out o
  simp only [bunC, parC, zBun, zPar, spC, List.cons_append, List.nil_append] at cp cb
  simp only [bunC]
  go_upto_region 10 with fail
  obtain ⟨w9, hw9⟩ : ∃ q, w8.alloc (.cells (bunC VR (.slice rac VR.blocks.length rnc)).toArray 28 (0, 0)) = q := ⟨_, rfl⟩
  simp only [bunC, parC, zBun, zPar, spC, List.cons_append, List.nil_append] at hw9
  rw [hw9]
  have y9 : w8.heap.size < w9.heap.size := by rw [← hw9]; simp
  have B9 : Below w.heap.size w w9 := by rw [← hw9]; exact balloc0 B8
  have L0_9 : Below w.heap.size w w9 := by rw [← hw9]; exact balloc0 L0_8
  have L5_9 : Below w5.heap.size w5 w9 := by rw [← hw9]; exact balloc0 L5_8
  have L6_9 : Below w6.heap.size w6 w9 := by rw [← hw9]; exact balloc0 L6_8
  have L8_9 : Below w8.heap.size w8 w9 := by rw [← hw9]; exact balloc0 (Below.refl _ _)
  have Xp9 : Hid (w9.heap[w.heap.size]? = some (.cells (parC p (.slice pa p.head.blocks.length pc) (.slice qa p.known.length qc)).toArray 31 (0, 0))) := Lib.hid (by rw [← hw9]; exact (Below.heap_alloc _ _ _ (by omega)).trans Xp8.out)
  have zp9 : w.heap.size < w9.heap.size := by omega
  have Xb9 : Hid (w9.heap[w.heap.size + 1]? = some (.cells (bunC b (.slice ba b.blocks.length bc)).toArray 28 (0, 0))) := Lib.hid (by rw [← hw9]; exact (Below.heap_alloc _ _ _ (by omega)).trans Xb8.out)
  have zb9 : w.heap.size + 1 < w9.heap.size := by omega
  have Xc9 : Hid (w9.heap[w8.heap.size]? = some (.cells (bunC VR (.slice rac VR.blocks.length rnc)).toArray 28 (0, 0))) := Lib.hid (by rw [← hw9]; exact heap_new)
  have zc9 : w8.heap.size < w9.heap.size := by omega
  clear cp cb
  clear hw9
  have cp := fun o => cellB Xp9.out o
  have cb := fun o => cellB Xb9.out o
  have cc := fun o => cellB Xc9.out o
  simp only [bunC, parC, zBun, zPar, spC, List.cons_append, List.nil_append] at cp cb cc
  by_cases hf : p.known = [(0, (p.data.length : Int))]
  case neg =>
    as_aux_lemma =>
      have hr : ER ≠ 0 := fun z => hf ((res_iff HC.out).1.1 (by rw [HS.out]; exact z))
      have d1 : (ER == 0) = false := by rw [beq_eq_false_iff_ne]; exact hr
      have d1x : (ER != 0) = true := by rw [bne_iff_ne]; exact hr
      have hm : lsm ≠ 0 := fun z => hf ((full_iff HC.out).1 (by rw [← HME.out]; exact List.eq_nil_of_length_eq_zero (HLm.out.trans z)))
      have d2 : ((lsm : Int) == 0) = false := by rw [beq_eq_false_iff_ne]; omega
      clear hr hm hf
      go_wp2_with fail
      refine (add_any p b _ _ _ w9.heap.size _ (Nat.le_refl _) (HH0.out.below' (L0_9)) (HK0.out.below' (L0_9)) (HR0.out.below' (L0_9)) HFP.out HDP.out HFB.out).mono ?_
      rw [HQ.out]
      rintro e w10 ⟨ubq, ukq, rfl, hpq, hbq, hkq, hfq, hb10⟩
      have B10 : Below w.heap.size w w10 := btrans0 B9 hb10
      have y10 : w9.heap.size ≤ w10.heap.size := by have := hb10.size; (try simp at this); omega
      have L0_10 : Below w.heap.size w w10 := btrans0 L0_9 hb10
      have L5_10 : Below w5.heap.size w5 w10 := btrans0 L5_9 hb10
      have L6_10 : Below w6.heap.size w6 w10 := btrans0 L6_9 hb10
      have L8_10 : Below w8.heap.size w8 w10 := btrans0 L8_9 hb10
      have Xp10 : Hid (w10.heap[w.heap.size]? = some (.cells (parC p (.slice pa p.head.blocks.length pc) (.slice qa p.known.length qc)).toArray 31 (0, 0))) := Lib.hid ((hb10.block _ (by first | omega | (simp; omega))).trans (Xp9.out))
      have zp10 : w.heap.size < w10.heap.size := by omega
      have Xb10 : Hid (w10.heap[w.heap.size + 1]? = some (.cells (bunC b (.slice ba b.blocks.length bc)).toArray 28 (0, 0))) := Lib.hid ((hb10.block _ (by first | omega | (simp; omega))).trans (Xb9.out))
      have zb10 : w.heap.size + 1 < w10.heap.size := by omega
      have Xc10 : Hid (w10.heap[w8.heap.size]? = some (.cells (bunC VR (.slice rac VR.blocks.length rnc)).toArray 28 (0, 0))) := Lib.hid ((hb10.block _ (by first | omega | (simp; omega))).trans (Xc9.out))
      have zc10 : w8.heap.size < w10.heap.size := by omega
      clear cp cb cc
      simp only at hbq hkq
      obtain ⟨aq, nq, rfl, -⟩ := id hbq
      obtain ⟨kaq, knq, rfl, -⟩ := id hkq
      have HBq10 : Hid (RBlks w10 w10.heap.size (.slice aq VQ.head.blocks.length nq) VQ.head.blocks) := Lib.hid (hbq.wide (by omega))
      have HKq10 := Lib.hid hkq
      clear hbq hkq hfq hpq
      clear hb10
      have cp := fun o => cellB Xp10.out o
      have cb := fun o => cellB Xb10.out o
      have cc := fun o => cellB Xc10.out o
      simp only [bunC, parC, zBun, zPar, spC, List.cons_append, List.nil_append] at cp cb cc
      simp only [bunC, parC, zBun, zPar, spC, List.cons_append, List.nil_append]
      go_upto_region 13 with fail
      obtain ⟨w11, hw11⟩ : ∃ q, w10.alloc (.cells (parC VQ (.slice aq VQ.head.blocks.length nq) (.slice kaq VQ.known.length knq)).toArray 31 (0, 0)) = q := ⟨_, rfl⟩
      simp only [bunC, parC, zBun, zPar, spC, List.cons_append, List.nil_append] at hw11
      rw [hw11]
      have y11 : w10.heap.size < w11.heap.size := by rw [← hw11]; simp
      have B11 : Below w.heap.size w w11 := by rw [← hw11]; exact balloc0 B10
      have L0_11 : Below w.heap.size w w11 := by rw [← hw11]; exact balloc0 L0_10
      have L5_11 : Below w5.heap.size w5 w11 := by rw [← hw11]; exact balloc0 L5_10
      have L6_11 : Below w6.heap.size w6 w11 := by rw [← hw11]; exact balloc0 L6_10
      have L8_11 : Below w8.heap.size w8 w11 := by rw [← hw11]; exact balloc0 L8_10
      have L10_11 : Below w10.heap.size w10 w11 := by rw [← hw11]; exact balloc0 (Below.refl _ _)
      have Xp11 : Hid (w11.heap[w.heap.size]? = some (.cells (parC p (.slice pa p.head.blocks.length pc) (.slice qa p.known.length qc)).toArray 31 (0, 0))) := Lib.hid (by rw [← hw11]; exact (Below.heap_alloc _ _ _ (by omega)).trans Xp10.out)
      have zp11 : w.heap.size < w11.heap.size := by omega
      have Xb11 : Hid (w11.heap[w.heap.size + 1]? = some (.cells (bunC b (.slice ba b.blocks.length bc)).toArray 28 (0, 0))) := Lib.hid (by rw [← hw11]; exact (Below.heap_alloc _ _ _ (by omega)).trans Xb10.out)
      have zb11 : w.heap.size + 1 < w11.heap.size := by omega
      have Xc11 : Hid (w11.heap[w8.heap.size]? = some (.cells (bunC VR (.slice rac VR.blocks.length rnc)).toArray 28 (0, 0))) := Lib.hid (by rw [← hw11]; exact (Below.heap_alloc _ _ _ (by omega)).trans Xc10.out)
      have zc11 : w8.heap.size < w11.heap.size := by omega
      have Xq11 : Hid (w11.heap[w10.heap.size]? = some (.cells (parC VQ (.slice aq VQ.head.blocks.length nq) (.slice kaq VQ.known.length knq)).toArray 31 (0, 0))) := Lib.hid (by rw [← hw11]; exact heap_new)
      have zq11 : w10.heap.size < w11.heap.size := by omega
      clear cp cb cc
      clear hw11
      have cp := fun o => cellB Xp11.out o
      have cb := fun o => cellB Xb11.out o
      have cc := fun o => cellB Xc11.out o
      have cq := fun o => cellB Xq11.out o
      simp only [bunC, parC, zBun, zPar, spC, List.cons_append, List.nil_append] at cp cb cc cq
      by_cases eF : EF = 0
      case neg =>
        as_aux_lemma =>
          have dF : (EF != 0) = true := by rw [bne_iff_ne]; exact eF
          clear eF
          go_wp2_with fail
          refine (awake_any _).mono ?_
          rintro e w99 ⟨rfl, hb99⟩
          go_wp2
          go_ret
          exact ⟨rfl, belowA⟩
      subst eF
      have HQC : Hid (chkP VQ = 0) := Lib.hid (by have := addP_valid (p := p) (b := b) (by rw [HQ.out]); rw [HQ.out] at this; exact this)
      have HLE : Hid (totS (outs VQ.data.length 0 VQ.known) ≤ T1) := Lib.hid (by have := add_less (p := p) (b := b) (by rw [HQ.out]); rw [HQ.out, ← HME.out, HT1.out] at this; exact this)
      obtain ⟨⟨VK, EK⟩, hK⟩ : ∃ q, missP VQ = q := ⟨_, rfl⟩
      have HKK := Lib.hid hK
      clear hK
      go_wp2_with fail
      refine (miss_any VQ _ _ _ (HBq10.out.below' (L10_11)) (HKq10.out.below' (L10_11)) HFQ.out.1 HFQ.out.2).mono ?_
      unfold SpsPostF
      rw [HKK.out]
      rintro e w12 ⟨usk, rfl, hsk, -, hb12⟩
      have B12 : Below w.heap.size w w12 := btrans0 B11 hb12
      have y12 : w11.heap.size ≤ w12.heap.size := by have := hb12.size; (try simp at this); omega
      have L0_12 : Below w.heap.size w w12 := btrans0 L0_11 hb12
      have L5_12 : Below w5.heap.size w5 w12 := btrans0 L5_11 hb12
      have L6_12 : Below w6.heap.size w6 w12 := btrans0 L6_11 hb12
      have L8_12 : Below w8.heap.size w8 w12 := btrans0 L8_11 hb12
      have L10_12 : Below w10.heap.size w10 w12 := btrans0 L10_11 hb12
      have Xp12 : Hid (w12.heap[w.heap.size]? = some (.cells (parC p (.slice pa p.head.blocks.length pc) (.slice qa p.known.length qc)).toArray 31 (0, 0))) := Lib.hid ((hb12.block _ (by first | omega | (simp; omega))).trans (Xp11.out))
      have zp12 : w.heap.size < w12.heap.size := by omega
      have Xb12 : Hid (w12.heap[w.heap.size + 1]? = some (.cells (bunC b (.slice ba b.blocks.length bc)).toArray 28 (0, 0))) := Lib.hid ((hb12.block _ (by first | omega | (simp; omega))).trans (Xb11.out))
      have zb12 : w.heap.size + 1 < w12.heap.size := by omega
      have Xc12 : Hid (w12.heap[w8.heap.size]? = some (.cells (bunC VR (.slice rac VR.blocks.length rnc)).toArray 28 (0, 0))) := Lib.hid ((hb12.block _ (by first | omega | (simp; omega))).trans (Xc11.out))
      have zc12 : w8.heap.size < w12.heap.size := by omega
      have Xq12 : Hid (w12.heap[w10.heap.size]? = some (.cells (parC VQ (.slice aq VQ.head.blocks.length nq) (.slice kaq VQ.known.length knq)).toArray 31 (0, 0))) := Lib.hid ((hb12.block _ (by first | omega | (simp; omega))).trans (Xq11.out))
      have zq12 : w10.heap.size < w12.heap.size := by omega
      clear cp cb cc cq
      simp only at hsk
      obtain ⟨sak, snk, rfl, -⟩ := id hsk
      obtain ⟨lsk, hlsk⟩ : ∃ q, (VK : List Iv.Sp).length = q := ⟨_, rfl⟩
      rw [hlsk] at hsk ⊢
      have HLk := Lib.hid hlsk
      have HSk12 := Lib.hid hsk
      clear hsk hlsk
      clear hb12
      have cp := fun o => cellB Xp12.out o
      have cb := fun o => cellB Xb12.out o
      have cc := fun o => cellB Xc12.out o
      have cq := fun o => cellB Xq12.out o
      simp only [bunC, parC, zBun, zPar, spC, List.cons_append, List.nil_append] at cp cb cc cq
      by_cases eK : EK = 0
      case neg =>
        as_aux_lemma =>
          have dK : (EK != 0) = true := by rw [bne_iff_ne]; exact eK
          clear eK
          go_wp2_with fail
          refine (awake_any _).mono ?_
          rintro e w99 ⟨rfl, hb99⟩
          go_wp2
          go_ret
          exact ⟨rfl, belowA⟩
      subst eK
      have HKM := Lib.hid (miss_ok HQC.out (by rw [HKK.out]))
      have HKE : Hid (VK = outs VQ.data.length 0 VQ.known) := Lib.hid (by have := HKM.out.1; rw [HKK.out] at this; exact (Prod.mk.inj this).1)
      obtain ⟨T3, hT3⟩ : ∃ q, totS VK = q := ⟨_, rfl⟩
      have t3 : T3 ≤ T1 := by rw [← hT3, HKE.out]; exact HLE.out
      have HT3 := Lib.hid hT3
      have HCK : Hid (chkSp VK = 0) := Lib.hid (by rw [HKE.out]; exact HKM.out.2)
      have dt3 : decide (T3 ≤ T1) = true := decide_eq_true t3
      clear hT3 t3
      go_wp2_with fail
      refine (tot_any VK _ _ (HSk12.out.below' (Below.refl _ _)) HCK.out).mono ?_
      rw [HT3.out]
      rintro e w13 ⟨rfl, hb13⟩
      have B13 : Below w.heap.size w w13 := btrans0 B12 hb13
      have y13 : w12.heap.size ≤ w13.heap.size := by have := hb13.size; (try simp at this); omega
      have L0_13 : Below w.heap.size w w13 := btrans0 L0_12 hb13
      have L5_13 : Below w5.heap.size w5 w13 := btrans0 L5_12 hb13
      have L6_13 : Below w6.heap.size w6 w13 := btrans0 L6_12 hb13
      have L8_13 : Below w8.heap.size w8 w13 := btrans0 L8_12 hb13
      have L10_13 : Below w10.heap.size w10 w13 := btrans0 L10_12 hb13
      have L12_13 : Below w12.heap.size w12 w13 := btrans0 (Below.refl _ _) hb13
      have Xp13 : Hid (w13.heap[w.heap.size]? = some (.cells (parC p (.slice pa p.head.blocks.length pc) (.slice qa p.known.length qc)).toArray 31 (0, 0))) := Lib.hid ((hb13.block _ (by first | omega | (simp; omega))).trans (Xp12.out))
      have zp13 : w.heap.size < w13.heap.size := by omega
      have Xb13 : Hid (w13.heap[w.heap.size + 1]? = some (.cells (bunC b (.slice ba b.blocks.length bc)).toArray 28 (0, 0))) := Lib.hid ((hb13.block _ (by first | omega | (simp; omega))).trans (Xb12.out))
      have zb13 : w.heap.size + 1 < w13.heap.size := by omega
      have Xc13 : Hid (w13.heap[w8.heap.size]? = some (.cells (bunC VR (.slice rac VR.blocks.length rnc)).toArray 28 (0, 0))) := Lib.hid ((hb13.block _ (by first | omega | (simp; omega))).trans (Xc12.out))
      have zc13 : w8.heap.size < w13.heap.size := by omega
      have Xq13 : Hid (w13.heap[w10.heap.size]? = some (.cells (parC VQ (.slice aq VQ.head.blocks.length nq) (.slice kaq VQ.known.length knq)).toArray 31 (0, 0))) := Lib.hid ((hb13.block _ (by first | omega | (simp; omega))).trans (Xq12.out))
      have zq13 : w10.heap.size < w13.heap.size := by omega
      clear cp cb cc cq
      clear hb13
      have cp := fun o => cellB Xp13.out o
      have cb := fun o => cellB Xb13.out o
      have cc := fun o => cellB Xc13.out o
      have cq := fun o => cellB Xq13.out o
      simp only [bunC, parC, zBun, zPar, spC, List.cons_append, List.nil_append] at cp cb cc cq
      go_wp2_with fail
      refine (tot_any VM _ _ (HSm5.out.below' (L5_13)) HCM.out).mono ?_
      rw [HT1.out]
      rintro e w14 ⟨rfl, hb14⟩
      have B14 : Below w.heap.size w w14 := btrans0 B13 hb14
      have y14 : w13.heap.size ≤ w14.heap.size := by have := hb14.size; (try simp at this); omega
      have L0_14 : Below w.heap.size w w14 := btrans0 L0_13 hb14
      have L5_14 : Below w5.heap.size w5 w14 := btrans0 L5_13 hb14
      have L6_14 : Below w6.heap.size w6 w14 := btrans0 L6_13 hb14
      have L8_14 : Below w8.heap.size w8 w14 := btrans0 L8_13 hb14
      have L10_14 : Below w10.heap.size w10 w14 := btrans0 L10_13 hb14
      have L12_14 : Below w12.heap.size w12 w14 := btrans0 L12_13 hb14
      have Xp14 : Hid (w14.heap[w.heap.size]? = some (.cells (parC p (.slice pa p.head.blocks.length pc) (.slice qa p.known.length qc)).toArray 31 (0, 0))) := Lib.hid ((hb14.block _ (by first | omega | (simp; omega))).trans (Xp13.out))
      have zp14 : w.heap.size < w14.heap.size := by omega
      have Xb14 : Hid (w14.heap[w.heap.size + 1]? = some (.cells (bunC b (.slice ba b.blocks.length bc)).toArray 28 (0, 0))) := Lib.hid ((hb14.block _ (by first | omega | (simp; omega))).trans (Xb13.out))
      have zb14 : w.heap.size + 1 < w14.heap.size := by omega
      have Xc14 : Hid (w14.heap[w8.heap.size]? = some (.cells (bunC VR (.slice rac VR.blocks.length rnc)).toArray 28 (0, 0))) := Lib.hid ((hb14.block _ (by first | omega | (simp; omega))).trans (Xc13.out))
      have zc14 : w8.heap.size < w14.heap.size := by omega
      have Xq14 : Hid (w14.heap[w10.heap.size]? = some (.cells (parC VQ (.slice aq VQ.head.blocks.length nq) (.slice kaq VQ.known.length knq)).toArray 31 (0, 0))) := Lib.hid ((hb14.block _ (by first | omega | (simp; omega))).trans (Xq13.out))
      have zq14 : w10.heap.size < w14.heap.size := by omega
      clear cp cb cc cq
      clear hb14
      have cp := fun o => cellB Xp14.out o
      have cb := fun o => cellB Xb14.out o
      have cc := fun o => cellB Xc14.out o
      have cq := fun o => cellB Xq14.out o
      simp only [bunC, parC, zBun, zPar, spC, List.cons_append, List.nil_append] at cp cb cc cq
      go_wp2_with fail
      refine (awake_any _).mono ?_
      rintro e w99 ⟨rfl, hb99⟩
      go_wp2
      go_ret
      exact ⟨rfl, belowA⟩
  have HFU := Lib.hid hf
  have hr : resP p = ({ p.head with payload := p.data }, 0) := (res_iff HC.out).2 ((res_iff HC.out).1.2 hf)
  rw [HS.out] at hr
  obtain ⟨hv, he⟩ := Prod.mk.inj hr
  subst he
  have hz : VM = [] := by rw [HME.out]; exact (full_iff HC.out).2 hf
  obtain rfl : lsm = 0 := by rw [← HLm.out, hz]; rfl
  have HV1 : Hid (chkE VR = 0) := Lib.hid (by rw [hv]; exact (res_valid HC.out).1)
  have HV2 : Hid (isS VR = false) := Lib.hid (by rw [hv]; exact (res_valid HC.out).2)
  have HFV : Hid (Fits VR) := Lib.hid (chk_fits HV1.out)
  have HPP : Hid (VR.payload = p.data) := Lib.hid (by rw [hv])
  clear hv hr hf hz
  go_wp2_with fail
  refine (check_any VR _ _ (HRc8.out.below' (L8_9)) HFV.out).mono ?_
  rw [HV1.out]
  rintro e w10 ⟨rfl, hb10⟩
  have B10 : Below w.heap.size w w10 := btrans0 B9 hb10
  have y10 : w9.heap.size ≤ w10.heap.size := by have := hb10.size; (try simp at this); omega
  have L0_10 : Below w.heap.size w w10 := btrans0 L0_9 hb10
  have L5_10 : Below w5.heap.size w5 w10 := btrans0 L5_9 hb10
  have L6_10 : Below w6.heap.size w6 w10 := btrans0 L6_9 hb10
  have L8_10 : Below w8.heap.size w8 w10 := btrans0 L8_9 hb10
  have Xp10 : Hid (w10.heap[w.heap.size]? = some (.cells (parC p (.slice pa p.head.blocks.length pc) (.slice qa p.known.length qc)).toArray 31 (0, 0))) := Lib.hid ((hb10.block _ (by first | omega | (simp; omega))).trans (Xp9.out))
  have zp10 : w.heap.size < w10.heap.size := by omega
  have Xb10 : Hid (w10.heap[w.heap.size + 1]? = some (.cells (bunC b (.slice ba b.blocks.length bc)).toArray 28 (0, 0))) := Lib.hid ((hb10.block _ (by first | omega | (simp; omega))).trans (Xb9.out))
  have zb10 : w.heap.size + 1 < w10.heap.size := by omega
  have Xc10 : Hid (w10.heap[w8.heap.size]? = some (.cells (bunC VR (.slice rac VR.blocks.length rnc)).toArray 28 (0, 0))) := Lib.hid ((hb10.block _ (by first | omega | (simp; omega))).trans (Xc9.out))
  have zc10 : w8.heap.size < w10.heap.size := by omega
  clear cp cb cc
  clear hb10
  have cp := fun o => cellB Xp10.out o
  have cb := fun o => cellB Xb10.out o
  have cc := fun o => cellB Xc10.out o
  simp only [bunC, parC, zBun, zPar, spC, List.cons_append, List.nil_append] at cp cb cc
  go_wp2_with fail
  refine (is_any VR _ _ (HRc8.out.below' (L8_10)) HFV.out).mono ?_
  rw [HV2.out]
  rintro e w11 ⟨rfl, hb11⟩
  have B11 : Below w.heap.size w w11 := btrans0 B10 hb11
  have y11 : w10.heap.size ≤ w11.heap.size := by have := hb11.size; (try simp at this); omega
  have L0_11 : Below w.heap.size w w11 := btrans0 L0_10 hb11
  have L5_11 : Below w5.heap.size w5 w11 := btrans0 L5_10 hb11
  have L6_11 : Below w6.heap.size w6 w11 := btrans0 L6_10 hb11
  have L8_11 : Below w8.heap.size w8 w11 := btrans0 L8_10 hb11
  have Xp11 : Hid (w11.heap[w.heap.size]? = some (.cells (parC p (.slice pa p.head.blocks.length pc) (.slice qa p.known.length qc)).toArray 31 (0, 0))) := Lib.hid ((hb11.block _ (by first | omega | (simp; omega))).trans (Xp10.out))
  have zp11 : w.heap.size < w11.heap.size := by omega
  have Xb11 : Hid (w11.heap[w.heap.size + 1]? = some (.cells (bunC b (.slice ba b.blocks.length bc)).toArray 28 (0, 0))) := Lib.hid ((hb11.block _ (by first | omega | (simp; omega))).trans (Xb10.out))
  have zb11 : w.heap.size + 1 < w11.heap.size := by omega
  have Xc11 : Hid (w11.heap[w8.heap.size]? = some (.cells (bunC VR (.slice rac VR.blocks.length rnc)).toArray 28 (0, 0))) := Lib.hid ((hb11.block _ (by first | omega | (simp; omega))).trans (Xc10.out))
  have zc11 : w8.heap.size < w11.heap.size := by omega
  clear cp cb cc
  clear hb11
  have cp := fun o => cellB Xp11.out o
  have cb := fun o => cellB Xb11.out o
  have cc := fun o => cellB Xc11.out o
  simp only [bunC, parC, zBun, zPar, spC, List.cons_append, List.nil_append] at cp cb cc
  have hp := HPP.out
  go_upto_region 12 with fail
  clear hp
  as_aux_lemma =>
    go_wp2_with fail
    refine (add_any p b _ _ _ w11.heap.size _ (Nat.le_refl _) (HH0.out.below' (L0_11)) (HK0.out.below' (L0_11)) (HR0.out.below' (L0_11)) HFP.out HDP.out HFB.out).mono ?_
    rw [HQ.out]
    rintro e w12 ⟨ubq, ukq, rfl, hpq, hbq, hkq, hfq, hb12⟩
    have B12 : Below w.heap.size w w12 := btrans0 B11 hb12
    have y12 : w11.heap.size ≤ w12.heap.size := by have := hb12.size; (try simp at this); omega
    have L0_12 : Below w.heap.size w w12 := btrans0 L0_11 hb12
    have L5_12 : Below w5.heap.size w5 w12 := btrans0 L5_11 hb12
    have L6_12 : Below w6.heap.size w6 w12 := btrans0 L6_11 hb12
    have L8_12 : Below w8.heap.size w8 w12 := btrans0 L8_11 hb12
    have Xp12 : Hid (w12.heap[w.heap.size]? = some (.cells (parC p (.slice pa p.head.blocks.length pc) (.slice qa p.known.length qc)).toArray 31 (0, 0))) := Lib.hid ((hb12.block _ (by first | omega | (simp; omega))).trans (Xp11.out))
    have zp12 : w.heap.size < w12.heap.size := by omega
    have Xb12 : Hid (w12.heap[w.heap.size + 1]? = some (.cells (bunC b (.slice ba b.blocks.length bc)).toArray 28 (0, 0))) := Lib.hid ((hb12.block _ (by first | omega | (simp; omega))).trans (Xb11.out))
    have zb12 : w.heap.size + 1 < w12.heap.size := by omega
    have Xc12 : Hid (w12.heap[w8.heap.size]? = some (.cells (bunC VR (.slice rac VR.blocks.length rnc)).toArray 28 (0, 0))) := Lib.hid ((hb12.block _ (by first | omega | (simp; omega))).trans (Xc11.out))
    have zc12 : w8.heap.size < w12.heap.size := by omega
    clear cp cb cc
    simp only at hbq hkq
    obtain ⟨aq, nq, rfl, -⟩ := id hbq
    obtain ⟨kaq, knq, rfl, -⟩ := id hkq
    have HBq12 : Hid (RBlks w12 w12.heap.size (.slice aq VQ.head.blocks.length nq) VQ.head.blocks) := Lib.hid (hbq.wide (by omega))
    have HKq12 := Lib.hid hkq
    clear hbq hkq hfq hpq
    clear hb12
    have cp := fun o => cellB Xp12.out o
    have cb := fun o => cellB Xb12.out o
    have cc := fun o => cellB Xc12.out o
    simp only [bunC, parC, zBun, zPar, spC, List.cons_append, List.nil_append] at cp cb cc
    simp only [bunC, parC, zBun, zPar, spC, List.cons_append, List.nil_append]
    go_upto_region 13 with fail
    obtain ⟨w13, hw13⟩ : ∃ q, w12.alloc (.cells (parC VQ (.slice aq VQ.head.blocks.length nq) (.slice kaq VQ.known.length knq)).toArray 31 (0, 0)) = q := ⟨_, rfl⟩
    simp only [bunC, parC, zBun, zPar, spC, List.cons_append, List.nil_append] at hw13
    rw [hw13]
    have y13 : w12.heap.size < w13.heap.size := by rw [← hw13]; simp
    have B13 : Below w.heap.size w w13 := by rw [← hw13]; exact balloc0 B12
    have L0_13 : Below w.heap.size w w13 := by rw [← hw13]; exact balloc0 L0_12
    have L5_13 : Below w5.heap.size w5 w13 := by rw [← hw13]; exact balloc0 L5_12
    have L6_13 : Below w6.heap.size w6 w13 := by rw [← hw13]; exact balloc0 L6_12
    have L8_13 : Below w8.heap.size w8 w13 := by rw [← hw13]; exact balloc0 L8_12
    have L12_13 : Below w12.heap.size w12 w13 := by rw [← hw13]; exact balloc0 (Below.refl _ _)
    have Xp13 : Hid (w13.heap[w.heap.size]? = some (.cells (parC p (.slice pa p.head.blocks.length pc) (.slice qa p.known.length qc)).toArray 31 (0, 0))) := Lib.hid (by rw [← hw13]; exact (Below.heap_alloc _ _ _ (by omega)).trans Xp12.out)
    have zp13 : w.heap.size < w13.heap.size := by omega
    have Xb13 : Hid (w13.heap[w.heap.size + 1]? = some (.cells (bunC b (.slice ba b.blocks.length bc)).toArray 28 (0, 0))) := Lib.hid (by rw [← hw13]; exact (Below.heap_alloc _ _ _ (by omega)).trans Xb12.out)
    have zb13 : w.heap.size + 1 < w13.heap.size := by omega
    have Xc13 : Hid (w13.heap[w8.heap.size]? = some (.cells (bunC VR (.slice rac VR.blocks.length rnc)).toArray 28 (0, 0))) := Lib.hid (by rw [← hw13]; exact (Below.heap_alloc _ _ _ (by omega)).trans Xc12.out)
    have zc13 : w8.heap.size < w13.heap.size := by omega
    have Xq13 : Hid (w13.heap[w12.heap.size]? = some (.cells (parC VQ (.slice aq VQ.head.blocks.length nq) (.slice kaq VQ.known.length knq)).toArray 31 (0, 0))) := Lib.hid (by rw [← hw13]; exact heap_new)
    have zq13 : w12.heap.size < w13.heap.size := by omega
    clear cp cb cc
    clear hw13
    have cp := fun o => cellB Xp13.out o
    have cb := fun o => cellB Xb13.out o
    have cc := fun o => cellB Xc13.out o
    have cq := fun o => cellB Xq13.out o
    simp only [bunC, parC, zBun, zPar, spC, List.cons_append, List.nil_append] at cp cb cc cq
    by_cases eF : EF = 0
    case neg =>
      as_aux_lemma =>
        have dF : (EF != 0) = true := by rw [bne_iff_ne]; exact eF
        clear eF
        go_wp2_with fail
        refine (awake_any _).mono ?_
        rintro e w99 ⟨rfl, hb99⟩
        go_wp2
        go_ret
        exact ⟨rfl, belowA⟩
    subst eF
    have HQC : Hid (chkP VQ = 0) := Lib.hid (by have := addP_valid (p := p) (b := b) (by rw [HQ.out]); rw [HQ.out] at this; exact this)
    have HLE : Hid (totS (outs VQ.data.length 0 VQ.known) ≤ T1) := Lib.hid (by have := add_less (p := p) (b := b) (by rw [HQ.out]); rw [HQ.out, ← HME.out, HT1.out] at this; exact this)
    have hq : p = VQ := by have := add_full (p := p) (b := b) (by rw [HQ.out]) HFU.out; rw [HQ.out] at this; exact this.symm
    obtain ⟨⟨VK, EK⟩, hK⟩ : ∃ q, missP VQ = q := ⟨_, rfl⟩
    have HKK := Lib.hid hK
    clear hK
    subst hq
    go_wp2_with fail
    refine (miss_any p _ _ _ (HBq12.out.below' (L12_13)) (HKq12.out.below' (L12_13)) HFQ.out.1 HFQ.out.2).mono ?_
    unfold SpsPostF
    rw [HKK.out]
    rintro e w14 ⟨usk, rfl, hsk, -, hb14⟩
    have B14 : Below w.heap.size w w14 := btrans0 B13 hb14
    have y14 : w13.heap.size ≤ w14.heap.size := by have := hb14.size; (try simp at this); omega
    have L0_14 : Below w.heap.size w w14 := btrans0 L0_13 hb14
    have L5_14 : Below w5.heap.size w5 w14 := btrans0 L5_13 hb14
    have L6_14 : Below w6.heap.size w6 w14 := btrans0 L6_13 hb14
    have L8_14 : Below w8.heap.size w8 w14 := btrans0 L8_13 hb14
    have L12_14 : Below w12.heap.size w12 w14 := btrans0 L12_13 hb14
    have Xp14 : Hid (w14.heap[w.heap.size]? = some (.cells (parC p (.slice pa p.head.blocks.length pc) (.slice qa p.known.length qc)).toArray 31 (0, 0))) := Lib.hid ((hb14.block _ (by first | omega | (simp; omega))).trans (Xp13.out))
    have zp14 : w.heap.size < w14.heap.size := by omega
    have Xb14 : Hid (w14.heap[w.heap.size + 1]? = some (.cells (bunC b (.slice ba b.blocks.length bc)).toArray 28 (0, 0))) := Lib.hid ((hb14.block _ (by first | omega | (simp; omega))).trans (Xb13.out))
    have zb14 : w.heap.size + 1 < w14.heap.size := by omega
    have Xc14 : Hid (w14.heap[w8.heap.size]? = some (.cells (bunC VR (.slice rac VR.blocks.length rnc)).toArray 28 (0, 0))) := Lib.hid ((hb14.block _ (by first | omega | (simp; omega))).trans (Xc13.out))
    have zc14 : w8.heap.size < w14.heap.size := by omega
    have Xq14 : Hid (w14.heap[w12.heap.size]? = some (.cells (parC p (.slice aq p.head.blocks.length nq) (.slice kaq p.known.length knq)).toArray 31 (0, 0))) := Lib.hid ((hb14.block _ (by first | omega | (simp; omega))).trans (Xq13.out))
    have zq14 : w12.heap.size < w14.heap.size := by omega
    clear cp cb cc cq
    simp only at hsk
    obtain ⟨sak, snk, rfl, -⟩ := id hsk
    obtain ⟨lsk, hlsk⟩ : ∃ q, (VK : List Iv.Sp).length = q := ⟨_, rfl⟩
    rw [hlsk] at hsk ⊢
    have HLk := Lib.hid hlsk
    have HSk14 := Lib.hid hsk
    clear hsk hlsk
    clear hb14
    have cp := fun o => cellB Xp14.out o
    have cb := fun o => cellB Xb14.out o
    have cc := fun o => cellB Xc14.out o
    have cq := fun o => cellB Xq14.out o
    simp only [bunC, parC, zBun, zPar, spC, List.cons_append, List.nil_append] at cp cb cc cq
    by_cases eK : EK = 0
    case neg =>
      as_aux_lemma =>
        have dK : (EK != 0) = true := by rw [bne_iff_ne]; exact eK
        clear eK
        go_wp2_with fail
        refine (psame_any p _ _ _ _ _ (HH0.out.below' (L0_14)) (HK0.out.below' (L0_14)) (HBq12.out.below' (L12_14)) (HKq12.out.below' (L12_14)) HFQ.out.2).mono ?_
        rintro e w15 ⟨rfl, hb15⟩
        have B15 : Below w.heap.size w w15 := btrans0 B14 hb15
        have y15 : w14.heap.size ≤ w15.heap.size := by have := hb15.size; (try simp at this); omega
        have L0_15 : Below w.heap.size w w15 := btrans0 L0_14 hb15
        have L5_15 : Below w5.heap.size w5 w15 := btrans0 L5_14 hb15
        have L6_15 : Below w6.heap.size w6 w15 := btrans0 L6_14 hb15
        have L8_15 : Below w8.heap.size w8 w15 := btrans0 L8_14 hb15
        have L12_15 : Below w12.heap.size w12 w15 := btrans0 L12_14 hb15
        have L14_15 : Below w14.heap.size w14 w15 := btrans0 (Below.refl _ _) hb15
        have Xp15 : Hid (w15.heap[w.heap.size]? = some (.cells (parC p (.slice pa p.head.blocks.length pc) (.slice qa p.known.length qc)).toArray 31 (0, 0))) := Lib.hid ((hb15.block _ (by first | omega | (simp; omega))).trans (Xp14.out))
        have zp15 : w.heap.size < w15.heap.size := by omega
        have Xb15 : Hid (w15.heap[w.heap.size + 1]? = some (.cells (bunC b (.slice ba b.blocks.length bc)).toArray 28 (0, 0))) := Lib.hid ((hb15.block _ (by first | omega | (simp; omega))).trans (Xb14.out))
        have zb15 : w.heap.size + 1 < w15.heap.size := by omega
        have Xc15 : Hid (w15.heap[w8.heap.size]? = some (.cells (bunC VR (.slice rac VR.blocks.length rnc)).toArray 28 (0, 0))) := Lib.hid ((hb15.block _ (by first | omega | (simp; omega))).trans (Xc14.out))
        have zc15 : w8.heap.size < w15.heap.size := by omega
        have Xq15 : Hid (w15.heap[w12.heap.size]? = some (.cells (parC p (.slice aq p.head.blocks.length nq) (.slice kaq p.known.length knq)).toArray 31 (0, 0))) := Lib.hid ((hb15.block _ (by first | omega | (simp; omega))).trans (Xq14.out))
        have zq15 : w12.heap.size < w15.heap.size := by omega
        clear cp cb cc cq
        clear hb15
        have cp := fun o => cellB Xp15.out o
        have cb := fun o => cellB Xb15.out o
        have cc := fun o => cellB Xc15.out o
        have cq := fun o => cellB Xq15.out o
        simp only [bunC, parC, zBun, zPar, spC, List.cons_append, List.nil_append] at cp cb cc cq
        go_wp2_with fail
        refine (awake_any _).mono ?_
        rintro e w99 ⟨rfl, hb99⟩
        go_wp2
        go_ret
        exact ⟨rfl, belowA⟩
    subst eK
    have HKM := Lib.hid (miss_ok HQC.out (by rw [HKK.out]))
    have HKE : Hid (VK = outs p.data.length 0 p.known) := Lib.hid (by have := HKM.out.1; rw [HKK.out] at this; exact (Prod.mk.inj this).1)
    obtain ⟨T3, hT3⟩ : ∃ q, totS VK = q := ⟨_, rfl⟩
    have t3 : T3 ≤ T1 := by rw [← hT3, HKE.out]; exact HLE.out
    have HT3 := Lib.hid hT3
    have HCK : Hid (chkSp VK = 0) := Lib.hid (by rw [HKE.out]; exact HKM.out.2)
    have dt3 : decide (T3 ≤ T1) = true := decide_eq_true t3
    clear hT3 t3
    go_wp2_with fail
    refine (tot_any VK _ _ (HSk14.out.below' (Below.refl _ _)) HCK.out).mono ?_
    rw [HT3.out]
    rintro e w15 ⟨rfl, hb15⟩
    have B15 : Below w.heap.size w w15 := btrans0 B14 hb15
    have y15 : w14.heap.size ≤ w15.heap.size := by have := hb15.size; (try simp at this); omega
    have L0_15 : Below w.heap.size w w15 := btrans0 L0_14 hb15
    have L5_15 : Below w5.heap.size w5 w15 := btrans0 L5_14 hb15
    have L6_15 : Below w6.heap.size w6 w15 := btrans0 L6_14 hb15
    have L8_15 : Below w8.heap.size w8 w15 := btrans0 L8_14 hb15
    have L12_15 : Below w12.heap.size w12 w15 := btrans0 L12_14 hb15
    have L14_15 : Below w14.heap.size w14 w15 := btrans0 (Below.refl _ _) hb15
    have Xp15 : Hid (w15.heap[w.heap.size]? = some (.cells (parC p (.slice pa p.head.blocks.length pc) (.slice qa p.known.length qc)).toArray 31 (0, 0))) := Lib.hid ((hb15.block _ (by first | omega | (simp; omega))).trans (Xp14.out))
    have zp15 : w.heap.size < w15.heap.size := by omega
    have Xb15 : Hid (w15.heap[w.heap.size + 1]? = some (.cells (bunC b (.slice ba b.blocks.length bc)).toArray 28 (0, 0))) := Lib.hid ((hb15.block _ (by first | omega | (simp; omega))).trans (Xb14.out))
    have zb15 : w.heap.size + 1 < w15.heap.size := by omega
    have Xc15 : Hid (w15.heap[w8.heap.size]? = some (.cells (bunC VR (.slice rac VR.blocks.length rnc)).toArray 28 (0, 0))) := Lib.hid ((hb15.block _ (by first | omega | (simp; omega))).trans (Xc14.out))
    have zc15 : w8.heap.size < w15.heap.size := by omega
    have Xq15 : Hid (w15.heap[w12.heap.size]? = some (.cells (parC p (.slice aq p.head.blocks.length nq) (.slice kaq p.known.length knq)).toArray 31 (0, 0))) := Lib.hid ((hb15.block _ (by first | omega | (simp; omega))).trans (Xq14.out))
    have zq15 : w12.heap.size < w15.heap.size := by omega
    clear cp cb cc cq
    clear hb15
    have cp := fun o => cellB Xp15.out o
    have cb := fun o => cellB Xb15.out o
    have cc := fun o => cellB Xc15.out o
    have cq := fun o => cellB Xq15.out o
    simp only [bunC, parC, zBun, zPar, spC, List.cons_append, List.nil_append] at cp cb cc cq
    go_wp2_with fail
    refine (tot_any VM _ _ (HSm5.out.below' (L5_15)) HCM.out).mono ?_
    rw [HT1.out]
    rintro e w16 ⟨rfl, hb16⟩
    have B16 : Below w.heap.size w w16 := btrans0 B15 hb16
    have y16 : w15.heap.size ≤ w16.heap.size := by have := hb16.size; (try simp at this); omega
    have L0_16 : Below w.heap.size w w16 := btrans0 L0_15 hb16
    have L5_16 : Below w5.heap.size w5 w16 := btrans0 L5_15 hb16
    have L6_16 : Below w6.heap.size w6 w16 := btrans0 L6_15 hb16
    have L8_16 : Below w8.heap.size w8 w16 := btrans0 L8_15 hb16
    have L12_16 : Below w12.heap.size w12 w16 := btrans0 L12_15 hb16
    have L14_16 : Below w14.heap.size w14 w16 := btrans0 L14_15 hb16
    have Xp16 : Hid (w16.heap[w.heap.size]? = some (.cells (parC p (.slice pa p.head.blocks.length pc) (.slice qa p.known.length qc)).toArray 31 (0, 0))) := Lib.hid ((hb16.block _ (by first | omega | (simp; omega))).trans (Xp15.out))
    have zp16 : w.heap.size < w16.heap.size := by omega
    have Xb16 : Hid (w16.heap[w.heap.size + 1]? = some (.cells (bunC b (.slice ba b.blocks.length bc)).toArray 28 (0, 0))) := Lib.hid ((hb16.block _ (by first | omega | (simp; omega))).trans (Xb15.out))
    have zb16 : w.heap.size + 1 < w16.heap.size := by omega
    have Xc16 : Hid (w16.heap[w8.heap.size]? = some (.cells (bunC VR (.slice rac VR.blocks.length rnc)).toArray 28 (0, 0))) := Lib.hid ((hb16.block _ (by first | omega | (simp; omega))).trans (Xc15.out))
    have zc16 : w8.heap.size < w16.heap.size := by omega
    have Xq16 : Hid (w16.heap[w12.heap.size]? = some (.cells (parC p (.slice aq p.head.blocks.length nq) (.slice kaq p.known.length knq)).toArray 31 (0, 0))) := Lib.hid ((hb16.block _ (by first | omega | (simp; omega))).trans (Xq15.out))
    have zq16 : w12.heap.size < w16.heap.size := by omega
    clear cp cb cc cq
    clear hb16
    have cp := fun o => cellB Xp16.out o
    have cb := fun o => cellB Xb16.out o
    have cc := fun o => cellB Xc16.out o
    have cq := fun o => cellB Xq16.out o
    simp only [bunC, parC, zBun, zPar, spC, List.cons_append, List.nil_append] at cp cb cc cq
    go_wp2_with fail
    refine (psame_any p _ _ _ _ _ (HH0.out.below' (L0_16)) (HK0.out.below' (L0_16)) (HBq12.out.below' (L12_16)) (HKq12.out.below' (L12_16)) HFQ.out.2).mono ?_
    rintro e w17 ⟨rfl, hb17⟩
    have B17 : Below w.heap.size w w17 := btrans0 B16 hb17
    have y17 : w16.heap.size ≤ w17.heap.size := by have := hb17.size; (try simp at this); omega
    have L0_17 : Below w.heap.size w w17 := btrans0 L0_16 hb17
    have L5_17 : Below w5.heap.size w5 w17 := btrans0 L5_16 hb17
    have L6_17 : Below w6.heap.size w6 w17 := btrans0 L6_16 hb17
    have L8_17 : Below w8.heap.size w8 w17 := btrans0 L8_16 hb17
    have L12_17 : Below w12.heap.size w12 w17 := btrans0 L12_16 hb17
    have L14_17 : Below w14.heap.size w14 w17 := btrans0 L14_16 hb17
    have Xp17 : Hid (w17.heap[w.heap.size]? = some (.cells (parC p (.slice pa p.head.blocks.length pc) (.slice qa p.known.length qc)).toArray 31 (0, 0))) := Lib.hid ((hb17.block _ (by first | omega | (simp; omega))).trans (Xp16.out))
    have zp17 : w.heap.size < w17.heap.size := by omega
    have Xb17 : Hid (w17.heap[w.heap.size + 1]? = some (.cells (bunC b (.slice ba b.blocks.length bc)).toArray 28 (0, 0))) := Lib.hid ((hb17.block _ (by first | omega | (simp; omega))).trans (Xb16.out))
    have zb17 : w.heap.size + 1 < w17.heap.size := by omega
    have Xc17 : Hid (w17.heap[w8.heap.size]? = some (.cells (bunC VR (.slice rac VR.blocks.length rnc)).toArray 28 (0, 0))) := Lib.hid ((hb17.block _ (by first | omega | (simp; omega))).trans (Xc16.out))
    have zc17 : w8.heap.size < w17.heap.size := by omega
    have Xq17 : Hid (w17.heap[w12.heap.size]? = some (.cells (parC p (.slice aq p.head.blocks.length nq) (.slice kaq p.known.length knq)).toArray 31 (0, 0))) := Lib.hid ((hb17.block _ (by first | omega | (simp; omega))).trans (Xq16.out))
    have zq17 : w12.heap.size < w17.heap.size := by omega
    clear cp cb cc cq
    clear hb17
    have cp := fun o => cellB Xp17.out o
    have cb := fun o => cellB Xb17.out o
    have cc := fun o => cellB Xc17.out o
    have cq := fun o => cellB Xq17.out o
    simp only [bunC, parC, zBun, zPar, spC, List.cons_append, List.nil_append] at cp cb cc cq
    go_wp2_with fail
    refine (awake_any _).mono ?_
    rintro e w99 ⟨rfl, hb99⟩
    go_wp2
    go_ret
    exact ⟨rfl, belowA⟩

set_option maxRecDepth 100000 in
theorem lifted (os : Os) (started : os.Started) (H : Type) (enc : TypeId × Value → H) :
    ReturnsInHanded {} Try.checked os 9 .any (Rows.reassemblyPartsSpec.pre6 enc Try.prog Try.f9 Rows.reassemblyPartsRow.domain false) (Rows.reassemblyPartsSpec.post enc Try.prog Try.f9 false true false false) := by
  refine returnsInHanded_of_change (C := Try.checked) own started (by kernel_rfl) Try.func9
    (ChangeSpec.witness6 (enc := enc) (C := Try.checked) false ⟨#[], #[.agg #[.int .i64 0, .int .i64 0, .int .i64 0, .int .i64 0, .int .i64 0, .int .i64 0, .int .i64 0, .int .i64 0, .int .i64 0, .int .i64 0, .slice none 0 0, .string (B []), .slice none 0 0, .string (B [])], .agg #[.int .i64 0, .int .i64 0, .int .i64 0, .int .i64 0, .int .i64 0, .int .i64 0, .int .i64 0, .int .i64 0, .int .i64 0, .int .i64 0, .slice none 0 0, .string (B [])]], []⟩ 8 (by kernel_rfl) (by kernel_rfl) (by kernel_rfl) (by kernel_rfl)) ?_
  intro W base args ds gs before hval0 hW hcnd _
  have hval : ∀ (j : Nat) t v, Try.f9.params[j]? = some t → args[j]? = some v → Value.okWide Try.prog W .any base t v := hval0
  have hW' := hW
  obtain ⟨p, q, hA0, hV, rfl, hfz, hnd⟩ := hW
  have hA : DataW.TrodAll enc Try.prog W 0 (fun _ => true) true Try.f9.params.toList args.toList ds p := hA0
  rw [Try.params9] at hA hval
  obtain ⟨v0, vs0, d0, ds0, p0, q0, hargs, rfl, rfl, h0, r0⟩ := trodAll_cons hA
  obtain ⟨v1, vs1, d1, ds1, p1, q1, rfl, rfl, rfl, h1, r1⟩ := trodAll_cons r0
  obtain ⟨rfl, rfl, rfl⟩ := trodAll_nil r1
  obtain rfl : args = #[v0, v1] := by cases args; simp_all
  obtain ⟨x1, u1, rfl, hr1, hf1⟩ := open_bun (hval 1 28 v1 rfl rfl) h1
  obtain ⟨x0, ub0, uk0, rfl, hh0, hk0, hf0, hd0⟩ := open_par (hval 0 31 v0 rfl rfl) h0
  refine (walk x0 ub0 uk0 x1 u1 W hh0 hk0 hf0 hd0 hr1 hf1).mono fun e W' ⟨he, hB⟩ => ?_
  subst he
  refine ⟨_, rfl, law_post (by kernel_rfl) (by kernel_rfl) rfl Try.underlying4 rfl ?_ hW' hB⟩
  intro es hes
  match es, hes with
  | [_, _], _ => rfl

theorem proved : Rows.ReassemblyPartsSaid :=
  OpenClaim.holds_of_wide 9 Try.f9 rfl rfl rfl rfl rfl rfl rfl ⟨rfl, rfl, rfl, rfl, rfl⟩ rfl rfl rfl rfl rfl (by kernel_rfl) Try.func9 (by kernel_rfl)
    (of_decide_eq_true (by kernel_rfl)) (by unfold Func.isWrapper; first | (rw [if_pos (by decide +kernel)]; kernel_rfl) | (rw [if_neg (by decide +kernel)]; exact ⟨rfl, rfl⟩))
    (fun os started H enc _ => lifted os started H enc)
#print axioms proved
end Go.Proofs.Ytpnfkmlgelcbgaa.reassemblyParts
