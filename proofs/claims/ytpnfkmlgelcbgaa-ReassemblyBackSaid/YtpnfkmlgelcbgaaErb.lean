/-
  Proved: mailboatlaw18.ReassemblyBack returns true for every input, and leaves its arguments as they were. No condition.
-/
import Derived.Test.YtpnfkmlgelcbgaaRows
import Derived.Test.YtpnfkmlgelcbgaaUw
import Derived.Test.YtpnfkmlgelcbgaaJn
import Derived.Test.YtpnfkmlgelcbgaaUd
import Derived.Test.YtpnfkmlgelcbgaaUk
set_option linter.unusedVariables false
set_option linter.unusedSimpArgs false
namespace Go.Proofs.Ytpnfkmlgelcbgaa.reassemblyBack
open Go Go.ChangeShapes Go.WideShapes Go.ChangeAt Go.RowKit Go.Joins Go.Proofs.Ytpnfkmlgelcbgaa
attribute [local go_sem] B_getElem B_size B_app B_extract B_get B_toList

theorem own : ownKnob Try.prog.godebug = none := by kernel_rfl

open Iv
attribute [local go_sem] Oper.semAt_some
set_option maxRecDepth 100000 in
set_option maxHeartbeats 16000000 in
theorem walk (b : Bun) (u : Value) (ps : List Pt5) (v1 : Value) (q : List Int) (v2 : Value) (w : World) (hr : RBlks w w.heap.size u b.blocks) (hf : Fits b) (hp : RPts w w.heap.size v1 ps) (hpo : ∀ x ∈ ps, x.ok) (hq : RU8s w w.heap.size v2 q) (hqb : ∀ x ∈ q, 0 ≤ x ∧ x < 256) :
    Calls Try.prog 8 #[.agg (bunC b u).toArray, v1, v2] w (Says w) := by
  obtain ⟨ba, bc, rfl, -⟩ := id hr
  obtain ⟨pa, pc, rfl, p1, p2, p3, p4⟩ := id hp
  obtain ⟨qa, qc, rfl, k1, k2, k3, k4⟩ := id hq
  unfold maxLen at p2 k2
  obtain ⟨m, hm⟩ : ∃ q, ps.length = q := ⟨_, rfl⟩
  obtain ⟨o, ho⟩ : ∃ z, q.length = z := ⟨_, rfl⟩
  rw [hm] at hp p1 p4 ⊢
  rw [ho] at hq k1 k4 ⊢
  have HM := Lib.hid hm
  have HO := Lib.hid ho
  have HR0 := Lib.hid hr
  have HF := Lib.hid hf
  have HP4 := Lib.hid p4
  have HPO := Lib.hid hpo
  have HQ4 := Lib.hid k4
  have HQB := Lib.hid hqb
  have ob : o ≤ 9223372036854775807 := by omega
  have mb : m ≤ 9223372036854775807 := by omega
  clear hr hf hp p1 p2 p3 p4 hpo hq k1 k2 k3 k4 hqb hm ho
  go_enter Try.func8, Try.ntmps8
  simp only [bunC]
  go_upto_region 1 with fail
  obtain ⟨w1, hw1⟩ : ∃ q, (w.alloc (.cells (bunC b (.slice ba b.blocks.length bc)).toArray 28 (0, 0))) = q := ⟨_, rfl⟩
  simp only [bunC, parC, zBun, zPar, spC, List.cons_append, List.nil_append, List.length_nil] at hw1
  rw [hw1]
  have y1 : w.heap.size < w1.heap.size := by rw [← hw1]; first | (simp; done) | (simp; omega)
  have B1 : Below w.heap.size w w1 := by rw [← hw1]; exact balloc0 (Below.refl _ _)
  have L0_1 : Below w.heap.size w w1 := B1
  have Xb1 : Hid (w1.heap[w.heap.size]? = some (.cells (bunC b (.slice ba b.blocks.length bc)).toArray 28 (0, 0))) := Lib.hid (by rw [← hw1]; exact heap_new)
  have zb1 : w.heap.size < w1.heap.size := by rw [← hw1]; first | (simp; done) | (simp; omega)
  clear hw1
  have cb := fun o => cellB Xb1.out o
  (try simp only [bunC, parC, zBun, zPar, spC, List.cons_append, List.nil_append, List.length_nil] at cb)
  go_wp2_with fail
  refine (great18_any [b] _ _ (runs1 (x := b) (ux := (.slice ba b.blocks.length bc)) (by exact heap_new) (HR0.out.below' (balloc0 (L0_1)))) (fun x hx => by simp at hx; subst hx; exact HF.out)).mono ?_
  rintro e w2 ⟨gr, rfl, -, hb2⟩
  have B2 : Below w.heap.size w w2 := btrans0 (balloc0 B1) hb2
  have y2 : w1.heap.size ≤ w2.heap.size := by have := hb2.size; (try simp at this); omega
  have L0_2 : Below w.heap.size w w2 := btrans0 (balloc0 L0_1) hb2
  have Xb2 : Hid (w2.heap[w.heap.size]? = some (.cells (bunC b (.slice ba b.blocks.length bc)).toArray 28 (0, 0))) := Lib.hid ((hb2.block _ (by first | omega | (simp; omega))).trans ((Below.heap_alloc _ _ _ (by first | omega | (simp; omega))).trans (Xb1.out)))
  have zb2 : w.heap.size < w2.heap.size := by omega
  clear cb
  clear hb2
  have cb := fun o => cellB Xb2.out o
  (try simp only [bunC, parC, zBun, zPar, spC, List.cons_append, List.nil_append, List.length_nil] at cb)
  cases gr with
  | true =>
    go_wp2_with fail
    refine (awake_any _).mono ?_
    rintro e w99 ⟨rfl, hb99⟩
    go_wp2
    go_ret
    exact ⟨rfl, belowA⟩
  | false =>
  by_cases c8 : m ≤ 8
  case neg =>
    as_aux_lemma =>
      have d8 : decide ((8 : Int) < (m : Int)) = true := decide_eq_true (by omega)
      have d8n : (8 : Int) < (m : Int) := by omega
      have d8m : 8 < m := by omega
      clear c8
      go_wp2_with fail
      refine (awake_any _).mono ?_
      rintro e w99 ⟨rfl, hb99⟩
      go_wp2
      go_ret
      exact ⟨rfl, belowA⟩
  have d8 : decide ((8 : Int) < (m : Int)) = false := decide_eq_false (by omega)
  have d8n : ¬ (8 : Int) < (m : Int) := by omega
  have d8m : ¬ 8 < m := by omega
  obtain ⟨E, hE⟩ : ∃ q, chkE b = q := ⟨_, rfl⟩
  have HE := Lib.hid hE
  clear hE
  go_wp2_with fail
  refine (rcheck_any b _ _ (HR0.out.below' (L0_2)) HF.out).mono ?_
  rw [HE.out]
  rintro e w3 ⟨rfl, hb3⟩
  have B3 : Below w.heap.size w w3 := btrans0 B2 hb3
  have y3 : w2.heap.size ≤ w3.heap.size := by have := hb3.size; (try simp at this); omega
  have L0_3 : Below w.heap.size w w3 := btrans0 L0_2 hb3
  have Xb3 : Hid (w3.heap[w.heap.size]? = some (.cells (bunC b (.slice ba b.blocks.length bc)).toArray 28 (0, 0))) := Lib.hid ((hb3.block _ (by first | omega | (simp; omega))).trans (Xb2.out))
  have zb3 : w.heap.size < w3.heap.size := by omega
  clear cb
  clear hb3
  have cb := fun o => cellB Xb3.out o
  (try simp only [bunC, parC, zBun, zPar, spC, List.cons_append, List.nil_append, List.length_nil] at cb)
  by_cases cE : E = 0
  case neg =>
    as_aux_lemma =>
      have dE : (E != 0) = true := by rw [bne_iff_ne]; exact cE
      clear cE
      go_wp2_with fail
      refine (awake_any _).mono ?_
      rintro e w99 ⟨rfl, hb99⟩
      go_wp2
      go_ret
      exact ⟨rfl, belowA⟩
  subst cE
  have hvf := valid_facts HE.out
  have HV := HE
  by_cases ct : b.tot = 0
  case neg =>
    as_aux_lemma =>
      have dt : decide (0 < b.tot) = true := decide_eq_true (by have := hvf.2.2.1; omega)
      have dt1 : 0 < b.tot := by have := hvf.2.2.1; omega
      clear ct hvf
      go_wp2_with fail
      refine (awake_any _).mono ?_
      rintro e w99 ⟨rfl, hb99⟩
      go_wp2
      go_ret
      exact ⟨rfl, belowA⟩
  have dt : decide (0 < b.tot) = false := decide_eq_false (by omega)
  have dt1 : ¬ 0 < b.tot := by omega
  have HT := Lib.hid ct
  obtain ⟨v1, v2, -, -, v5, v6, v7, -⟩ := hvf
  have a3 := (and_flag b.flags v6 v7).2.2
  have HT0 : b.off = 0 := (valid_facts HE.out).2.2.2.2.2.2.2.2.1 ct
  have HO0 := Lib.hid HT0
  clear ct HT0
  by_cases cf : hasF b.flags 2 = true
  case pos =>
    as_aux_lemma =>
      rw [cf] at a3
      clear cf
      go_wp2_with fail
      refine (awake_any _).mono ?_
      rintro e w99 ⟨rfl, hb99⟩
      go_wp2
      go_ret
      exact ⟨rfl, belowA⟩
  have HFL : Hid (hasF b.flags 2 = false) := Lib.hid (by simpa using cf)
  rw [HFL.out] at a3
  clear cf
  by_cases cn : b.payload.length < 2
  case pos =>
    as_aux_lemma =>
      have cn0 : b.payload.length < 2 := cn
      have dn : decide ((b.payload.length : Int) < 2) = true := decide_eq_true (by omega)
      have dn1 : (b.payload.length : Int) < 2 := by omega
      go_wp2_with fail
      refine (awake_any _).mono ?_
      rintro e w99 ⟨rfl, hb99⟩
      go_wp2
      go_ret
      exact ⟨rfl, belowA⟩
  have cn0 : ¬ b.payload.length < 2 := cn
  have dn : decide ((b.payload.length : Int) < 2) = false := decide_eq_false (by omega)
  have dn1 : ¬ (b.payload.length : Int) < 2 := by omega
  obtain ⟨k, hk⟩ : ∃ q : Nat, b.payload.length / 2 = q := ⟨_, rfl⟩
  have k0 : 0 < k := by omega
  have k1 : k < b.payload.length := by omega
  have HDK : Hid ((b.payload.length : Int) / 2 = (k : Int)) := Lib.hid (by omega)
  clear hk
  have HC : Hid (cutE b = 0) := Lib.hid (by unfold cutE; rw [HFL.out, if_neg (by simp), if_neg (by intro h; rw [h] at cn; simp at cn)])
  have hb2 : b.off + (b.payload.length : Int) = b.payload.length := by rw [HO0.out]; omega
  obtain ⟨X, hX⟩ : ∃ q, cutS b (0 : Int) (k : Int) = q := ⟨_, rfl⟩
  have HCX : Hid (cutR b (0 : Int) (k : Int) = (X, 0)) := Lib.hid (by unfold cutR; rw [if_neg (by rw [HE.out]; simp), if_neg (by rw [HC.out]; simp), if_neg (by rw [HO0.out]; omega), hX])
  have HFX : Hid (FragOf b X) := Lib.hid (by rw [← hX]; exact frag_cut HE.out HT.out HC.out (by omega) (by omega) (by omega))
  obtain ⟨Y, hY⟩ : ∃ q, cutS b (k : Int) (b.payload.length : Int) = q := ⟨_, rfl⟩
  have HCY : Hid (cutR b (k : Int) (b.payload.length : Int) = (Y, 0)) := Lib.hid (by unfold cutR; rw [if_neg (by rw [HE.out]; simp), if_neg (by rw [HC.out]; simp), if_neg (by rw [HO0.out]; omega), hY])
  have HFY : Hid (FragOf b Y) := Lib.hid (by rw [← hY]; exact frag_cut HE.out HT.out HC.out (by omega) (by omega) (by omega))
  have HHX : Hid (cutS b 0 (k : Int) = X) := Lib.hid hX
  have HHY : Hid (cutS b (k : Int) (b.payload.length : Int) = Y) := Lib.hid (hY)
  clear hX hY hb2 v1 v2 v6 v7
  go_wp2_with fail
  rw [HDK.out]
  refine (cutr_any b _ (0 : Int) (k : Int) w.heap.size _ B3.size (HR0.out.below (C := w.heap.size) B3 (Nat.le_refl _) (Nat.le_refl _)) HF.out).mono ?_
  unfold BunEPost
  rw [HCX.out]
  rintro e w4 ⟨ux, rfl, hx, hb4⟩
  have B4 : Below w.heap.size w w4 := btrans0 B3 hb4
  have y4 : w3.heap.size ≤ w4.heap.size := by have := hb4.size; (try simp at this); omega
  have L0_4 : Below w.heap.size w w4 := btrans0 L0_3 hb4
  have Xb4 : Hid (w4.heap[w.heap.size]? = some (.cells (bunC b (.slice ba b.blocks.length bc)).toArray 28 (0, 0))) := Lib.hid ((hb4.block _ (by first | omega | (simp; omega))).trans (Xb3.out))
  have zb4 : w.heap.size < w4.heap.size := by omega
  clear cb
  simp only at hx
  obtain ⟨ax, nx, rfl, -⟩ := id hx
  have HRx4 : Hid (RBlks w4 w4.heap.size (.slice ax X.blocks.length nx) X.blocks) := Lib.hid (hx.bnd (by omega))
  clear hx
  clear hb4
  have cb := fun o => cellB Xb4.out o
  (try simp only [bunC, parC, zBun, zPar, spC, List.cons_append, List.nil_append, List.length_nil] at cb)
  simp only [bunC]
  go_upto_region 5 with fail
  obtain ⟨w5, hw5⟩ : ∃ q, w4.alloc (.cells (bunC X (.slice ax X.blocks.length nx)).toArray 28 (0, 0)) = q := ⟨_, rfl⟩
  (try simp only [bunC, parC, zBun, zPar, spC, List.cons_append, List.nil_append, List.length_nil] at hw5)
  rw [hw5]
  have y5 : w4.heap.size < w5.heap.size := by rw [← hw5]; simp
  have B5 : Below w.heap.size w w5 := by rw [← hw5]; exact balloc0 B4
  have L0_5 : Below w.heap.size w w5 := by rw [← hw5]; exact balloc0 L0_4
  have L4_5 : Below w4.heap.size w4 w5 := by rw [← hw5]; exact balloc0 (Below.refl _ _)
  have Xb5 : Hid (w5.heap[w.heap.size]? = some (.cells (bunC b (.slice ba b.blocks.length bc)).toArray 28 (0, 0))) := Lib.hid (by rw [← hw5]; exact (Below.heap_alloc _ _ _ (by omega)).trans Xb4.out)
  have zb5 : w.heap.size < w5.heap.size := by omega
  have Xx5 : Hid (w5.heap[w4.heap.size]? = some (.cells (bunC X (.slice ax X.blocks.length nx)).toArray 28 (0, 0))) := Lib.hid (by rw [← hw5]; exact heap_new)
  have zx5 : w4.heap.size < w5.heap.size := by omega
  clear cb
  clear hw5
  have cb := fun o => cellB Xb5.out o
  have cx := fun o => cellB Xx5.out o
  (try simp only [bunC, parC, zBun, zPar, spC, List.cons_append, List.nil_append, List.length_nil] at cb cx)
  go_wp2_with fail
  refine (cutr_any b _ (k : Int) (b.payload.length : Int) w.heap.size _ B5.size (HR0.out.below (C := w.heap.size) B5 (Nat.le_refl _) (Nat.le_refl _)) HF.out).mono ?_
  unfold BunEPost
  rw [HCY.out]
  rintro e w6 ⟨uy, rfl, hy, hb6⟩
  have B6 : Below w.heap.size w w6 := btrans0 B5 hb6
  have y6 : w5.heap.size ≤ w6.heap.size := by have := hb6.size; (try simp at this); omega
  have L0_6 : Below w.heap.size w w6 := btrans0 L0_5 hb6
  have L4_6 : Below w4.heap.size w4 w6 := btrans0 L4_5 hb6
  have Xb6 : Hid (w6.heap[w.heap.size]? = some (.cells (bunC b (.slice ba b.blocks.length bc)).toArray 28 (0, 0))) := Lib.hid ((hb6.block _ (by first | omega | (simp; omega))).trans (Xb5.out))
  have zb6 : w.heap.size < w6.heap.size := by omega
  have Xx6 : Hid (w6.heap[w4.heap.size]? = some (.cells (bunC X (.slice ax X.blocks.length nx)).toArray 28 (0, 0))) := Lib.hid ((hb6.block _ (by first | omega | (simp; omega))).trans (Xx5.out))
  have zx6 : w4.heap.size < w6.heap.size := by omega
  clear cb cx
  simp only at hy
  obtain ⟨ay, ny, rfl, -⟩ := id hy
  have HRy6 : Hid (RBlks w6 w6.heap.size (.slice ay Y.blocks.length ny) Y.blocks) := Lib.hid (hy.bnd (by omega))
  clear hy
  clear hb6
  have cb := fun o => cellB Xb6.out o
  have cx := fun o => cellB Xx6.out o
  (try simp only [bunC, parC, zBun, zPar, spC, List.cons_append, List.nil_append, List.length_nil] at cb cx)
  simp only [bunC]
  go_upto_region 6 with fail
  obtain ⟨w7, hw7⟩ : ∃ q, w6.alloc (.cells (bunC Y (.slice ay Y.blocks.length ny)).toArray 28 (0, 0)) = q := ⟨_, rfl⟩
  (try simp only [bunC, parC, zBun, zPar, spC, List.cons_append, List.nil_append, List.length_nil] at hw7)
  rw [hw7]
  have y7 : w6.heap.size < w7.heap.size := by rw [← hw7]; simp
  have B7 : Below w.heap.size w w7 := by rw [← hw7]; exact balloc0 B6
  have L0_7 : Below w.heap.size w w7 := by rw [← hw7]; exact balloc0 L0_6
  have L4_7 : Below w4.heap.size w4 w7 := by rw [← hw7]; exact balloc0 L4_6
  have L6_7 : Below w6.heap.size w6 w7 := by rw [← hw7]; exact balloc0 (Below.refl _ _)
  have Xb7 : Hid (w7.heap[w.heap.size]? = some (.cells (bunC b (.slice ba b.blocks.length bc)).toArray 28 (0, 0))) := Lib.hid (by rw [← hw7]; exact (Below.heap_alloc _ _ _ (by omega)).trans Xb6.out)
  have zb7 : w.heap.size < w7.heap.size := by omega
  have Xx7 : Hid (w7.heap[w4.heap.size]? = some (.cells (bunC X (.slice ax X.blocks.length nx)).toArray 28 (0, 0))) := Lib.hid (by rw [← hw7]; exact (Below.heap_alloc _ _ _ (by omega)).trans Xx6.out)
  have zx7 : w4.heap.size < w7.heap.size := by omega
  have Xy7 : Hid (w7.heap[w6.heap.size]? = some (.cells (bunC Y (.slice ay Y.blocks.length ny)).toArray 28 (0, 0))) := Lib.hid (by rw [← hw7]; exact heap_new)
  have zy7 : w6.heap.size < w7.heap.size := by omega
  clear cb cx
  clear hw7
  have cb := fun o => cellB Xb7.out o
  have cx := fun o => cellB Xx7.out o
  have cy := fun o => cellB Xy7.out o
  (try simp only [bunC, parC, zBun, zPar, spC, List.cons_append, List.nil_append, List.length_nil] at cb cx cy)
  go_upto_region 9 with fail
  obtain ⟨w8, hw8⟩ : ∃ q, w7.alloc (.cells (bunC X (.slice ax X.blocks.length nx) ++ bunC Y (.slice ay Y.blocks.length ny)).toArray 28 (0, 0)) = q := ⟨_, rfl⟩
  simp only [bunC, List.cons_append, List.nil_append] at hw8
  rw [hw8]
  have K8 : Below w7.heap.size w7 w8 := by rw [← hw8]; exact balloc0 (Below.refl _ _)
  have z8 : w7.heap.size < w8.heap.size := by rw [← hw8]; simp
  have HOW0 : Hid (OwnX w8 w7.heap.size (.slice (some ⟨w7.heap.size, 0, none⟩) 2 2) [(X, .slice ax X.blocks.length nx), (Y, .slice ay Y.blocks.length ny)]) := Lib.hid ⟨own_lit (n := 2) (size := 12) (by rw [← hw8]; exact heap_new) (Nat.le_refl _) rfl (by simp [maxLen]), fun r hr => by
    have hD : ∀ q, q < w7.heap.size → (q < w8.heap.size ∧ (Value.slice (some ⟨w7.heap.size, 0, none⟩) 2 2).ownBlock ≠ some q) := fun q hq => ⟨by omega, fun e => by have e2 : w7.heap.size = q := Option.some.inj e; omega⟩
    rcases List.mem_cons.1 hr with rfl | hr
    · exact RBlksD.keep (RBlksD.of (HRx4.out.below' (L4_7))) (fun q o hq => K8.cell (p := ⟨q, o, none⟩) hq) hD
    · have e : r = (Y, .slice ay Y.blocks.length ny) := by simpa using hr
      subst e
      exact RBlksD.keep (RBlksD.of (HRy6.out.below' (L6_7))) (fun q o hq => K8.cell (p := ⟨q, o, none⟩) hq) hD⟩
  have HFR0 : Hid (∀ z ∈ [(X, (.slice ax X.blocks.length nx : Value)), (Y, .slice ay Y.blocks.length ny)].map (·.1), FragOf b z) := Lib.hid (fun z hz => by simp at hz; rcases hz with rfl | rfl; exact HFX.out; exact HFY.out)
  have HXY0 : Hid (X ∈ [(X, (.slice ax X.blocks.length nx : Value)), (Y, .slice ay Y.blocks.length ny)].map (·.1) ∧ Y ∈ [(X, (.slice ax X.blocks.length nx : Value)), (Y, .slice ay Y.blocks.length ny)].map (·.1)) := Lib.hid (by simp)
  clear hw8 cb cx cy
  go_upto_region 10 with fail
  go_loopw [84, 12] (fun iv lv wr => ∃ (i : Nat) (us : List BV) (g cap : Nat), i ≤ m ∧ iv = .int .i64 i ∧ lv = .slice (some ⟨g, 0, none⟩) (i + 2) cap ∧ Hid (us.length = i + 2) ∧ Hid (OwnX wr w7.heap.size (.slice (some ⟨g, 0, none⟩) (i + 2) cap) us) ∧ Hid (∀ z ∈ us.map (·.1), FragOf b z) ∧ Hid (X ∈ us.map (·.1) ∧ Y ∈ us.map (·.1)) ∧ Below w7.heap.size w7 wr ∧ w7.heap.size < wr.heap.size) (fun iv _ _ => m - (intOf iv).toNat)
  case atStart => exact ⟨0, _, _, _, Nat.zero_le _, rfl, rfl, Lib.hid rfl, HOW0, HFR0, HXY0, K8, z8⟩
  case round =>
    obtain ⟨i, us, g, cap, hi, rfl, rfl, HUL, HOW, HFR, HXY, K9, z9⟩ := hrel
    obtain ⟨w9, rfl⟩ : ∃ q, q = wr := ⟨_, rfl⟩
    have B9 : Below w.heap.size w w9 := btrans B7 K9 (by omega)
    have y9 : w7.heap.size ≤ w9.heap.size := by omega
    have Xb9 : Hid (w9.heap[w.heap.size]? = some (.cells (bunC b (.slice ba b.blocks.length bc)).toArray 28 (0, 0))) := Lib.hid ((K9.block _ (by omega)).trans Xb7.out)
    have zb9 : w.heap.size < w9.heap.size := by omega
    by_cases hlt : i < m
    · obtain ⟨pb, po, rfl, hpn, hpc⟩ := HP4.out (by omega)
      obtain ⟨x, hx⟩ : ∃ y, ps[i]? = some y := ⟨_, List.getElem?_eq_getElem (by have := HM.out; omega)⟩
      have HOK : Hid x.ok := Lib.hid (HPO.out x (List.mem_of_getElem? hx))
      obtain ⟨xf, xt, xa, xi, xo⟩ := x
      have p0 : w9.cell? ⟨pb, po + i * 5, none⟩ = some (.int .u8 xf) := (B9.cell (p := ⟨pb, po + i * 5, none⟩) hpn).trans (hpc i _ hx 0 _ rfl)
      have p1 : w9.cell? ⟨pb, po + i * 5 + 1, none⟩ = some (.int .u8 xt) := (B9.cell (p := ⟨pb, po + i * 5 + 1, none⟩) hpn).trans (hpc i _ hx 1 _ rfl)
      have p2 : w9.cell? ⟨pb, po + i * 5 + 2, none⟩ = some (.bool xa) := (B9.cell (p := ⟨pb, po + i * 5 + 2, none⟩) hpn).trans (hpc i _ hx 2 _ rfl)
      have p3 : w9.cell? ⟨pb, po + i * 5 + 3, none⟩ = some (.int .u8 xi) := (B9.cell (p := ⟨pb, po + i * 5 + 3, none⟩) hpn).trans (hpc i _ hx 3 _ rfl)
      have p4 : w9.cell? ⟨pb, po + i * 5 + 4, none⟩ = some (.int .u8 xo) := (B9.cell (p := ⟨pb, po + i * 5 + 4, none⟩) hpn).trans (hpc i _ hx 4 _ rfl)
      clear hx hpc
      have i0 : (0 : Int) ≤ (i : Int) := by omega
      have i1 : (i : Int) < (m : Int) := by omega
      have cb := fun o => cellB Xb9.out o
      (try simp only [bunC, parC, zBun, zPar, spC, List.cons_append, List.nil_append, List.length_nil] at cb)
      go_upto_region 12 with fail
      obtain ⟨w10, hw10⟩ : ∃ q, w9.alloc (.cells #[.int .u8 xf, .int .u8 xt, .bool xa, .int .u8 xi, .int .u8 xo] 65 (0, 0)) = q := ⟨_, rfl⟩
      (try simp only [bunC, parC, zBun, zPar, spC, List.cons_append, List.nil_append, List.length_nil] at hw10)
      rw [hw10]
      have y10 : w9.heap.size < w10.heap.size := by rw [← hw10]; simp
      have B10 : Below w.heap.size w w10 := by rw [← hw10]; exact balloc0 B9
      have L9_10 : Below w9.heap.size w9 w10 := by rw [← hw10]; exact balloc0 (Below.refl _ _)
      have Xb10 : Hid (w10.heap[w.heap.size]? = some (.cells (bunC b (.slice ba b.blocks.length bc)).toArray 28 (0, 0))) := Lib.hid (by rw [← hw10]; exact (Below.heap_alloc _ _ _ (by omega)).trans Xb9.out)
      have zb10 : w.heap.size < w10.heap.size := by omega
      have Xt10 : Hid (w10.heap[w9.heap.size]? = some (.cells #[.int .u8 xf, .int .u8 xt, .bool xa, .int .u8 xi, .int .u8 xo] 65 (0, 0))) := Lib.hid (by rw [← hw10]; exact heap_new)
      have zt10 : w9.heap.size < w10.heap.size := by omega
      clear cb
      clear hw10
      have cb := fun o => cellB Xb10.out o
      have ct := fun o => cellB Xt10.out o
      (try simp only [bunC, parC, zBun, zPar, spC, List.cons_append, List.nil_append, List.length_nil] at cb ct)
      clear p0 p1 p2 p3 p4
      obtain ⟨C, hC⟩ : ∃ q, cutX b ⟨xf, xt, xa, xi, xo⟩ = q := ⟨_, rfl⟩
      have HCC := Lib.hid hC
      have HFC : Hid (FragOf b C) := Lib.hid (by rw [← hC]; exact frag_cutX _ HE.out HT.out HC.out)
      clear hC
      go_wp2_with fail
      refine (lcut_any b ⟨xf, xt, xa, xi, xo⟩ _ (fun q => q < w.heap.size) _ (fun q hq => by omega) (RBlksD.of (HR0.out.below (C := w.heap.size) B10 (Nat.le_refl _) (Nat.le_refl _))) HF.out HE.out HC.out HOK.out).mono ?_
      unfold LCutPost
      rw [HCC.out]
      rintro e w11 ⟨uc, rfl, hc, hb11⟩
      have B11 : Below w.heap.size w w11 := btrans0 B10 hb11
      have y11 : w10.heap.size ≤ w11.heap.size := by have := hb11.size; (try simp at this); omega
      have L9_11 : Below w9.heap.size w9 w11 := btrans0 L9_10 hb11
      have Xb11 : Hid (w11.heap[w.heap.size]? = some (.cells (bunC b (.slice ba b.blocks.length bc)).toArray 28 (0, 0))) := Lib.hid ((hb11.block _ (by first | omega | (simp; omega))).trans (Xb10.out))
      have zb11 : w.heap.size < w11.heap.size := by omega
      have Xt11 : Hid (w11.heap[w9.heap.size]? = some (.cells #[.int .u8 xf, .int .u8 xt, .bool xa, .int .u8 xi, .int .u8 xo] 65 (0, 0))) := Lib.hid ((hb11.block _ (by first | omega | (simp; omega))).trans (Xt10.out))
      have zt11 : w9.heap.size < w11.heap.size := by omega
      clear cb ct
      obtain ⟨ac, nc, rfl, -⟩ := id hc
      have HCD := Lib.hid hc
      clear hc
      clear hb11
      have cb := fun o => cellB Xb11.out o
      have ct := fun o => cellB Xt11.out o
      (try simp only [bunC, parC, zBun, zPar, spC, List.cons_append, List.nil_append, List.length_nil] at cb ct)
      simp only [bunC]
      go_upto_region 13 with fail
      obtain ⟨w12, hw12⟩ : ∃ q, w11.alloc (.cells (bunC C (.slice ac C.blocks.length nc)).toArray 28 (0, 0)) = q := ⟨_, rfl⟩
      (try simp only [bunC, parC, zBun, zPar, spC, List.cons_append, List.nil_append, List.length_nil] at hw12)
      rw [hw12]
      have y12 : w11.heap.size < w12.heap.size := by rw [← hw12]; simp
      have B12 : Below w.heap.size w w12 := by rw [← hw12]; exact balloc0 B11
      have L9_12 : Below w9.heap.size w9 w12 := by rw [← hw12]; exact balloc0 L9_11
      have L11_12 : Below w11.heap.size w11 w12 := by rw [← hw12]; exact balloc0 (Below.refl _ _)
      have Xb12 : Hid (w12.heap[w.heap.size]? = some (.cells (bunC b (.slice ba b.blocks.length bc)).toArray 28 (0, 0))) := Lib.hid (by rw [← hw12]; exact (Below.heap_alloc _ _ _ (by omega)).trans Xb11.out)
      have zb12 : w.heap.size < w12.heap.size := by omega
      have Xt12 : Hid (w12.heap[w9.heap.size]? = some (.cells #[.int .u8 xf, .int .u8 xt, .bool xa, .int .u8 xi, .int .u8 xo] 65 (0, 0))) := Lib.hid (by rw [← hw12]; exact (Below.heap_alloc _ _ _ (by omega)).trans Xt11.out)
      have zt12 : w9.heap.size < w12.heap.size := by omega
      have Xc12 : Hid (w12.heap[w11.heap.size]? = some (.cells (bunC C (.slice ac C.blocks.length nc)).toArray 28 (0, 0))) := Lib.hid (by rw [← hw12]; exact heap_new)
      have zc12 : w11.heap.size < w12.heap.size := by omega
      clear cb ct
      clear hw12
      have cb := fun o => cellB Xb12.out o
      have ct := fun o => cellB Xt12.out o
      have cc := fun o => cellB Xc12.out o
      (try simp only [bunC, parC, zBun, zPar, spC, List.cons_append, List.nil_append, List.length_nil] at cb ct cc)
      go_upto_region 15 with fail
      have HOWn : Hid (OwnX w12 w7.heap.size (.slice (some ⟨g, 0, none⟩) (i + 2) cap) us) := Lib.hid (HOW.out.below (by exact L9_12))
      have zg9 : g < w9.heap.size := HOW.out.lt
      obtain ⟨w13, hw13⟩ : ∃ q, w12.alloc (.cells (bunC C (.slice ac C.blocks.length nc)).toArray 28 (0, 0)) = q := ⟨_, rfl⟩
      have K13 : Below w12.heap.size w12 w13 := by rw [← hw13]; exact balloc0 (Below.refl _ _)
      have z13 : w12.heap.size < w13.heap.size := by rw [← hw13]; simp
      have s13 : w13.heap.size = w12.heap.size + 1 := by rw [← hw13]; simp
      have HON : Hid (OwnX w13 w7.heap.size (.slice (some ⟨g, 0, none⟩) (i + 2) cap) us) := Lib.hid (HOWn.out.below K13)
      have hown := HON.out.1
      rw [HUL.out] at hown
      have HOWN := Lib.hid hown
      clear hown
      have HNW : Hid (w13.heap[w12.heap.size]? = some (.cells (bunC C (.slice ac C.blocks.length nc)).toArray 28 (0, 0))) := Lib.hid (by rw [← hw13]; exact heap_new)
      have HCHN : Hid (Below w11.heap.size w11 w13) := Lib.hid (btrans0 L11_12 K13)
      have HGB : Hid (w.heap.size ≤ g) := Lib.hid (by have := HOW.out.ge; omega)
      have HRC : Hid (RBlksD w13 (fun q => q < w13.heap.size ∧ (Value.slice (some ⟨g, 0, none⟩) (i + 2) cap).ownBlock ≠ some q) (.slice ac C.blocks.length nc) C.blocks) := Lib.hid (RBlksD.keep HCD.out (fun q o hq => (HCHN.out).cell (p := ⟨q, o, none⟩) (by rcases hq with hq | hq; (have hq : q < w.heap.size := hq; show q < w11.heap.size; omega); exact hq.2)) (fun q hq => ⟨by rcases hq with hq | hq; (have hq : q < w.heap.size := hq; omega); (have := hq.2; omega), fun e => by have e2 : g = q := Option.some.inj e; subst e2; rcases hq with hq | hq; (have hq : g < w.heap.size := hq; have := HGB.out; omega); (have := hq.1; omega)⟩))
      have HW13 := Lib.hid hw13
      simp only [bunC] at hw13
      obtain ⟨i0_, hi_, hz0, hz1, hz2⟩ := info_parts infoBun
      have hi2 : i < 8 := by omega
      go_wp2_with (at_builtin; (try rw [hw13]); refine wpList_append_lies _ rfl _ _ _ rfl w7.heap.size 28 i0_ _ 12 120 Try.underlying50 hi_ hz0 hz1 hz2 rfl (by omega) _ (i + 2) _ rfl HOWN.out ⟨w12.heap.size, 0, none⟩ 1 1 (bunC C (.slice ac C.blocks.length nc)) rfl rfl (news_one (t := 28) HNW.out) (by simp [bunC, Value.oneCell']) (by omega) (by simp only [maxLen]; omega) (by omega) (by omega) (w13.heap.size) rfl ?_; intro g2 cap2 w20 ho2 hg2 hat2 hlt2)
      have hBw : Below w7.heap.size w7 w13 := btrans K9 (btrans0 L9_12 K13) (by omega)
      have hBx : Below w7.heap.size w7 w20 := hBw.grown hg2 (by omega) (fun k hk => by have e : g = k := Option.some.inj hk; have := HOW.out.ge; omega)
      have hsz := hg2.size
      have hAP := OwnX.append (us := us) HON.out (by rw [HUL.out]; exact ho2) hg2 hat2 HRC.out
      rw [HUL.out] at hAP
      have HAP := Lib.hid hAP
      clear hAP
      refine ⟨⟨i + 1, us ++ [(C, .slice ac C.blocks.length nc)], g2, cap2, hlt, ?_, ?_, Lib.hid (by rw [List.length_append, HUL.out]; rfl), HAP, Lib.hid (fun z hz => ?_), Lib.hid ?_, hBx, by omega⟩, ?_⟩
      · go_num
      · rfl
      · rw [List.map_append, List.mem_append] at hz
        rcases hz with hz | hz
        · exact HFR.out z hz
        · have e : z = C := by simpa using hz
          subst e
          exact HFC.out
      · rw [List.map_append, List.mem_append, List.mem_append]
        exact ⟨.inl HXY.out.1, .inl HXY.out.2⟩
      · simp [intOf]
        omega
    · obtain rfl : i = m := by omega
      obtain ⟨nn, hnn⟩ : ∃ q, i + 2 = q := ⟨_, rfl⟩
      rw [hnn] at HUL HOW ⊢
      have n0 : ¬ nn = 0 := by omega
      have n1 : 0 < nn := by omega
      have n2 : ¬ (nn : Int) = 0 := by omega
      have n3 : (0 : Int) < (nn : Int) := by omega
      have n4 : ((nn : Int) == 0) = false := by rw [beq_eq_false_iff_ne]; omega
      have n5 : nn ≤ 10 := by omega
      have n6 : 2 ≤ nn := by omega
      clear hlt hnn d8 d8n d8m c8 hi
      obtain ⟨us9, HUS⟩ : ∃ q, q = us := ⟨_, rfl⟩
      clear HUS us9
      go_upto_region 18 with fail
      go_loopw [103] (fun iv wr => ∃ (i : Nat) (us : List BV), i ≤ o ∧ iv = .int .i64 i ∧ Hid (us.length = nn) ∧ Hid (OwnX wr w7.heap.size (.slice (some ⟨g, 0, none⟩) nn cap) us) ∧ Hid (∀ z ∈ us.map (·.1), FragOf b z) ∧ Hid (X ∈ us.map (·.1) ∧ Y ∈ us.map (·.1)) ∧ Below w7.heap.size w7 wr ∧ w7.heap.size < wr.heap.size) (fun iv _ => o - (intOf iv).toNat)
      case atStart => exact ⟨0, us, Nat.zero_le _, rfl, HUL, HOW, HFR, HXY, K9, z9⟩
      case round =>
        clear HUL HOW HFR HXY K9 z9 B9 y9 Xb9 zb9 us w9
        obtain ⟨i, us, hi, rfl, HUL, HOW, HFR, HXY, K9, z9⟩ := hrel
        have zg : g < wr.heap.size := HOW.out.lt
        have hgb : w7.heap.size ≤ g := HOW.out.ge
        have bR : Below w.heap.size w wr := btrans B7 K9 (by omega)
        by_cases hlt : i < o
        · obtain ⟨qb, qo, rfl, hqn, hqc⟩ := HQ4.out (by omega)
          obtain ⟨y, hy⟩ : ∃ y, q[i]? = some y := ⟨_, List.getElem?_eq_getElem (by have := HO.out; omega)⟩
          have cy : wr.cell? ⟨qb, qo + i, none⟩ = some (.int .u8 y) := (bR.cell (p := ⟨qb, qo + i, none⟩) hqn).trans (hqc i y hy)
          obtain ⟨y0, y1⟩ := HQB.out y (List.mem_of_getElem? hy)
          clear hy hqc
          have i0 : (0 : Int) ≤ (i : Int) := by omega
          have i1 : (i : Int) < (o : Int) := by omega
          obtain ⟨j, hj, hjn0⟩ := mod_nat (i : Int) n1
          obtain ⟨kk, hk, hkn0⟩ := mod_nat y n1
          have hj2 : (i : Int).tmod (nn : Int) = (j : Int) := by rw [Int.tmod_eq_emod_of_nonneg i0]; exact hj
          have hk3 : y.tmod (nn : Int) = (kk : Int) := by rw [Int.tmod_eq_emod_of_nonneg y0]; exact hk
          have hk2 : (IntKind.i64.wrap y).tmod (nn : Int) = (kk : Int) := by rw [show IntKind.i64.wrap y = y by unfold IntKind.wrap; simp [IntKind.signed, IntKind.bits]; omega]; exact hk3
          have hul := HUL.out
          have HOWd : Hid (OwnX wr.drew.drew w7.heap.size (.slice (some ⟨g, 0, none⟩) nn cap) us) := Lib.hid (HOW.out.below (by exact belowA))
          have hjn : j < us.length := by omega
          have hkn : kk < us.length := by omega
          obtain ⟨⟨xa, va⟩, hA⟩ : ∃ r, us[j]? = some r := ⟨_, List.getElem?_eq_getElem hjn⟩
          obtain ⟨⟨xb, vb⟩, hB⟩ : ∃ r, us[kk]? = some r := ⟨_, List.getElem?_eq_getElem hkn⟩
          have rA : RBlksD wr.drew.drew (fun q => q < wr.drew.drew.heap.size ∧ q ≠ g) va xa.blocks := HOWd.out.row (List.mem_of_getElem? hA)
          have rB : RBlksD wr.drew.drew (fun q => q < wr.drew.drew.heap.size ∧ q ≠ g) vb xb.blocks := HOWd.out.row (List.mem_of_getElem? hB)
          obtain ⟨aa, ca, rfl, -⟩ := id rA
          obtain ⟨ab, cb, rfl, -⟩ := id rB
          have HA := Lib.hid hA
          have HB := Lib.hid hB
          have HRA := Lib.hid rA
          have HRB := Lib.hid rB
          have cA0 : wr.cell? ⟨g, j * 12, none⟩ = some (.int .i64 xa.src) := HOW.out.cell (d := 0) hul hA rfl
          have cA1 : wr.cell? ⟨g, j * 12 + 1, none⟩ = some (.int .i64 xa.crt) := HOW.out.cell (d := 1) hul hA rfl
          have cA2 : wr.cell? ⟨g, j * 12 + 2, none⟩ = some (.int .i64 xa.seq) := HOW.out.cell (d := 2) hul hA rfl
          have cA3 : wr.cell? ⟨g, j * 12 + 3, none⟩ = some (.int .i64 xa.off) := HOW.out.cell (d := 3) hul hA rfl
          have cA4 : wr.cell? ⟨g, j * 12 + 4, none⟩ = some (.int .i64 xa.tot) := HOW.out.cell (d := 4) hul hA rfl
          have cA5 : wr.cell? ⟨g, j * 12 + 5, none⟩ = some (.int .i64 xa.dk) := HOW.out.cell (d := 5) hul hA rfl
          have cA6 : wr.cell? ⟨g, j * 12 + 6, none⟩ = some (.int .i64 xa.dn) := HOW.out.cell (d := 6) hul hA rfl
          have cA7 : wr.cell? ⟨g, j * 12 + 7, none⟩ = some (.int .i64 xa.life) := HOW.out.cell (d := 7) hul hA rfl
          have cA8 : wr.cell? ⟨g, j * 12 + 8, none⟩ = some (.int .i64 xa.prio) := HOW.out.cell (d := 8) hul hA rfl
          have cA9 : wr.cell? ⟨g, j * 12 + 9, none⟩ = some (.int .i64 xa.flags) := HOW.out.cell (d := 9) hul hA rfl
          have cA10 : wr.cell? ⟨g, j * 12 + 10, none⟩ = some (.slice aa xa.blocks.length ca) := HOW.out.cell (d := 10) hul hA rfl
          have cA11 : wr.cell? ⟨g, j * 12 + 11, none⟩ = some (.string (B xa.payload)) := HOW.out.cell (d := 11) hul hA rfl
          have cB0 : wr.cell? ⟨g, kk * 12, none⟩ = some (.int .i64 xb.src) := HOW.out.cell (d := 0) hul hB rfl
          have cB1 : wr.cell? ⟨g, kk * 12 + 1, none⟩ = some (.int .i64 xb.crt) := HOW.out.cell (d := 1) hul hB rfl
          have cB2 : wr.cell? ⟨g, kk * 12 + 2, none⟩ = some (.int .i64 xb.seq) := HOW.out.cell (d := 2) hul hB rfl
          have cB3 : wr.cell? ⟨g, kk * 12 + 3, none⟩ = some (.int .i64 xb.off) := HOW.out.cell (d := 3) hul hB rfl
          have cB4 : wr.cell? ⟨g, kk * 12 + 4, none⟩ = some (.int .i64 xb.tot) := HOW.out.cell (d := 4) hul hB rfl
          have cB5 : wr.cell? ⟨g, kk * 12 + 5, none⟩ = some (.int .i64 xb.dk) := HOW.out.cell (d := 5) hul hB rfl
          have cB6 : wr.cell? ⟨g, kk * 12 + 6, none⟩ = some (.int .i64 xb.dn) := HOW.out.cell (d := 6) hul hB rfl
          have cB7 : wr.cell? ⟨g, kk * 12 + 7, none⟩ = some (.int .i64 xb.life) := HOW.out.cell (d := 7) hul hB rfl
          have cB8 : wr.cell? ⟨g, kk * 12 + 8, none⟩ = some (.int .i64 xb.prio) := HOW.out.cell (d := 8) hul hB rfl
          have cB9 : wr.cell? ⟨g, kk * 12 + 9, none⟩ = some (.int .i64 xb.flags) := HOW.out.cell (d := 9) hul hB rfl
          have cB10 : wr.cell? ⟨g, kk * 12 + 10, none⟩ = some (.slice ab xb.blocks.length cb) := HOW.out.cell (d := 10) hul hB rfl
          have cB11 : wr.cell? ⟨g, kk * 12 + 11, none⟩ = some (.string (B xb.payload)) := HOW.out.cell (d := 11) hul hB rfl
          have j0 : (0 : Int) ≤ (j : Int) := by omega
          have j1 : (j : Int) < (nn : Int) := by omega
          have k0_ : (0 : Int) ≤ (kk : Int) := by omega
          have k1_ : (kk : Int) < (nn : Int) := by omega
          obtain ⟨W1, hW1⟩ : ∃ q, wr.drew.drew.setCells g (j * 12) [.int .i64 xb.src, .int .i64 xb.crt, .int .i64 xb.seq, .int .i64 xb.off, .int .i64 xb.tot, .int .i64 xb.dk, .int .i64 xb.dn, .int .i64 xb.life, .int .i64 xb.prio, .int .i64 xb.flags, .slice ab xb.blocks.length cb, .string (B xb.payload)] = q := ⟨_, rfl⟩
          have HO1 : Hid (OwnX W1 w7.heap.size (.slice (some ⟨g, 0, none⟩) nn cap) (us.set j (xb, .slice ab xb.blocks.length cb))) := Lib.hid (by rw [← hW1]; exact OwnX.store (s := (xb, .slice ab xb.blocks.length cb)) (r := (xa, .slice aa xa.blocks.length ca)) (i := j) HOWd.out hul hA HRB.out)
          have hul1 : (us.set j (xb, .slice ab xb.blocks.length cb)).length = nn := by rw [List.length_set]; exact hul
          obtain ⟨r1, hr1⟩ : ∃ r, (us.set j (xb, .slice ab xb.blocks.length cb))[kk]? = some r := ⟨_, List.getElem?_eq_getElem (by omega)⟩
          obtain ⟨W2, hW2⟩ : ∃ q, W1.setCells g (kk * 12) [.int .i64 xa.src, .int .i64 xa.crt, .int .i64 xa.seq, .int .i64 xa.off, .int .i64 xa.tot, .int .i64 xa.dk, .int .i64 xa.dn, .int .i64 xa.life, .int .i64 xa.prio, .int .i64 xa.flags, .slice aa xa.blocks.length ca, .string (B xa.payload)] = q := ⟨_, rfl⟩
          have HRA1 : RBlksD W1 (fun q => q < W1.heap.size ∧ q ≠ g) (.slice aa xa.blocks.length ca) xa.blocks := HRA.out.keep (fun b o hb => World.cell?_of_block (by rw [← hW1]; exact setCells_other g b hb.2 _ _ _)) (fun q hq => ⟨by rw [← hW1, setCells_size]; exact hq.1, hq.2⟩)
          have HO2 : Hid (OwnX W2 w7.heap.size (.slice (some ⟨g, 0, none⟩) nn cap) ((us.set j (xb, .slice ab xb.blocks.length cb)).set kk (xa, .slice aa xa.blocks.length ca))) := Lib.hid (by rw [← hW2]; exact OwnX.store (s := (xa, .slice aa xa.blocks.length ca)) (r := r1) (i := kk) HO1.out hul1 hr1 HRA1)
          have HUL2 : Hid (((us.set j (xb, .slice ab xb.blocks.length cb)).set kk (xa, .slice aa xa.blocks.length ca)).length = nn) := Lib.hid (by rw [List.length_set]; exact hul1)
          have hME : ∀ x, x ∈ ((us.set j (xb, .slice ab xb.blocks.length cb)).set kk (xa, .slice aa xa.blocks.length ca)).map (·.1) ↔ x ∈ us.map (·.1) := fun x => by rw [List.mem_map, List.mem_map]; exact exists_congr fun z => and_congr_left fun _ => mem_swap HA.out HB.out z
          have HFR2 : Hid (∀ z ∈ ((us.set j (xb, .slice ab xb.blocks.length cb)).set kk (xa, .slice aa xa.blocks.length ca)).map (·.1), FragOf b z) := Lib.hid (fun z hz => HFR.out z ((hME z).1 hz))
          have HXY2 : Hid (X ∈ ((us.set j (xb, .slice ab xb.blocks.length cb)).set kk (xa, .slice aa xa.blocks.length ca)).map (·.1) ∧ Y ∈ ((us.set j (xb, .slice ab xb.blocks.length cb)).set kk (xa, .slice aa xa.blocks.length ca)).map (·.1)) := Lib.hid ⟨(hME X).2 HXY.out.1, (hME Y).2 HXY.out.2⟩
          have K1_ : Below w7.heap.size w7 W1 := by rw [← hW1]; exact (bdrew (bdrew K9)).trans (setCells_below g _ _ _ _ (by omega))
          have K2_ : Below w7.heap.size w7 W2 := by rw [← hW2]; exact K1_.trans (setCells_below g _ _ _ _ (by omega))
          have z2_ : w7.heap.size < W2.heap.size := by rw [← hW2, setCells_size, ← hW1, setCells_size]; exact z9
          have HT1 := Lib.hid (HOWd.out.there hul hA)
          have HT2 := Lib.hid (HO1.out.there hul1 hr1)
          have HW1 := Lib.hid hW1
          have HW2 := Lib.hid hW2
          clear hA hB rA rB hW1 hW2 HRA1 hul1 hr1 hul hjn hkn hjn0 hkn0 hME
          as_aux_lemma =>
            go_upto_region 20 with fail
            refine wp_region_plan (fun V => Below (wr).heap.size (wr) V) [0, 0, 0, 0, 0, 0, 0, 0, 0, 0, 0] [0, 1, 2, 3, 4, 5, 6, 7, 8, 9, 10] (by kernel_rfl) (by kernel_rfl) ?_ ?_
            case refine_1 => exact belowA
            (iterate 11 (first | (refine plan_held rfl (by decide) (by rfl) (fun w1 hS => by (try (obtain ⟨_, _⟩ := bcell (hS rfl))); go_simp; rfl) ?_; simp only [Act.put, List.setIfInBounds_toArray, List.set_cons_zero, List.set_cons_succ]) | (refine plan_skip rfl (by decide) (by rfl) ?_; simp only [Act.put, List.setIfInBounds_toArray, List.set_cons_zero, List.set_cons_succ])))
            refine plan_done ?_
            go_upto_region 21 with fail
            refine wp_region_plan (fun V => Below wr.heap.size wr V) [0, 0, 0, 0, 0, 0, 0, 1, 0, 0, 0, 1, 0, 3, 0, 3] [0, 1, 2, 3, 4, 5, 6, 7, 8, 9, 10, 11, 12, 13, 14, 15] (by kernel_rfl) (by kernel_rfl) ?_ ?_
            case refine_1 => exact belowA
            (iterate 13 (first | (refine plan_held rfl (by decide) (by rfl) (fun w1 hS => by (try (obtain ⟨_, _⟩ := bcell (hS rfl))); go_simp; rfl) ?_; simp only [Act.put, List.setIfInBounds_toArray, List.set_cons_zero, List.set_cons_succ]) | (refine plan_skip rfl (by decide) (by rfl) ?_; simp only [Act.put, List.setIfInBounds_toArray, List.set_cons_zero, List.set_cons_succ])))
            refine plan_late rfl rfl (by rfl) (fun K hK => ?_)
            refine wp_store_mid 28 _ _ rfl g (j * 12) #[.int .i64 xb.src, .int .i64 xb.crt, .int .i64 xb.seq, .int .i64 xb.off, .int .i64 xb.tot, .int .i64 xb.dk, .int .i64 xb.dn, .int .i64 xb.life, .int .i64 xb.prio, .int .i64 xb.flags, .slice ab xb.blocks.length cb, .string (B xb.payload)] rfl rfl HT1.out (by kernel_rfl) (by simp [Value.oneCell']) ?_
            rw [HW1.out]
            refine hK _ _ ?_
            clear hK K
            simp only [Act.put, List.setIfInBounds_toArray, List.set_cons_zero, List.set_cons_succ]
            (iterate 1 (first | (refine plan_held rfl (by decide) (by rfl) (fun w1 hS => by (try (obtain ⟨_, _⟩ := bcell (hS rfl))); go_simp; rfl) ?_; simp only [Act.put, List.setIfInBounds_toArray, List.set_cons_zero, List.set_cons_succ]) | (refine plan_skip rfl (by decide) (by rfl) ?_; simp only [Act.put, List.setIfInBounds_toArray, List.set_cons_zero, List.set_cons_succ])))
            refine plan_late rfl rfl (by rfl) (fun K hK => ?_)
            refine wp_store_mid 28 _ _ rfl g (kk * 12) #[.int .i64 xa.src, .int .i64 xa.crt, .int .i64 xa.seq, .int .i64 xa.off, .int .i64 xa.tot, .int .i64 xa.dk, .int .i64 xa.dn, .int .i64 xa.life, .int .i64 xa.prio, .int .i64 xa.flags, .slice aa xa.blocks.length ca, .string (B xa.payload)] rfl rfl HT2.out (by kernel_rfl) (by simp [Value.oneCell']) ?_
            rw [HW2.out]
            refine hK _ _ ?_
            clear hK K
            simp only [Act.put, List.setIfInBounds_toArray, List.set_cons_zero, List.set_cons_succ]
            refine plan_done ?_
            go_wp2
            refine ⟨⟨i + 1, _, ?_, ?_, HUL2, HO2, HFR2, HXY2, K2_, z2_⟩, ?_⟩
            · exact hlt
            · go_num
            · simp [intOf]
              omega
        · obtain rfl : i = o := by omega
          clear hlt
          obtain ⟨w10, rfl⟩ : ∃ q, q = wr := ⟨_, rfl⟩
          have B10 : Below w.heap.size w w10 := bR
          have y10 : w7.heap.size ≤ w10.heap.size := by omega
          have Xb10 : Hid (w10.heap[w.heap.size]? = some (.cells (bunC b (.slice ba b.blocks.length bc)).toArray 28 (0, 0))) := Lib.hid ((K9.block _ (by omega)).trans Xb7.out)
          have zb10 : w.heap.size < w10.heap.size := by omega
          have HLN : Hid (2 ≤ (us.map (·.1)).length) := Lib.hid (by rw [List.length_map, HUL.out]; omega)
          have HLM : Hid ((us.map (·.1)).length ≤ 10) := Lib.hid (by rw [List.length_map, HUL.out]; exact n5)
          have HBU : Hid (RBuns w10 w10.heap.size (.slice (some ⟨g, 0, none⟩) nn cap) (us.map (·.1))) := Lib.hid HOW.out.buns
          obtain ⟨l, hl⟩ : ∃ q, us.map (·.1) = q := ⟨_, rfl⟩
          rw [hl] at HLN HLM HBU HFR HXY
          clear hl HOW HUL us hgb zg bR
          have HAL : Hid (allP l = (b, 0)) := Lib.hid (by
            have h1 := HLN.out
            have h2 := HLM.out
            have h3 := HFR.out
            have h4 := HXY.out
            rw [← HHX.out, ← HHY.out] at h4
            have h5 := halves_cover HE.out HT.out HC.out (h := (k : Int)) (by omega) (by omega) h4.1 h4.2
            match l, h1, h2, h3, h5 with
            | [], h1, _, _, _ => simp at h1
            | x :: r, h1, h2, h3, h5 => exact frag_whole_all HE.out HT.out h3 (by simp at h2; omega) h5)
          have HFA : Hid (∀ z ∈ l, Fits z) := Lib.hid (fun z hz => (HFR.out z hz).fits HF.out)
          as_aux_lemma =>
            have HBU10 := HBU
            have HR10 : Hid (RBlks w10 w10.heap.size (.slice ba b.blocks.length bc) b.blocks) := Lib.hid (HR0.out.below (C := w.heap.size) B10 (Nat.le_refl _) (by omega))
            have cb := fun o => cellB Xb10.out o
            (try simp only [bunC, parC, zBun, zPar, spC, List.cons_append, List.nil_append, List.length_nil] at cb)
            go_wp2_with fail
            refine (all_any l _ _ (HBU10.out.below' (Below.refl _ _)) HFA.out).mono ?_
            unfold AllPost
            rw [HAL.out]
            rintro e w11 ⟨ur, rfl, hr9, hb11⟩
            have B11 : Below w.heap.size w w11 := btrans0 B10 hb11
            have y11 : w10.heap.size ≤ w11.heap.size := by have := hb11.size; (try simp at this); omega
            have L10_11 : Below w10.heap.size w10 w11 := btrans0 (Below.refl _ _) hb11
            have Xb11 : Hid (w11.heap[w.heap.size]? = some (.cells (bunC b (.slice ba b.blocks.length bc)).toArray 28 (0, 0))) := Lib.hid ((hb11.block _ (by first | omega | (simp; omega))).trans (Xb10.out))
            have zb11 : w.heap.size < w11.heap.size := by omega
            clear cb
            simp only at hr9
            obtain ⟨ra, rn, rfl, -⟩ := id hr9
            have HRZ11 := Lib.hid hr9
            clear hr9
            clear hb11
            have cb := fun o => cellB Xb11.out o
            (try simp only [bunC, parC, zBun, zPar, spC, List.cons_append, List.nil_append, List.length_nil] at cb)
            simp only [bunC]
            go_upto_region 24 with fail
            obtain ⟨w12, hw12⟩ : ∃ q, w11.alloc (.cells (bunC b (.slice ra b.blocks.length rn)).toArray 28 (0, 0)) = q := ⟨_, rfl⟩
            (try simp only [bunC, parC, zBun, zPar, spC, List.cons_append, List.nil_append, List.length_nil] at hw12)
            rw [hw12]
            have y12 : w11.heap.size < w12.heap.size := by rw [← hw12]; simp
            have B12 : Below w.heap.size w w12 := by rw [← hw12]; exact balloc0 B11
            have L10_12 : Below w10.heap.size w10 w12 := by rw [← hw12]; exact balloc0 L10_11
            have L11_12 : Below w11.heap.size w11 w12 := by rw [← hw12]; exact balloc0 (Below.refl _ _)
            have Xb12 : Hid (w12.heap[w.heap.size]? = some (.cells (bunC b (.slice ba b.blocks.length bc)).toArray 28 (0, 0))) := Lib.hid (by rw [← hw12]; exact (Below.heap_alloc _ _ _ (by omega)).trans Xb11.out)
            have zb12 : w.heap.size < w12.heap.size := by omega
            have Xz12 : Hid (w12.heap[w11.heap.size]? = some (.cells (bunC b (.slice ra b.blocks.length rn)).toArray 28 (0, 0))) := Lib.hid (by rw [← hw12]; exact heap_new)
            have zz12 : w11.heap.size < w12.heap.size := by omega
            clear cb
            clear hw12
            have cb := fun o => cellB Xb12.out o
            have cz := fun o => cellB Xz12.out o
            (try simp only [bunC, parC, zBun, zPar, spC, List.cons_append, List.nil_append, List.length_nil] at cb cz)
            go_wp2_with fail
            refine (bsame_any b _ _ _ (HRZ11.out.below' (L11_12)) (HR10.out.below' (L10_12))).mono ?_
            rintro e w13 ⟨rfl, hb13⟩
            have B13 : Below w.heap.size w w13 := btrans0 B12 hb13
            have y13 : w12.heap.size ≤ w13.heap.size := by have := hb13.size; (try simp at this); omega
            have L10_13 : Below w10.heap.size w10 w13 := btrans0 L10_12 hb13
            have L11_13 : Below w11.heap.size w11 w13 := btrans0 L11_12 hb13
            have Xb13 : Hid (w13.heap[w.heap.size]? = some (.cells (bunC b (.slice ba b.blocks.length bc)).toArray 28 (0, 0))) := Lib.hid ((hb13.block _ (by first | omega | (simp; omega))).trans (Xb12.out))
            have zb13 : w.heap.size < w13.heap.size := by omega
            have Xz13 : Hid (w13.heap[w11.heap.size]? = some (.cells (bunC b (.slice ra b.blocks.length rn)).toArray 28 (0, 0))) := Lib.hid ((hb13.block _ (by first | omega | (simp; omega))).trans (Xz12.out))
            have zz13 : w11.heap.size < w13.heap.size := by omega
            clear cb cz
            clear hb13
            have cb := fun o => cellB Xb13.out o
            have cz := fun o => cellB Xz13.out o
            (try simp only [bunC, parC, zBun, zPar, spC, List.cons_append, List.nil_append, List.length_nil] at cb cz)
            go_wp2_with fail
            refine (check_any b _ _ (HRZ11.out.below' (L11_13)) HF.out).mono ?_
            rw [HE.out]
            rintro e w14 ⟨rfl, hb14⟩
            have B14 : Below w.heap.size w w14 := btrans0 B13 hb14
            have y14 : w13.heap.size ≤ w14.heap.size := by have := hb14.size; (try simp at this); omega
            have L10_14 : Below w10.heap.size w10 w14 := btrans0 L10_13 hb14
            have L11_14 : Below w11.heap.size w11 w14 := btrans0 L11_13 hb14
            have Xb14 : Hid (w14.heap[w.heap.size]? = some (.cells (bunC b (.slice ba b.blocks.length bc)).toArray 28 (0, 0))) := Lib.hid ((hb14.block _ (by first | omega | (simp; omega))).trans (Xb13.out))
            have zb14 : w.heap.size < w14.heap.size := by omega
            have Xz14 : Hid (w14.heap[w11.heap.size]? = some (.cells (bunC b (.slice ra b.blocks.length rn)).toArray 28 (0, 0))) := Lib.hid ((hb14.block _ (by first | omega | (simp; omega))).trans (Xz13.out))
            have zz14 : w11.heap.size < w14.heap.size := by omega
            clear cb cz
            clear hb14
            have cb := fun o => cellB Xb14.out o
            have cz := fun o => cellB Xz14.out o
            (try simp only [bunC, parC, zBun, zPar, spC, List.cons_append, List.nil_append, List.length_nil] at cb cz)
            go_wp2_with fail
            refine (awake_any _).mono ?_
            rintro e w99 ⟨rfl, hb99⟩
            go_wp2
            go_ret
            exact ⟨rfl, belowA⟩

set_option maxRecDepth 100000 in
theorem lifted (os : Os) (started : os.Started) (H : Type) (enc : TypeId × Value → H) :
    ReturnsInHanded {} Try.checked os 8 .any (Rows.reassemblyBackSpec.pre6 enc Try.prog Try.f8 Rows.reassemblyBackRow.domain false) (Rows.reassemblyBackSpec.post enc Try.prog Try.f8 false true false false) := by
  refine returnsInHanded_of_change (C := Try.checked) own started (by kernel_rfl) Try.func8
    (ChangeSpec.witness6 (enc := enc) (C := Try.checked) false ⟨#[], #[.agg #[.int .i64 0, .int .i64 0, .int .i64 0, .int .i64 0, .int .i64 0, .int .i64 0, .int .i64 0, .int .i64 0, .int .i64 0, .int .i64 0, .slice none 0 0, .string (B [])], .slice none 0 0, .slice none 0 0], []⟩ 8 (by kernel_rfl) (by kernel_rfl) (by kernel_rfl) (by kernel_rfl)) ?_
  intro W base args ds gs before hval0 hW hcnd _
  have hval : ∀ (j : Nat) t v, Try.f8.params[j]? = some t → args[j]? = some v → Value.okWide Try.prog W .any base t v := hval0
  have hW' := hW
  obtain ⟨p, q, hA0, hV, rfl, hfz, hnd⟩ := hW
  have hA : DataW.TrodAll enc Try.prog W 0 (fun _ => true) true Try.f8.params.toList args.toList ds p := hA0
  rw [Try.params8] at hA hval
  obtain ⟨v0, vs0, d0, ds0, p0, q0, hargs, rfl, rfl, h0, r0⟩ := trodAll_cons hA
  obtain ⟨v1, vs1, d1, ds1, p1, q1, rfl, rfl, rfl, h1, r1⟩ := trodAll_cons r0
  obtain ⟨v2, vs2, d2, ds2, p2, q2, rfl, rfl, rfl, h2, r2⟩ := trodAll_cons r1
  obtain ⟨rfl, rfl, rfl⟩ := trodAll_nil r2
  obtain rfl : args = #[v0, v1, v2] := by cases args; simp_all
  obtain ⟨x0, u0, rfl, hr0, hf0⟩ := open_bun (hval 0 28 v0 rfl rfl) h0
  obtain ⟨x2, hr2, hb2⟩ := open_u8s_arg (hval 2 53 v2 rfl rfl) h2
  obtain ⟨x1, hr1, hd1⟩ := open_pts_arg (hval 1 61 v1 rfl rfl) h1
  refine (walk x0 u0 x1 v1 x2 v2 W hr0 hf0 hr1 hd1 hr2 hb2).mono fun e W' ⟨he, hB⟩ => ?_
  subst he
  refine ⟨_, rfl, law_post (by kernel_rfl) (by kernel_rfl) rfl Try.underlying4 rfl ?_ hW' hB⟩
  intro es hes
  match es, hes with
  | [_, _, _], _ => rfl

theorem proved : Rows.ReassemblyBackSaid :=
  OpenClaim.holds_of_wide 8 Try.f8 rfl rfl rfl rfl rfl rfl rfl ⟨rfl, rfl, rfl, rfl, rfl⟩ rfl rfl rfl rfl rfl (by kernel_rfl) Try.func8 (by kernel_rfl)
    (of_decide_eq_true (by kernel_rfl)) (by unfold Func.isWrapper; first | (rw [if_pos (by decide +kernel)]; kernel_rfl) | (rw [if_neg (by decide +kernel)]; exact ⟨rfl, rfl⟩))
    (fun os started H enc _ => lifted os started H enc)
#print axioms proved
end Go.Proofs.Ytpnfkmlgelcbgaa.reassemblyBack
