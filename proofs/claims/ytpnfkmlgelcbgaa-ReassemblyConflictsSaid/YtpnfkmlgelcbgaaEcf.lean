/-
  Proved: mailboatlaw18.ReassemblyConflicts returns true for every input, and leaves its arguments as they were. No condition.
-/
import Derived.Test.YtpnfkmlgelcbgaaRows
import Derived.Test.YtpnfkmlgelcbgaaUl
import Derived.Test.YtpnfkmlgelcbgaaUn
import Derived.Test.YtpnfkmlgelcbgaaUo
import Derived.Test.YtpnfkmlgelcbgaaJn
import Derived.Test.YtpnfkmlgelcbgaaUd
set_option linter.unusedVariables false
set_option linter.unusedSimpArgs false
namespace Go.Proofs.Ytpnfkmlgelcbgaa.reassemblyConflicts
open Go Go.ChangeShapes Go.WideShapes Go.ChangeAt Go.RowKit Go.Joins Go.Proofs.Ytpnfkmlgelcbgaa
attribute [local go_sem] B_getElem B_size B_app B_extract B_get B_toList

theorem own : ownKnob Try.prog.godebug = none := by kernel_rfl

open Iv
attribute [local go_sem] Oper.semAt_some
attribute [local go_sem ↓] str_bytes
set_option maxRecDepth 100000 in
set_option maxHeartbeats 16000000 in
theorem walk (p : Par) (ub uk : Value) (b : Bun) (u : Value) (at' ch : Int) (w : World) (hh : RBlks w w.heap.size ub p.head.blocks) (hk : RSps w w.heap.size uk p.known) (hfp : Fits p.head) (hdp : p.data.length ≤ maxLen) (hr : RBlks w w.heap.size u b.blocks) (hfb : Fits b) (hat : 0 ≤ at' ∧ at' < 65536) (hch : 0 ≤ ch ∧ ch < 256) :
    Calls Try.prog 6 #[.agg (parC p ub uk).toArray, .agg (bunC b u).toArray, .int .u16 at', .int .u8 ch] w (Says w) := by
  obtain ⟨pa, pc, rfl, -⟩ := id hh
  obtain ⟨qa, qc, rfl, -⟩ := id hk
  obtain ⟨ba, bc, rfl, -⟩ := id hr
  have HH0 := Lib.hid hh
  have HK0 := Lib.hid hk
  have HR0 := Lib.hid hr
  have HFP := Lib.hid hfp
  have HDP := Lib.hid hdp
  have HFB := Lib.hid hfb
  clear hh hk hr hfp hdp hfb
  obtain ⟨⟨VQ, EF⟩, hQ⟩ : ∃ q, addP p b = q := ⟨_, rfl⟩
  have HQ := Lib.hid hQ
  have HFQ : Hid (Fits VQ.head ∧ VQ.data.length ≤ maxLen) := Lib.hid (by have := addP_fits p b; rw [hQ] at this; exact this)
  obtain ⟨ha0, ha1⟩ := hat
  obtain ⟨hc0, hc1⟩ := hch
  clear hQ
  go_enter Try.func6, Try.ntmps6
  simp only [parC, bunC, List.cons_append, List.nil_append]
  go_upto_region 1 with fail
  obtain ⟨w1, hw1⟩ : ∃ q, ((w.alloc (.cells (parC p (.slice pa p.head.blocks.length pc) (.slice qa p.known.length qc)).toArray 31 (0, 0))).alloc (.cells (bunC b (.slice ba b.blocks.length bc)).toArray 28 (0, 0))) = q := ⟨_, rfl⟩
  simp only [bunC, parC, zBun, zPar, spC, List.cons_append, List.nil_append, List.length_nil] at hw1
  rw [hw1]
  have y1 : w.heap.size < w1.heap.size := by rw [← hw1]; first | (simp; done) | (simp; omega)
  have B1 : Below w.heap.size w w1 := by rw [← hw1]; exact balloc0 (balloc0 (Below.refl _ _))
  have L0_1 : Below w.heap.size w w1 := B1
  have Xp1 : Hid (w1.heap[w.heap.size]? = some (.cells (parC p (.slice pa p.head.blocks.length pc) (.slice qa p.known.length qc)).toArray 31 (0, 0))) := Lib.hid (by rw [← hw1]; exact (Below.heap_alloc _ _ _ (by simp)).trans (heap_new))
  have zp1 : w.heap.size < w1.heap.size := by rw [← hw1]; first | (simp; done) | (simp; omega)
  have Xb1 : Hid (w1.heap[w.heap.size + 1]? = some (.cells (bunC b (.slice ba b.blocks.length bc)).toArray 28 (0, 0))) := Lib.hid (by rw [← hw1]; exact heap_new' (by simp))
  have zb1 : w.heap.size + 1 < w1.heap.size := by rw [← hw1]; first | (simp; done) | (simp; omega)
  clear hw1
  have cp := fun o => cellB Xp1.out o
  have cb := fun o => cellB Xb1.out o
  simp only [bunC, parC, zBun, zPar, spC, List.cons_append, List.nil_append, List.length_nil] at cp cb
  go_wp2_with fail
  refine (pgreat_any p _ _ _ (HH0.out.below' (L0_1)) (HK0.out.below' (L0_1)) HFP.out HDP.out).mono ?_
  rintro e w2 ⟨gp, rfl, hb2⟩
  have B2 : Below w.heap.size w w2 := btrans0 B1 hb2
  have y2 : w1.heap.size ≤ w2.heap.size := by have := hb2.size; (try simp at this); omega
  have L0_2 : Below w.heap.size w w2 := btrans0 L0_1 hb2
  have Xp2 : Hid (w2.heap[w.heap.size]? = some (.cells (parC p (.slice pa p.head.blocks.length pc) (.slice qa p.known.length qc)).toArray 31 (0, 0))) := Lib.hid ((hb2.block _ (by first | omega | (simp; omega))).trans (Xp1.out))
  have zp2 : w.heap.size < w2.heap.size := by omega
  have Xb2 : Hid (w2.heap[w.heap.size + 1]? = some (.cells (bunC b (.slice ba b.blocks.length bc)).toArray 28 (0, 0))) := Lib.hid ((hb2.block _ (by first | omega | (simp; omega))).trans (Xb1.out))
  have zb2 : w.heap.size + 1 < w2.heap.size := by omega
  clear cp cb
  clear hb2
  have cp := fun o => cellB Xp2.out o
  have cb := fun o => cellB Xb2.out o
  simp only [bunC, parC, zBun, zPar, spC, List.cons_append, List.nil_append, List.length_nil] at cp cb
  cases gp with
  | true =>
    go_wp2_with fail
    refine (awake_any _).mono ?_
    rintro e w99 ⟨rfl, hb99⟩
    go_wp2
    go_ret
    exact ⟨rfl, belowA⟩
  | false =>
  go_wp2_with fail
  refine (great18_any [b] _ _ (runs1 (x := b) (ux := (.slice ba b.blocks.length bc)) (by exact heap_new) (HR0.out.below' (balloc0 (L0_2)))) (fun x hx => by simp at hx; subst hx; exact HFB.out)).mono ?_
  rintro e w3 ⟨gr, rfl, -, hb3⟩
  have B3 : Below w.heap.size w w3 := btrans0 (balloc0 B2) hb3
  have y3 : w2.heap.size ≤ w3.heap.size := by have := hb3.size; (try simp at this); omega
  have L0_3 : Below w.heap.size w w3 := btrans0 (balloc0 L0_2) hb3
  have Xp3 : Hid (w3.heap[w.heap.size]? = some (.cells (parC p (.slice pa p.head.blocks.length pc) (.slice qa p.known.length qc)).toArray 31 (0, 0))) := Lib.hid ((hb3.block _ (by first | omega | (simp; omega))).trans ((Below.heap_alloc _ _ _ (by first | omega | (simp; omega))).trans (Xp2.out)))
  have zp3 : w.heap.size < w3.heap.size := by omega
  have Xb3 : Hid (w3.heap[w.heap.size + 1]? = some (.cells (bunC b (.slice ba b.blocks.length bc)).toArray 28 (0, 0))) := Lib.hid ((hb3.block _ (by first | omega | (simp; omega))).trans ((Below.heap_alloc _ _ _ (by first | omega | (simp; omega))).trans (Xb2.out)))
  have zb3 : w.heap.size + 1 < w3.heap.size := by omega
  clear cp cb
  clear hb3
  have cp := fun o => cellB Xp3.out o
  have cb := fun o => cellB Xb3.out o
  simp only [bunC, parC, zBun, zPar, spC, List.cons_append, List.nil_append, List.length_nil] at cp cb
  cases gr with
  | true =>
    go_wp2_with fail
    refine (awake_any _).mono ?_
    rintro e w99 ⟨rfl, hb99⟩
    go_wp2
    go_ret
    exact ⟨rfl, belowA⟩
  | false =>
  by_cases c0 : ch = 0
  · subst c0
    go_wp2_with fail
    refine (awake_any _).mono ?_
    rintro e w99 ⟨rfl, hb99⟩
    go_wp2
    go_ret
    exact ⟨rfl, belowA⟩
  have dC : (ch == 0) = false := by rw [beq_eq_false_iff_ne]; exact c0
  obtain ⟨n, hn⟩ : ∃ q, b.payload.length = q := ⟨_, rfl⟩
  by_cases l0 : n = 0
  · subst l0
    have dL : ((b.payload.length : Int) == 0) = true := by rw [hn]; rfl
    clear hn
    go_wp2_with fail
    refine (awake_any _).mono ?_
    rintro e w99 ⟨rfl, hb99⟩
    go_wp2
    go_ret
    exact ⟨rfl, belowA⟩
  have n0 : ¬ (n : Int) = 0 := by omega
  have n1 : ((n : Int) == 0) = false := beq_eq_false_iff_ne.2 n0
  have dL : ((b.payload.length : Int) == 0) = false := by rw [hn]; exact n1
  have HN := Lib.hid hn
  clear hn
  go_wp2_with fail
  refine (add_any p b _ _ _ w.heap.size _ (Below.size B3) (HH0.out.below (C := w.heap.size) B3 (Nat.le_refl _) (Nat.le_refl _)) (HK0.out.below' (L0_3)) (HR0.out.below (C := w.heap.size) B3 (Nat.le_refl _) (Nat.le_refl _)) HFP.out HDP.out HFB.out).mono ?_
  rw [HQ.out]
  rintro e w4 ⟨ubq, ukq, rfl, hpq, hbq, hkq, hfq, hb4⟩
  have B4 : Below w.heap.size w w4 := btrans0 B3 hb4
  have y4 : w3.heap.size ≤ w4.heap.size := by have := hb4.size; (try simp at this); omega
  have L0_4 : Below w.heap.size w w4 := btrans0 L0_3 hb4
  have Xp4 : Hid (w4.heap[w.heap.size]? = some (.cells (parC p (.slice pa p.head.blocks.length pc) (.slice qa p.known.length qc)).toArray 31 (0, 0))) := Lib.hid ((hb4.block _ (by first | omega | (simp; omega))).trans (Xp3.out))
  have zp4 : w.heap.size < w4.heap.size := by omega
  have Xb4 : Hid (w4.heap[w.heap.size + 1]? = some (.cells (bunC b (.slice ba b.blocks.length bc)).toArray 28 (0, 0))) := Lib.hid ((hb4.block _ (by first | omega | (simp; omega))).trans (Xb3.out))
  have zb4 : w.heap.size + 1 < w4.heap.size := by omega
  clear cp cb
  simp only at hbq hkq
  obtain ⟨aq, nq, rfl, -⟩ := id hbq
  obtain ⟨kaq, knq, rfl, -⟩ := id hkq
  have HFR := Lib.hid hfq
  have HBL : Hid (RBlks w4 w.heap.size (.slice aq VQ.head.blocks.length nq) VQ.head.blocks) := Lib.hid hbq
  have HBq4 : Hid (RBlks w4 w4.heap.size (.slice aq VQ.head.blocks.length nq) VQ.head.blocks) := Lib.hid (hbq.wide (by omega))
  have HKq4 := Lib.hid hkq
  clear hbq hkq hfq hpq
  clear hb4
  have cp := fun o => cellB Xp4.out o
  have cb := fun o => cellB Xb4.out o
  simp only [bunC, parC, zBun, zPar, spC, List.cons_append, List.nil_append, List.length_nil] at cp cb
  simp only [bunC, parC, zBun, zPar, spC, List.cons_append, List.nil_append, List.length_nil]
  go_upto_region 4 with fail
  obtain ⟨w5, hw5⟩ : ∃ q, w4.alloc (.cells (parC VQ (.slice aq VQ.head.blocks.length nq) (.slice kaq VQ.known.length knq)).toArray 31 (0, 0)) = q := ⟨_, rfl⟩
  simp only [bunC, parC, zBun, zPar, spC, List.cons_append, List.nil_append, List.length_nil] at hw5
  rw [hw5]
  have y5 : w4.heap.size < w5.heap.size := by rw [← hw5]; simp
  have B5 : Below w.heap.size w w5 := by rw [← hw5]; exact balloc0 B4
  have L0_5 : Below w.heap.size w w5 := by rw [← hw5]; exact balloc0 L0_4
  have L4_5 : Below w4.heap.size w4 w5 := by rw [← hw5]; exact balloc0 (Below.refl _ _)
  have Xp5 : Hid (w5.heap[w.heap.size]? = some (.cells (parC p (.slice pa p.head.blocks.length pc) (.slice qa p.known.length qc)).toArray 31 (0, 0))) := Lib.hid (by rw [← hw5]; exact (Below.heap_alloc _ _ _ (by omega)).trans Xp4.out)
  have zp5 : w.heap.size < w5.heap.size := by omega
  have Xb5 : Hid (w5.heap[w.heap.size + 1]? = some (.cells (bunC b (.slice ba b.blocks.length bc)).toArray 28 (0, 0))) := Lib.hid (by rw [← hw5]; exact (Below.heap_alloc _ _ _ (by omega)).trans Xb4.out)
  have zb5 : w.heap.size + 1 < w5.heap.size := by omega
  have Xq5 : Hid (w5.heap[w4.heap.size]? = some (.cells (parC VQ (.slice aq VQ.head.blocks.length nq) (.slice kaq VQ.known.length knq)).toArray 31 (0, 0))) := Lib.hid (by rw [← hw5]; exact heap_new)
  have zq5 : w4.heap.size < w5.heap.size := by omega
  clear cp cb
  clear hw5
  have cp := fun o => cellB Xp5.out o
  have cb := fun o => cellB Xb5.out o
  have cq := fun o => cellB Xq5.out o
  simp only [bunC, parC, zBun, zPar, spC, List.cons_append, List.nil_append, List.length_nil] at cp cb cq
  by_cases eF : EF = 0
  case neg =>
    as_aux_lemma =>
      have dF : (EF != 0) = true := by rw [bne_iff_ne]; exact eF
      clear eF
      go_wp2_with fail
      refine (awake_any _).mono ?_
      rintro e w99 ⟨rfl, hb99⟩
      go_wp2
      go_ret
      exact ⟨rfl, belowA⟩
  subst eF
  obtain ⟨i, hi⟩ : ∃ i : Nat, at'.tmod (n : Int) = i := ⟨(at'.tmod n).toNat, by have := Int.tmod_nonneg (n : Int) ha0; omega⟩
  have hin : i < n := by have h1 := Int.tmod_lt_of_pos at' (show (0 : Int) < (n : Int) by omega); rw [hi] at h1; omega
  have hmod : at' % (n : Int) = (i : Int) := by rw [← hi, Int.tmod_eq_emod_of_nonneg ha0]
  obtain ⟨x, hx⟩ : ∃ x, b.payload[i]? = some x := ⟨_, List.getElem?_eq_getElem (by have := HN.out; omega)⟩
  obtain ⟨c, hcc⟩ : ∃ c : UInt8, ch = (c.toNat : Int) := ⟨UInt8.ofNat ch.toNat, by rw [ofNat_toNat' (by omega)]; omega⟩
  subst hcc
  have hxy : x ≠ x ^^^ c := by
    intro h
    have h2 : c = 0 := by
      have : x ^^^ x = x ^^^ (x ^^^ c) := by rw [← h]
      rw [← UInt8.xor_assoc, UInt8.xor_self, UInt8.zero_xor] at this
      exact this.symm
    exact c0 (by rw [h2]; rfl)
  obtain ⟨y, hy⟩ : ∃ y, x ^^^ c = y := ⟨_, rfl⟩
  have hxor : bits .xor .u8 (x.toNat : Int) (c.toNat : Int) = (y.toNat : Int) := by rw [← hy]; exact u8_xor x c
  rw [hy] at hxy
  obtain ⟨R, hR⟩ : ∃ q, b.payload.set i y = q := ⟨_, rfl⟩
  have hRl : R.length = b.payload.length := by rw [← hR, List.length_set]
  have HCF : Hid (addP VQ { b with payload := R } = (zPar, 24)) := Lib.hid (by have := conflictP (p := p) (b := b) (l := R) (i := i) (by rw [HQ.out]) hRl (by have := HN.out; omega) (by rw [← hR, List.getD_eq_getElem?_getD, List.getD_eq_getElem?_getD, hx, List.getElem?_set_self (by have := HN.out; omega)]; exact fun e => hxy e.symm); rw [HQ.out] at this; exact this)
  have HFB2 : Hid (Fits { b with payload := R }) := Lib.hid ⟨by show R.length ≤ maxLen; rw [hRl]; exact HFB.out.1, HFB.out.2⟩
  have i0 : (0 : Int) ≤ (i : Int) := by omega
  have i1 : (i : Int) < (n : Int) := by omega
  have hn : b.payload.length = n := HN.out
  obtain ⟨V, hV⟩ : ∃ V, Lib.bytesWorld w5 5 (B b.payload) = V := ⟨_, rfl⟩
  have bV : Below w5.heap.size w5 V := by rw [← hV]; exact bytes_below
  have hVc : V.cell? ⟨w5.heap.size, i, none⟩ = some (.int .u8 (x.toNat : Int)) := by rw [← hV]; exact bytes_cell _ _ _ _ _ hx
  have hVf : V.frozen? ⟨w5.heap.size, i, none⟩ = false := by rw [← hV]; exact bytes_thaw _ _ _ _ (by omega)
  have hVs : w5.heap.size < V.heap.size := by rw [← hV, Lib.bytesWorld_size]; omega
  have hback := fun cap => bytes_str V w5.heap.size n cap i b.payload y hn hin (fun j x' h => by rw [← hV]; exact bytes_cell _ _ _ _ _ h)
  rw [hR] at hback
  have XbV : Hid (V.heap[w.heap.size + 1]? = some (.cells (bunC b (.slice ba b.blocks.length bc)).toArray 28 (0, 0))) := Lib.hid ((bV.block _ zb5).trans Xb5.out)
  have cV := fun o => cellB XbV.out o
  have fV := fun o => frozenB XbV.out o
  simp only [bunC, parC, zBun, zPar, spC, List.cons_append, List.nil_append, List.length_nil] at cV
  have ne1 : w.heap.size + 1 ≠ w5.heap.size := by omega
  have ne2 : w5.heap.size ≠ w.heap.size + 1 := by omega
  have zbV : w.heap.size + 1 < V.heap.size := by omega
  clear hx hxy hy hi hR dL dC
  go_upto_region 9 with fail
  obtain ⟨w6, hw6⟩ : ∃ q, q = (V.setCell ⟨w5.heap.size, i, none⟩ (.int .u8 (y.toNat : Int))).setCell ⟨w.heap.size + 1, 11, none⟩ (.string (B R)) := ⟨_, rfl⟩
  rw [← hw6]
  have o6 : ∀ q, q ≠ w.heap.size + 1 → q < w5.heap.size → w6.heap[q]? = w5.heap[q]? := fun q hq hq2 => by rw [hw6]; exact (heap_setCell_other _ _ _ _ (by exact hq)).trans ((heap_setCell_other _ _ _ _ (by show q ≠ w5.heap.size; omega)).trans (bV.block _ hq2))
  have s6 : w6.heap.size = V.heap.size := by rw [hw6]; simp
  have y6 : w5.heap.size < w6.heap.size := by omega
  have B6 : Below w.heap.size w w6 := by rw [hw6]; exact bset (bset (btrans0 B5 bV) (by show w.heap.size ≤ w5.heap.size; omega)) (by show w.heap.size ≤ w.heap.size + 1; omega)
  have Xp6 : Hid (w6.heap[w.heap.size]? = some (.cells (parC p (.slice pa p.head.blocks.length pc) (.slice qa p.known.length qc)).toArray 31 (0, 0))) := Lib.hid ((o6 _ (by omega) (by omega)).trans Xp5.out)
  have zp6 : w.heap.size < w6.heap.size := by omega
  have Xb6 : Hid (w6.heap[w.heap.size + 1]? = some (.cells (bunC { b with payload := R } (.slice ba b.blocks.length bc)).toArray 28 (0, 0))) := Lib.hid (by rw [hw6]; have e1 : (V.setCell ⟨w5.heap.size, i, none⟩ (.int .u8 (y.toNat : Int))).heap[w.heap.size + 1]? = V.heap[w.heap.size + 1]? := heap_setCell_other _ _ _ _ (by exact ne1); have := setB (e1.trans XbV.out) 11 (.string (B R)); simpa [bunC] using this)
  have zb6 : w.heap.size + 1 < w6.heap.size := by omega
  have Xq6 : Hid (w6.heap[w4.heap.size]? = some (.cells (parC VQ (.slice aq VQ.head.blocks.length nq) (.slice kaq VQ.known.length knq)).toArray 31 (0, 0))) := Lib.hid ((o6 _ (by omega) (by omega)).trans Xq5.out)
  have zq6 : w4.heap.size < w6.heap.size := by omega
  have LOWQ : ∀ b, b < w.heap.size → w6.heap[b]? = w4.heap[b]? := fun b hb => (B6.block _ hb).trans (B4.block _ hb).symm
  have HBZ : Hid (RBlks w6 w6.heap.size (.slice aq VQ.head.blocks.length nq) VQ.head.blocks) := Lib.hid (HBL.out.keep (fun b o hb => World.cell?_of_block (LOWQ b hb)) (by omega))
  have HKZ : Hid (RSps w6 w6.heap.size (.slice kaq VQ.known.length knq) VQ.known) := Lib.hid (HKq4.out.keepIn HFR.out (fun b h1 h2 => (o6 b (by omega) (by omega)).trans (L4_5.block _ h2)) (by omega))
  have HRZ : Hid (RBlks w6 w6.heap.size (.slice ba b.blocks.length bc) b.blocks) := Lib.hid (HR0.out.below (C := w.heap.size) B6 (Nat.le_refl _) (by omega))
  clear cp cb cq
  clear hw6 o6 s6 LOWQ bV hVc hVf hback cV fV hV ne1 ne2 zbV XbV hmod hxor hin i0 i1 hVs
  have cp := fun o => cellB Xp6.out o
  have cb := fun o => cellB Xb6.out o
  have cq := fun o => cellB Xq6.out o
  simp only [bunC, parC, zBun, zPar, spC, List.cons_append, List.nil_append, List.length_nil] at cp cb cq
  go_wp2_with fail
  refine (add_any VQ { b with payload := R } _ _ _ w6.heap.size _ (Nat.le_refl _) HBZ.out HKZ.out HRZ.out HFQ.out.1 HFQ.out.2 HFB2.out).mono ?_
  rw [HCF.out]
  rintro e w7 ⟨ubr, ukr, rfl, hpr, hbr, hkr, hfr, hb7⟩
  have B7 : Below w.heap.size w w7 := btrans0 B6 hb7
  have y7 : w6.heap.size ≤ w7.heap.size := by have := hb7.size; (try simp at this); omega
  have Xp7 : Hid (w7.heap[w.heap.size]? = some (.cells (parC p (.slice pa p.head.blocks.length pc) (.slice qa p.known.length qc)).toArray 31 (0, 0))) := Lib.hid ((hb7.block _ (by first | omega | (simp; omega))).trans (Xp6.out))
  have zp7 : w.heap.size < w7.heap.size := by omega
  have Xb7 : Hid (w7.heap[w.heap.size + 1]? = some (.cells (bunC { b with payload := R } (.slice ba b.blocks.length bc)).toArray 28 (0, 0))) := Lib.hid ((hb7.block _ (by first | omega | (simp; omega))).trans (Xb6.out))
  have zb7 : w.heap.size + 1 < w7.heap.size := by omega
  have Xq7 : Hid (w7.heap[w4.heap.size]? = some (.cells (parC VQ (.slice aq VQ.head.blocks.length nq) (.slice kaq VQ.known.length knq)).toArray 31 (0, 0))) := Lib.hid ((hb7.block _ (by first | omega | (simp; omega))).trans (Xq6.out))
  have zq7 : w4.heap.size < w7.heap.size := by omega
  clear cp cb cq
  simp only at hbr hkr
  obtain ⟨ar, nr, rfl, -⟩ := id hbr
  obtain ⟨kar, knr, rfl, -⟩ := id hkr
  have HBr7 : Hid (RBlks w7 w7.heap.size (.slice ar zPar.head.blocks.length nr) zPar.head.blocks) := Lib.hid (hbr.wide (by omega))
  have HKr7 := Lib.hid hkr
  clear hbr hkr hfr hpr
  clear hb7
  have cp := fun o => cellB Xp7.out o
  have cb := fun o => cellB Xb7.out o
  have cq := fun o => cellB Xq7.out o
  simp only [bunC, parC, zBun, zPar, spC, List.cons_append, List.nil_append, List.length_nil] at cp cb cq
  simp only [bunC, parC, zBun, zPar, spC, List.cons_append, List.nil_append, List.length_nil]
  go_upto_region 10 with fail
  obtain ⟨w8, hw8⟩ : ∃ q, w7.alloc (.cells (parC zPar (.slice ar zPar.head.blocks.length nr) (.slice kar zPar.known.length knr)).toArray 31 (0, 0)) = q := ⟨_, rfl⟩
  simp only [bunC, parC, zBun, zPar, spC, List.cons_append, List.nil_append, List.length_nil] at hw8
  rw [hw8]
  have y8 : w7.heap.size < w8.heap.size := by rw [← hw8]; simp
  have B8 : Below w.heap.size w w8 := by rw [← hw8]; exact balloc0 B7
  have L7_8 : Below w7.heap.size w7 w8 := by rw [← hw8]; exact balloc0 (Below.refl _ _)
  have Xp8 : Hid (w8.heap[w.heap.size]? = some (.cells (parC p (.slice pa p.head.blocks.length pc) (.slice qa p.known.length qc)).toArray 31 (0, 0))) := Lib.hid (by rw [← hw8]; exact (Below.heap_alloc _ _ _ (by omega)).trans Xp7.out)
  have zp8 : w.heap.size < w8.heap.size := by omega
  have Xb8 : Hid (w8.heap[w.heap.size + 1]? = some (.cells (bunC { b with payload := R } (.slice ba b.blocks.length bc)).toArray 28 (0, 0))) := Lib.hid (by rw [← hw8]; exact (Below.heap_alloc _ _ _ (by omega)).trans Xb7.out)
  have zb8 : w.heap.size + 1 < w8.heap.size := by omega
  have Xq8 : Hid (w8.heap[w4.heap.size]? = some (.cells (parC VQ (.slice aq VQ.head.blocks.length nq) (.slice kaq VQ.known.length knq)).toArray 31 (0, 0))) := Lib.hid (by rw [← hw8]; exact (Below.heap_alloc _ _ _ (by omega)).trans Xq7.out)
  have zq8 : w4.heap.size < w8.heap.size := by omega
  have Xr8 : Hid (w8.heap[w7.heap.size]? = some (.cells (parC zPar (.slice ar zPar.head.blocks.length nr) (.slice kar zPar.known.length knr)).toArray 31 (0, 0))) := Lib.hid (by rw [← hw8]; exact heap_new)
  have zr8 : w7.heap.size < w8.heap.size := by omega
  clear cp cb cq
  clear hw8
  have cp := fun o => cellB Xp8.out o
  have cb := fun o => cellB Xb8.out o
  have cq := fun o => cellB Xq8.out o
  have cr := fun o => cellB Xr8.out o
  simp only [bunC, parC, zBun, zPar, spC, List.cons_append, List.nil_append, List.length_nil] at cp cb cq cr
  go_wp2_with fail
  refine (psame_any zPar _ _ _ _ _ (HBr7.out.below' (L7_8)) (HKr7.out.below' (L7_8)) (RBlks.nil _ _) (RSps.nil _ _) (by simp [zPar])).mono ?_
  rintro e w9 ⟨rfl, hb9⟩
  have B9 : Below w.heap.size w w9 := btrans0 B8 hb9
  have y9 : w8.heap.size ≤ w9.heap.size := by have := hb9.size; (try simp at this); omega
  have L7_9 : Below w7.heap.size w7 w9 := btrans0 L7_8 hb9
  have Xp9 : Hid (w9.heap[w.heap.size]? = some (.cells (parC p (.slice pa p.head.blocks.length pc) (.slice qa p.known.length qc)).toArray 31 (0, 0))) := Lib.hid ((hb9.block _ (by first | omega | (simp; omega))).trans (Xp8.out))
  have zp9 : w.heap.size < w9.heap.size := by omega
  have Xb9 : Hid (w9.heap[w.heap.size + 1]? = some (.cells (bunC { b with payload := R } (.slice ba b.blocks.length bc)).toArray 28 (0, 0))) := Lib.hid ((hb9.block _ (by first | omega | (simp; omega))).trans (Xb8.out))
  have zb9 : w.heap.size + 1 < w9.heap.size := by omega
  have Xq9 : Hid (w9.heap[w4.heap.size]? = some (.cells (parC VQ (.slice aq VQ.head.blocks.length nq) (.slice kaq VQ.known.length knq)).toArray 31 (0, 0))) := Lib.hid ((hb9.block _ (by first | omega | (simp; omega))).trans (Xq8.out))
  have zq9 : w4.heap.size < w9.heap.size := by omega
  have Xr9 : Hid (w9.heap[w7.heap.size]? = some (.cells (parC zPar (.slice ar zPar.head.blocks.length nr) (.slice kar zPar.known.length knr)).toArray 31 (0, 0))) := Lib.hid ((hb9.block _ (by first | omega | (simp; omega))).trans (Xr8.out))
  have zr9 : w7.heap.size < w9.heap.size := by omega
  clear cp cb cq cr
  clear hb9
  have cp := fun o => cellB Xp9.out o
  have cb := fun o => cellB Xb9.out o
  have cq := fun o => cellB Xq9.out o
  have cr := fun o => cellB Xr9.out o
  simp only [bunC, parC, zBun, zPar, spC, List.cons_append, List.nil_append, List.length_nil] at cp cb cq cr
  go_wp2_with fail
  refine (awake_any _).mono ?_
  rintro e w99 ⟨rfl, hb99⟩
  go_wp2
  go_ret
  exact ⟨rfl, belowA⟩

set_option maxRecDepth 100000 in
theorem lifted (os : Os) (started : os.Started) (H : Type) (enc : TypeId × Value → H) :
    ReturnsInHanded {} Try.checked os 6 .any (Rows.reassemblyConflictsSpec.pre6 enc Try.prog Try.f6 Rows.reassemblyConflictsRow.domain false) (Rows.reassemblyConflictsSpec.post enc Try.prog Try.f6 false true false false) := by
  refine returnsInHanded_of_change (C := Try.checked) own started (by kernel_rfl) Try.func6
    (ChangeSpec.witness6 (enc := enc) (C := Try.checked) false ⟨#[], #[.agg #[.int .i64 0, .int .i64 0, .int .i64 0, .int .i64 0, .int .i64 0, .int .i64 0, .int .i64 0, .int .i64 0, .int .i64 0, .int .i64 0, .slice none 0 0, .string (B []), .slice none 0 0, .string (B [])], .agg #[.int .i64 0, .int .i64 0, .int .i64 0, .int .i64 0, .int .i64 0, .int .i64 0, .int .i64 0, .int .i64 0, .int .i64 0, .int .i64 0, .slice none 0 0, .string (B [])], .int .u16 0, .int .u8 0], []⟩ 8 (by kernel_rfl) (by kernel_rfl) (by kernel_rfl) (by kernel_rfl)) ?_
  intro W base args ds gs before hval0 hW hcnd _
  have hval : ∀ (j : Nat) t v, Try.f6.params[j]? = some t → args[j]? = some v → Value.okWide Try.prog W .any base t v := hval0
  have hW' := hW
  obtain ⟨p, q, hA0, hV, rfl, hfz, hnd⟩ := hW
  have hA : DataW.TrodAll enc Try.prog W 0 (fun _ => true) true Try.f6.params.toList args.toList ds p := hA0
  rw [Try.params6] at hA hval
  obtain ⟨v0, vs0, d0, ds0, p0, q0, hargs, rfl, rfl, h0, r0⟩ := trodAll_cons hA
  obtain ⟨v1, vs1, d1, ds1, p1, q1, rfl, rfl, rfl, h1, r1⟩ := trodAll_cons r0
  obtain ⟨v2, vs2, d2, ds2, p2, q2, rfl, rfl, rfl, h2, r2⟩ := trodAll_cons r1
  obtain ⟨v3, vs3, d3, ds3, p3, q3, rfl, rfl, rfl, h3, r3⟩ := trodAll_cons r2
  obtain ⟨rfl, rfl, rfl⟩ := trodAll_nil r3
  obtain rfl : args = #[v0, v1, v2, v3] := by cases args; simp_all
  obtain ⟨x1, u1, rfl, hr1, hf1⟩ := open_bun (hval 1 28 v1 rfl rfl) h1
  obtain ⟨x2, rfl, _, _, wx2⟩ := open_int Try.underlying58 (hval 2 58 v2 rfl rfl) h2
  obtain ⟨x3, rfl, _, _, wx3⟩ := open_int Try.underlying5 (hval 3 5 v3 rfl rfl) h3
  obtain ⟨x0, ub0, uk0, rfl, hh0, hk0, hf0, hd0⟩ := open_par (hval 0 31 v0 rfl rfl) h0
  refine (walk x0 ub0 uk0 x1 u1 x2 x3 W hh0 hk0 hf0 hd0 hr1 hf1 (by have := wx2; simp [Lit.wf, IntKind.min, IntKind.max, IntKind.signed, IntKind.bits] at this; omega) (by have := wx3; simp [Lit.wf, IntKind.min, IntKind.max, IntKind.signed, IntKind.bits] at this; omega)).mono fun e W' ⟨he, hB⟩ => ?_
  subst he
  refine ⟨_, rfl, law_post (by kernel_rfl) (by kernel_rfl) rfl Try.underlying4 rfl ?_ hW' hB⟩
  intro es hes
  match es, hes with
  | [_, _, _, _], _ => rfl

theorem proved : Rows.ReassemblyConflictsSaid :=
  OpenClaim.holds_of_wide 6 Try.f6 rfl rfl rfl rfl rfl rfl rfl ⟨rfl, rfl, rfl, rfl, rfl⟩ rfl rfl rfl rfl rfl (by kernel_rfl) Try.func6 (by kernel_rfl)
    (of_decide_eq_true (by kernel_rfl)) (by unfold Func.isWrapper; first | (rw [if_pos (by decide +kernel)]; kernel_rfl) | (rw [if_neg (by decide +kernel)]; exact ⟨rfl, rfl⟩))
    (fun os started H enc _ => lifted os started H enc)
#print axioms proved
end Go.Proofs.Ytpnfkmlgelcbgaa.reassemblyConflicts
