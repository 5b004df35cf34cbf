/-
  Proved: mailboatlaw18.ReassemblyOrder returns true for every input, and leaves its arguments as they were. No condition.
-/
import Derived.Test.YtpnfkmlgelcbgaaRows
import Derived.Test.YtpnfkmlgelcbgaaUq
import Derived.Test.YtpnfkmlgelcbgaaJn
import Derived.Test.YtpnfkmlgelcbgaaUd
set_option linter.unusedVariables false
set_option linter.unusedSimpArgs false
namespace Go.Proofs.Ytpnfkmlgelcbgaa.reassemblyOrder
open Go Go.ChangeShapes Go.WideShapes Go.ChangeAt Go.RowKit Go.Joins Go.Proofs.Ytpnfkmlgelcbgaa
attribute [local go_sem] B_getElem B_size B_app B_extract B_get B_toList

theorem own : ownKnob Try.prog.godebug = none := by kernel_rfl

open Iv
attribute [local go_sem] Oper.semAt_some
set_option maxRecDepth 100000 in
set_option maxHeartbeats 16000000 in
theorem walk (l : List Bun) (v : Value) (q : List Int) (v2 : Value) (w : World) (hr : RBuns w w.heap.size v l) (hf : ∀ b ∈ l, Fits b) (hq : RU8s w w.heap.size v2 q) (hqb : ∀ x ∈ q, 0 ≤ x ∧ x < 256) :
    Calls Try.prog 5 #[v, v2] w (Says w) := by
  obtain ⟨a, c, rfl, h1, h2, -⟩ := id hr
  obtain ⟨qa, qc, rfl, k1, k2, k3, k4⟩ := id hq
  unfold maxLen at h2 k2
  obtain ⟨n, hn⟩ : ∃ q, l.length = q := ⟨_, rfl⟩
  obtain ⟨m, hm⟩ : ∃ z, q.length = z := ⟨_, rfl⟩
  rw [hn] at hr h1 ⊢
  rw [hm] at k1 k4 ⊢
  have HN := Lib.hid hn
  have HM := Lib.hid hm
  have HR0 := Lib.hid hr
  have HF := Lib.hid hf
  have HQ4 := Lib.hid k4
  have HQB := Lib.hid hqb
  have mb : m ≤ 9223372036854775807 := by omega
  clear hr hf hq k1 k2 k3 k4 h1 h2 hqb hn hm
  go_enter Try.func5, Try.ntmps5
  go_wp2_with fail
  refine (great18_any l _ _ (HR0.out.below' (Below.refl _ _)) HF.out).mono ?_
  rintro e w1 ⟨gr, rfl, hgr, hb1⟩
  have B1 : Below w.heap.size w w1 := btrans0 (Below.refl _ _) hb1
  have y1 : w.heap.size ≤ w1.heap.size := by have := hb1.size; (try simp at this); omega
  have L0_1 : Below w.heap.size w w1 := btrans0 (Below.refl _ _) hb1
  have HGR := Lib.hid hgr
  clear hgr
  clear hb1
  cases gr with
  | true =>
    go_wp2_with fail
    refine (awake_any _).mono ?_
    rintro e w99 ⟨rfl, hb99⟩
    go_wp2
    go_ret
    exact ⟨rfl, belowA⟩
  | false =>
  have n8 : n ≤ 8 := by rw [← HN.out]; exact HGR.out rfl
  by_cases n0 : n = 0
  · subst n0
    go_wp2_with fail
    refine (awake_any _).mono ?_
    rintro e w99 ⟨rfl, hb99⟩
    go_wp2
    go_ret
    exact ⟨rfl, belowA⟩
  have e0 : ((n : Int) == 0) = false := by rw [beq_eq_false_iff_ne]; omega
  have e1 : ¬ (n : Int) = 0 := by omega
  have e2 : (0 : Int) < (n : Int) := by omega
  have e3 : 0 < n := by omega
  go_wp2_with fail
  refine (clone_buns l _ _ (HR0.out.below' (L0_1)) (by rw [HN.out]; exact e3) (by rw [HN.out]; omega)).mono ?_
  unfold ClonePostB
  rw [HN.out]
  rintro e w2 ⟨g, cap, us0, rfl, hus, hg, how, hb2⟩
  have B2 : Below w.heap.size w w2 := btrans0 B1 hb2
  have y2 : w1.heap.size ≤ w2.heap.size := by have := hb2.size; (try simp at this); omega
  have L0_2 : Below w.heap.size w w2 := btrans0 L0_1 hb2
  have HOW0 := Lib.hid how
  have HUS := Lib.hid hus
  clear how hus
  clear hb2
  have hg1 : g < w2.heap.size := (by obtain ⟨_, hh⟩ := HOW0.out.1; rcases hh with ⟨hh, _⟩ | ⟨g9, _, _, hh, _, hh2, _⟩; cases hh; cases hh; exact (Array.getElem?_eq_some_iff.1 hh2).1)
  go_upto_region 5 with fail
  go_loopw [27] (fun iv wr => ∃ (i : Nat) (us : List BV), i ≤ m ∧ iv = .int .i64 i ∧ Hid (us.length = n) ∧ Hid (OwnBV wr w1.heap.size w1.heap.size (.slice (some ⟨g, 0, none⟩) n cap) us) ∧ Hid (∀ x, x ∈ us.map (·.1) ↔ x ∈ l) ∧ Below w.heap.size w wr) (fun iv _ => m - (intOf iv).toNat)
  case atStart => exact ⟨0, us0, Nat.zero_le _, rfl, Lib.hid (by rw [← HN.out, ← HUS.out, List.length_map]), HOW0, Lib.hid (fun x => by rw [HUS.out]), B2⟩
  case round =>
    obtain ⟨i, us, hi, rfl, HUL, HOW, HME, bR⟩ := hrel
    have zg : g < wr.heap.size := (by obtain ⟨_, hh⟩ := HOW.out.1; rcases hh with ⟨hh, _⟩ | ⟨g9, _, _, hh, _, hh2, _⟩; cases hh; cases hh; exact (Array.getElem?_eq_some_iff.1 hh2).1)
    by_cases hlt : i < m
    · obtain ⟨qb, qo, rfl, hqn, hqc⟩ := HQ4.out (by omega)
      obtain ⟨y, hy⟩ : ∃ y, q[i]? = some y := ⟨_, List.getElem?_eq_getElem (by have := HM.out; omega)⟩
      have cy : wr.cell? ⟨qb, qo + i, none⟩ = some (.int .u8 y) := (bR.cell (p := ⟨qb, qo + i, none⟩) hqn).trans (hqc i y hy)
      obtain ⟨y0, y1⟩ := HQB.out y (List.mem_of_getElem? hy)
      clear hy hqc
      have i0 : (0 : Int) ≤ (i : Int) := by omega
      have i1 : (i : Int) < (m : Int) := by omega
      obtain ⟨j, hj, hjn0⟩ := mod_nat (i : Int) e3
      obtain ⟨k, hk, hkn0⟩ := mod_nat y e3
      have hj2 : (i : Int).tmod (n : Int) = (j : Int) := by rw [Int.tmod_eq_emod_of_nonneg i0]; exact hj
      have hk3 : y.tmod (n : Int) = (k : Int) := by rw [Int.tmod_eq_emod_of_nonneg y0]; exact hk
      have hk2 : (IntKind.i64.wrap y).tmod (n : Int) = (k : Int) := by rw [show IntKind.i64.wrap y = y by unfold IntKind.wrap; simp [IntKind.signed, IntKind.bits]; omega]; exact hk3
      have hul := HUL.out
      have HOWd : Hid (OwnBV wr.drew.drew w1.heap.size w1.heap.size (.slice (some ⟨g, 0, none⟩) n cap) us) := Lib.hid (HOW.out.below (by exact belowA) (by omega))
      have hjn : j < us.length := by omega
      have hkn : k < us.length := by omega
      obtain ⟨⟨xa, va⟩, hA⟩ : ∃ r, us[j]? = some r := ⟨_, List.getElem?_eq_getElem hjn⟩
      obtain ⟨⟨xb, vb⟩, hB⟩ : ∃ r, us[k]? = some r := ⟨_, List.getElem?_eq_getElem hkn⟩
      have rA : RBlks wr.drew.drew w1.heap.size va xa.blocks := HOWd.out.2 _ (List.mem_of_getElem? hA)
      have rB : RBlks wr.drew.drew w1.heap.size vb xb.blocks := HOWd.out.2 _ (List.mem_of_getElem? hB)
      obtain ⟨aa, ca, rfl, -⟩ := id rA
      obtain ⟨ab, cb, rfl, -⟩ := id rB
      have HA := Lib.hid hA
      have HB := Lib.hid hB
      have HRA := Lib.hid rA
      have HRB := Lib.hid rB
      have cA0 : wr.cell? ⟨g, j * 12, none⟩ = some (.int .i64 xa.src) := HOW.out.cell (d := 0) hul hA rfl
      have cA1 : wr.cell? ⟨g, j * 12 + 1, none⟩ = some (.int .i64 xa.crt) := HOW.out.cell (d := 1) hul hA rfl
      have cA2 : wr.cell? ⟨g, j * 12 + 2, none⟩ = some (.int .i64 xa.seq) := HOW.out.cell (d := 2) hul hA rfl
      have cA3 : wr.cell? ⟨g, j * 12 + 3, none⟩ = some (.int .i64 xa.off) := HOW.out.cell (d := 3) hul hA rfl
      have cA4 : wr.cell? ⟨g, j * 12 + 4, none⟩ = some (.int .i64 xa.tot) := HOW.out.cell (d := 4) hul hA rfl
      have cA5 : wr.cell? ⟨g, j * 12 + 5, none⟩ = some (.int .i64 xa.dk) := HOW.out.cell (d := 5) hul hA rfl
      have cA6 : wr.cell? ⟨g, j * 12 + 6, none⟩ = some (.int .i64 xa.dn) := HOW.out.cell (d := 6) hul hA rfl
      have cA7 : wr.cell? ⟨g, j * 12 + 7, none⟩ = some (.int .i64 xa.life) := HOW.out.cell (d := 7) hul hA rfl
      have cA8 : wr.cell? ⟨g, j * 12 + 8, none⟩ = some (.int .i64 xa.prio) := HOW.out.cell (d := 8) hul hA rfl
      have cA9 : wr.cell? ⟨g, j * 12 + 9, none⟩ = some (.int .i64 xa.flags) := HOW.out.cell (d := 9) hul hA rfl
      have cA10 : wr.cell? ⟨g, j * 12 + 10, none⟩ = some (.slice aa xa.blocks.length ca) := HOW.out.cell (d := 10) hul hA rfl
      have cA11 : wr.cell? ⟨g, j * 12 + 11, none⟩ = some (.string (B xa.payload)) := HOW.out.cell (d := 11) hul hA rfl
      have cB0 : wr.cell? ⟨g, k * 12, none⟩ = some (.int .i64 xb.src) := HOW.out.cell (d := 0) hul hB rfl
      have cB1 : wr.cell? ⟨g, k * 12 + 1, none⟩ = some (.int .i64 xb.crt) := HOW.out.cell (d := 1) hul hB rfl
      have cB2 : wr.cell? ⟨g, k * 12 + 2, none⟩ = some (.int .i64 xb.seq) := HOW.out.cell (d := 2) hul hB rfl
      have cB3 : wr.cell? ⟨g, k * 12 + 3, none⟩ = some (.int .i64 xb.off) := HOW.out.cell (d := 3) hul hB rfl
      have cB4 : wr.cell? ⟨g, k * 12 + 4, none⟩ = some (.int .i64 xb.tot) := HOW.out.cell (d := 4) hul hB rfl
      have cB5 : wr.cell? ⟨g, k * 12 + 5, none⟩ = some (.int .i64 xb.dk) := HOW.out.cell (d := 5) hul hB rfl
      have cB6 : wr.cell? ⟨g, k * 12 + 6, none⟩ = some (.int .i64 xb.dn) := HOW.out.cell (d := 6) hul hB rfl
      have cB7 : wr.cell? ⟨g, k * 12 + 7, none⟩ = some (.int .i64 xb.life) := HOW.out.cell (d := 7) hul hB rfl
      have cB8 : wr.cell? ⟨g, k * 12 + 8, none⟩ = some (.int .i64 xb.prio) := HOW.out.cell (d := 8) hul hB rfl
      have cB9 : wr.cell? ⟨g, k * 12 + 9, none⟩ = some (.int .i64 xb.flags) := HOW.out.cell (d := 9) hul hB rfl
      have cB10 : wr.cell? ⟨g, k * 12 + 10, none⟩ = some (.slice ab xb.blocks.length cb) := HOW.out.cell (d := 10) hul hB rfl
      have cB11 : wr.cell? ⟨g, k * 12 + 11, none⟩ = some (.string (B xb.payload)) := HOW.out.cell (d := 11) hul hB rfl
      have j0 : (0 : Int) ≤ (j : Int) := by omega
      have j1 : (j : Int) < (n : Int) := by omega
      have k0 : (0 : Int) ≤ (k : Int) := by omega
      have k1 : (k : Int) < (n : Int) := by omega
      obtain ⟨W1, hW1⟩ : ∃ q, wr.drew.drew.setCells g (j * 12) [.int .i64 xb.src, .int .i64 xb.crt, .int .i64 xb.seq, .int .i64 xb.off, .int .i64 xb.tot, .int .i64 xb.dk, .int .i64 xb.dn, .int .i64 xb.life, .int .i64 xb.prio, .int .i64 xb.flags, .slice ab xb.blocks.length cb, .string (B xb.payload)] = q := ⟨_, rfl⟩
      have HO1 : Hid (OwnBV W1 w1.heap.size w1.heap.size (.slice (some ⟨g, 0, none⟩) n cap) (us.set j (xb, .slice ab xb.blocks.length cb))) := Lib.hid (by rw [← hW1]; exact OwnBV.store (s := (xb, .slice ab xb.blocks.length cb)) (r := (xa, .slice aa xa.blocks.length ca)) (i := j) HOWd.out hul hA HRB.out hg)
      have hul1 : (us.set j (xb, .slice ab xb.blocks.length cb)).length = n := by rw [List.length_set]; exact hul
      obtain ⟨r1, hr1⟩ : ∃ r, (us.set j (xb, .slice ab xb.blocks.length cb))[k]? = some r := ⟨_, List.getElem?_eq_getElem (by omega)⟩
      obtain ⟨W2, hW2⟩ : ∃ q, W1.setCells g (k * 12) [.int .i64 xa.src, .int .i64 xa.crt, .int .i64 xa.seq, .int .i64 xa.off, .int .i64 xa.tot, .int .i64 xa.dk, .int .i64 xa.dn, .int .i64 xa.life, .int .i64 xa.prio, .int .i64 xa.flags, .slice aa xa.blocks.length ca, .string (B xa.payload)] = q := ⟨_, rfl⟩
      have HRA1 : RBlks W1 w1.heap.size (.slice aa xa.blocks.length ca) xa.blocks := HRA.out.keep (fun b o hb => World.cell?_of_block (by rw [← hW1]; exact setCells_other g b (by omega) _ _ _)) (Nat.le_refl _)
      have HO2 : Hid (OwnBV W2 w1.heap.size w1.heap.size (.slice (some ⟨g, 0, none⟩) n cap) ((us.set j (xb, .slice ab xb.blocks.length cb)).set k (xa, .slice aa xa.blocks.length ca))) := Lib.hid (by rw [← hW2]; exact OwnBV.store (s := (xa, .slice aa xa.blocks.length ca)) (r := r1) (i := k) HO1.out hul1 hr1 HRA1 hg)
      have HUL2 : Hid (((us.set j (xb, .slice ab xb.blocks.length cb)).set k (xa, .slice aa xa.blocks.length ca)).length = n) := Lib.hid (by rw [List.length_set]; exact hul1)
      have HME2 : Hid (∀ x, x ∈ ((us.set j (xb, .slice ab xb.blocks.length cb)).set k (xa, .slice aa xa.blocks.length ca)).map (·.1) ↔ x ∈ l) := Lib.hid (fun x => by rw [← HME.out, List.mem_map, List.mem_map]; exact exists_congr fun z => and_congr_left fun _ => mem_swap HA.out HB.out z)
      have bR1 : Below w.heap.size w W1 := by rw [← hW1]; exact (bdrew (bdrew bR)).trans (setCells_below g _ _ _ _ (by omega))
      have bR2 : Below w.heap.size w W2 := by rw [← hW2]; exact bR1.trans (setCells_below g _ _ _ _ (by omega))
      have HT1 := Lib.hid (HOWd.out.there hul hA)
      have HT2 := Lib.hid (HO1.out.there hul1 hr1)
      have HW1 := Lib.hid hW1
      have HW2 := Lib.hid hW2
      clear hA hB rA rB hW1 hW2 HRA1 hul1 hr1 hul hjn hkn hjn0 hkn0
      as_aux_lemma =>
        go_upto_region 7 with fail
        refine wp_region_plan (fun V => Below (wr).heap.size (wr) V) [0, 0, 0, 0, 0, 0, 0, 0, 0, 0, 0] [0, 1, 2, 3, 4, 5, 6, 7, 8, 9, 10] (by kernel_rfl) (by kernel_rfl) ?_ ?_
        case refine_1 => exact belowA
        (iterate 11 (first | (refine plan_held rfl (by decide) (by rfl) (fun w1 hS => by (try (obtain ⟨_, _⟩ := bcell (hS rfl))); go_simp; rfl) ?_; simp only [Act.put, List.setIfInBounds_toArray, List.set_cons_zero, List.set_cons_succ]) | (refine plan_skip rfl (by decide) (by rfl) ?_; simp only [Act.put, List.setIfInBounds_toArray, List.set_cons_zero, List.set_cons_succ])))
        refine plan_done ?_
        go_upto_region 8 with fail
        refine wp_region_plan (fun V => Below wr.heap.size wr V) [0, 0, 0, 0, 0, 0, 0, 1, 0, 0, 0, 1, 0, 3, 0, 3] [0, 1, 2, 3, 4, 5, 6, 7, 8, 9, 10, 11, 12, 13, 14, 15] (by kernel_rfl) (by kernel_rfl) ?_ ?_
        case refine_1 => exact belowA
        (iterate 13 (first | (refine plan_held rfl (by decide) (by rfl) (fun w1 hS => by (try (obtain ⟨_, _⟩ := bcell (hS rfl))); go_simp; rfl) ?_; simp only [Act.put, List.setIfInBounds_toArray, List.set_cons_zero, List.set_cons_succ]) | (refine plan_skip rfl (by decide) (by rfl) ?_; simp only [Act.put, List.setIfInBounds_toArray, List.set_cons_zero, List.set_cons_succ])))
        refine plan_late rfl rfl (by rfl) (fun K hK => ?_)
        refine wp_store_mid 28 _ _ rfl g (j * 12) #[.int .i64 xb.src, .int .i64 xb.crt, .int .i64 xb.seq, .int .i64 xb.off, .int .i64 xb.tot, .int .i64 xb.dk, .int .i64 xb.dn, .int .i64 xb.life, .int .i64 xb.prio, .int .i64 xb.flags, .slice ab xb.blocks.length cb, .string (B xb.payload)] rfl rfl HT1.out (by kernel_rfl) (by simp [Value.oneCell']) ?_
        rw [HW1.out]
        refine hK _ _ ?_
        clear hK K
        simp only [Act.put, List.setIfInBounds_toArray, List.set_cons_zero, List.set_cons_succ]
        (iterate 1 (first | (refine plan_held rfl (by decide) (by rfl) (fun w1 hS => by (try (obtain ⟨_, _⟩ := bcell (hS rfl))); go_simp; rfl) ?_; simp only [Act.put, List.setIfInBounds_toArray, List.set_cons_zero, List.set_cons_succ]) | (refine plan_skip rfl (by decide) (by rfl) ?_; simp only [Act.put, List.setIfInBounds_toArray, List.set_cons_zero, List.set_cons_succ])))
        refine plan_late rfl rfl (by rfl) (fun K hK => ?_)
        refine wp_store_mid 28 _ _ rfl g (k * 12) #[.int .i64 xa.src, .int .i64 xa.crt, .int .i64 xa.seq, .int .i64 xa.off, .int .i64 xa.tot, .int .i64 xa.dk, .int .i64 xa.dn, .int .i64 xa.life, .int .i64 xa.prio, .int .i64 xa.flags, .slice aa xa.blocks.length ca, .string (B xa.payload)] rfl rfl HT2.out (by kernel_rfl) (by simp [Value.oneCell']) ?_
        rw [HW2.out]
        refine hK _ _ ?_
        clear hK K
        simp only [Act.put, List.setIfInBounds_toArray, List.set_cons_zero, List.set_cons_succ]
        refine plan_done ?_
        go_wp2
        refine ⟨⟨i + 1, _, ?_, ?_, HUL2, HO2, HME2, bR2⟩, ?_⟩
        · exact hlt
        · go_num
        · simp [intOf]
          omega
    · obtain rfl : i = m := by omega
      obtain ⟨w3, rfl⟩ : ∃ q, q = wr := ⟨_, rfl⟩
      have B3 : Below w.heap.size w w3 := bR
      have y3 : w.heap.size ≤ w3.heap.size := B3.size
      clear hlt
      as_aux_lemma =>
        have zz : w1.heap.size ≤ w3.heap.size := by omega
        obtain ⟨b, r, hbr⟩ : ∃ b r, l = b :: r := by match l, HN.out with | [], h => simp at h; omega | b :: r, _ => exact ⟨b, r, rfl⟩
        have hul9 : (us.map (·.1)).length = n := by rw [List.length_map]; exact HUL.out
        obtain ⟨b2, r2, hbr2⟩ : ∃ b r, us.map (·.1) = b :: r := by
          cases hh : us.map (·.1) with
          | nil => rw [hh] at hul9; simp at hul9; omega
          | cons b r => exact ⟨b, r, rfl⟩
        clear hul9
        have HM3 : Hid (RBuns w3 w3.heap.size (.slice (some ⟨g, 0, none⟩) n cap) (b2 :: r2)) := Lib.hid (by rw [← hbr2]; exact HOW.out.buns zz)
        have HR3 : Hid (RBuns w3 w3.heap.size (.slice a n c) (b :: r)) := Lib.hid (by rw [← hbr]; exact HR0.out.below (C := w.heap.size) B3 (Nat.le_refl _) (by omega))
        have HF1 : Hid (∀ x ∈ b :: r, Fits x) := Lib.hid (by rw [← hbr]; exact HF.out)
        have HF2 : Hid (∀ x ∈ b2 :: r2, Fits x) := Lib.hid (by rw [← hbr2]; exact fun x hx => HF.out x ((HME.out x).1 hx))
        have HMM : Hid (∀ x, x ∈ b :: r ↔ x ∈ b2 :: r2) := Lib.hid (fun x => by rw [← hbr2, ← hbr]; exact (HME.out x).symm)
        obtain ⟨⟨VP, EP⟩, hP⟩ : ∃ q, addAll r (newP b) = q := ⟨_, rfl⟩
        obtain ⟨⟨VQ, EQ⟩, hQ⟩ : ∃ q, addAll r2 (newP b2) = q := ⟨_, rfl⟩
        have HP := Lib.hid hP
        have HQ := Lib.hid hQ
        clear hP hQ hbr hbr2
        go_wp2_with fail
        refine (addl_any b r _ _ (HR3.out.below' (Below.refl _ _)) HF1.out).mono ?_
        rw [HP.out]
        rintro e w4 ⟨ubp, ukp, rfl, hbp, hkp, hb4⟩
        have B4 : Below w.heap.size w w4 := btrans0 B3 hb4
        have y4 : w3.heap.size ≤ w4.heap.size := by have := hb4.size; (try simp at this); omega
        have L3_4 : Below w3.heap.size w3 w4 := btrans0 (Below.refl _ _) hb4
        simp only at hbp hkp
        obtain ⟨ap, np, rfl, -⟩ := id hbp
        obtain ⟨kap, knp, rfl, -⟩ := id hkp
        have HBp4 := Lib.hid hbp
        have HKp4 := Lib.hid hkp
        clear hbp hkp
        clear hb4
        simp only [bunC, parC, zBun, zPar, spC, List.cons_append, List.nil_append, List.length_nil]
        go_upto_region 12 with fail
        obtain ⟨w5, hw5⟩ : ∃ q, w4.alloc (.cells (parC VP (.slice ap VP.head.blocks.length np) (.slice kap VP.known.length knp)).toArray 31 (0, 0)) = q := ⟨_, rfl⟩
        simp only [bunC, parC, zBun, zPar, spC, List.cons_append, List.nil_append, List.length_nil] at hw5
        rw [hw5]
        have y5 : w4.heap.size < w5.heap.size := by rw [← hw5]; simp
        have B5 : Below w.heap.size w w5 := by rw [← hw5]; exact balloc0 B4
        have L3_5 : Below w3.heap.size w3 w5 := by rw [← hw5]; exact balloc0 L3_4
        have L4_5 : Below w4.heap.size w4 w5 := by rw [← hw5]; exact balloc0 (Below.refl _ _)
        have Xp5 : Hid (w5.heap[w4.heap.size]? = some (.cells (parC VP (.slice ap VP.head.blocks.length np) (.slice kap VP.known.length knp)).toArray 31 (0, 0))) := Lib.hid (by rw [← hw5]; exact heap_new)
        have zp5 : w4.heap.size < w5.heap.size := by omega
        clear hw5
        have cp := fun o => cellB Xp5.out o
        simp only [bunC, parC, zBun, zPar, spC, List.cons_append, List.nil_append, List.length_nil] at cp
        go_wp2_with fail
        refine (addl_any b2 r2 _ _ (HM3.out.below' (L3_5)) HF2.out).mono ?_
        rw [HQ.out]
        rintro e w6 ⟨ubq, ukq, rfl, hbq, hkq, hb6⟩
        have B6 : Below w.heap.size w w6 := btrans0 B5 hb6
        have y6 : w5.heap.size ≤ w6.heap.size := by have := hb6.size; (try simp at this); omega
        have L3_6 : Below w3.heap.size w3 w6 := btrans0 L3_5 hb6
        have L4_6 : Below w4.heap.size w4 w6 := btrans0 L4_5 hb6
        have Xp6 : Hid (w6.heap[w4.heap.size]? = some (.cells (parC VP (.slice ap VP.head.blocks.length np) (.slice kap VP.known.length knp)).toArray 31 (0, 0))) := Lib.hid ((hb6.block _ (by first | omega | (simp; omega))).trans (Xp5.out))
        have zp6 : w4.heap.size < w6.heap.size := by omega
        clear cp
        simp only at hbq hkq
        obtain ⟨aq, nq, rfl, -⟩ := id hbq
        obtain ⟨kaq, knq, rfl, -⟩ := id hkq
        have HBq6 := Lib.hid hbq
        have HKq6 := Lib.hid hkq
        clear hbq hkq
        clear hb6
        have cp := fun o => cellB Xp6.out o
        simp only [bunC, parC, zBun, zPar, spC, List.cons_append, List.nil_append, List.length_nil] at cp
        simp only [bunC, parC, zBun, zPar, spC, List.cons_append, List.nil_append, List.length_nil]
        go_upto_region 13 with fail
        obtain ⟨w7, hw7⟩ : ∃ q, w6.alloc (.cells (parC VQ (.slice aq VQ.head.blocks.length nq) (.slice kaq VQ.known.length knq)).toArray 31 (0, 0)) = q := ⟨_, rfl⟩
        simp only [bunC, parC, zBun, zPar, spC, List.cons_append, List.nil_append, List.length_nil] at hw7
        rw [hw7]
        have y7 : w6.heap.size < w7.heap.size := by rw [← hw7]; simp
        have B7 : Below w.heap.size w w7 := by rw [← hw7]; exact balloc0 B6
        have L3_7 : Below w3.heap.size w3 w7 := by rw [← hw7]; exact balloc0 L3_6
        have L4_7 : Below w4.heap.size w4 w7 := by rw [← hw7]; exact balloc0 L4_6
        have L6_7 : Below w6.heap.size w6 w7 := by rw [← hw7]; exact balloc0 (Below.refl _ _)
        have Xp7 : Hid (w7.heap[w4.heap.size]? = some (.cells (parC VP (.slice ap VP.head.blocks.length np) (.slice kap VP.known.length knp)).toArray 31 (0, 0))) := Lib.hid (by rw [← hw7]; exact (Below.heap_alloc _ _ _ (by omega)).trans Xp6.out)
        have zp7 : w4.heap.size < w7.heap.size := by omega
        have Xq7 : Hid (w7.heap[w6.heap.size]? = some (.cells (parC VQ (.slice aq VQ.head.blocks.length nq) (.slice kaq VQ.known.length knq)).toArray 31 (0, 0))) := Lib.hid (by rw [← hw7]; exact heap_new)
        have zq7 : w6.heap.size < w7.heap.size := by omega
        clear cp
        clear hw7
        have cp := fun o => cellB Xp7.out o
        have cq := fun o => cellB Xq7.out o
        simp only [bunC, parC, zBun, zPar, spC, List.cons_append, List.nil_append, List.length_nil] at cp cq
        by_cases p0 : EP = 0
        case neg =>
          as_aux_lemma =>
            have d0 : (EP == 0) = false := by rw [beq_eq_false_iff_ne]; exact p0
            clear p0
            go_wp2_with fail
            refine (awake_any _).mono ?_
            rintro e w99 ⟨rfl, hb99⟩
            go_wp2
            go_ret
            exact ⟨rfl, belowA⟩
        subst p0
        by_cases p1 : EQ = 0
        case neg =>
          as_aux_lemma =>
            have d0 : (EQ == 0) = false := by rw [beq_eq_false_iff_ne]; exact p1
            clear p1
            go_wp2_with fail
            refine (awake_any _).mono ?_
            rintro e w99 ⟨rfl, hb99⟩
            go_wp2
            go_ret
            exact ⟨rfl, belowA⟩
        subst p1
        have hos := order_same (a := b) (b := b2) (r := r) (s := r2) (by rw [HP.out]) (by rw [HQ.out]) HMM.out
        rw [HP.out, HQ.out] at hos
        obtain ⟨ho1, ho2⟩ := hos
        simp only at ho1 ho2
        subst ho1
        have HC := Lib.hid ho2
        have HFV := Lib.hid (chkP_fits ho2)
        clear ho2
        go_wp2_with fail
        refine (psame_any VP _ _ _ _ _ (HBp4.out.below' (L4_7)) (HKp4.out.below' (L4_7)) (HBq6.out.below' (L6_7)) (HKq6.out.below' (L6_7)) HFV.out.2).mono ?_
        rintro e w8 ⟨rfl, hb8⟩
        have B8 : Below w.heap.size w w8 := btrans0 B7 hb8
        have y8 : w7.heap.size ≤ w8.heap.size := by have := hb8.size; (try simp at this); omega
        have L3_8 : Below w3.heap.size w3 w8 := btrans0 L3_7 hb8
        have L4_8 : Below w4.heap.size w4 w8 := btrans0 L4_7 hb8
        have L6_8 : Below w6.heap.size w6 w8 := btrans0 L6_7 hb8
        have Xp8 : Hid (w8.heap[w4.heap.size]? = some (.cells (parC VP (.slice ap VP.head.blocks.length np) (.slice kap VP.known.length knp)).toArray 31 (0, 0))) := Lib.hid ((hb8.block _ (by first | omega | (simp; omega))).trans (Xp7.out))
        have zp8 : w4.heap.size < w8.heap.size := by omega
        have Xq8 : Hid (w8.heap[w6.heap.size]? = some (.cells (parC VP (.slice aq VP.head.blocks.length nq) (.slice kaq VP.known.length knq)).toArray 31 (0, 0))) := Lib.hid ((hb8.block _ (by first | omega | (simp; omega))).trans (Xq7.out))
        have zq8 : w6.heap.size < w8.heap.size := by omega
        clear cp cq
        clear hb8
        have cp := fun o => cellB Xp8.out o
        have cq := fun o => cellB Xq8.out o
        simp only [bunC, parC, zBun, zPar, spC, List.cons_append, List.nil_append, List.length_nil] at cp cq
        go_wp2_with fail
        refine (chkP_any VP _ _ _ (HBp4.out.below' (L4_8)) (HKp4.out.below' (L4_8)) HFV.out.1 HFV.out.2).mono ?_
        rw [HC.out]
        rintro e w9 ⟨rfl, hb9⟩
        have B9 : Below w.heap.size w w9 := btrans0 B8 hb9
        have y9 : w8.heap.size ≤ w9.heap.size := by have := hb9.size; (try simp at this); omega
        have L3_9 : Below w3.heap.size w3 w9 := btrans0 L3_8 hb9
        have L4_9 : Below w4.heap.size w4 w9 := btrans0 L4_8 hb9
        have L6_9 : Below w6.heap.size w6 w9 := btrans0 L6_8 hb9
        have Xp9 : Hid (w9.heap[w4.heap.size]? = some (.cells (parC VP (.slice ap VP.head.blocks.length np) (.slice kap VP.known.length knp)).toArray 31 (0, 0))) := Lib.hid ((hb9.block _ (by first | omega | (simp; omega))).trans (Xp8.out))
        have zp9 : w4.heap.size < w9.heap.size := by omega
        have Xq9 : Hid (w9.heap[w6.heap.size]? = some (.cells (parC VP (.slice aq VP.head.blocks.length nq) (.slice kaq VP.known.length knq)).toArray 31 (0, 0))) := Lib.hid ((hb9.block _ (by first | omega | (simp; omega))).trans (Xq8.out))
        have zq9 : w6.heap.size < w9.heap.size := by omega
        clear cp cq
        clear hb9
        have cp := fun o => cellB Xp9.out o
        have cq := fun o => cellB Xq9.out o
        simp only [bunC, parC, zBun, zPar, spC, List.cons_append, List.nil_append, List.length_nil] at cp cq
        go_wp2_with fail
        refine (awake_any _).mono ?_
        rintro e w99 ⟨rfl, hb99⟩
        go_wp2
        go_ret
        exact ⟨rfl, belowA⟩

set_option maxRecDepth 100000 in
theorem lifted (os : Os) (started : os.Started) (H : Type) (enc : TypeId × Value → H) :
    ReturnsInHanded {} Try.checked os 5 .any (Rows.reassemblyOrderSpec.pre6 enc Try.prog Try.f5 Rows.reassemblyOrderRow.domain false) (Rows.reassemblyOrderSpec.post enc Try.prog Try.f5 false true false false) := by
  refine returnsInHanded_of_change (C := Try.checked) own started (by kernel_rfl) Try.func5
    (ChangeSpec.witness6 (enc := enc) (C := Try.checked) false ⟨#[], #[.slice none 0 0, .slice none 0 0], []⟩ 8 (by kernel_rfl) (by kernel_rfl) (by kernel_rfl) (by kernel_rfl)) ?_
  intro W base args ds gs before hval0 hW hcnd _
  have hval : ∀ (j : Nat) t v, Try.f5.params[j]? = some t → args[j]? = some v → Value.okWide Try.prog W .any base t v := hval0
  have hW' := hW
  obtain ⟨p, q, hA0, hV, rfl, hfz, hnd⟩ := hW
  have hA : DataW.TrodAll enc Try.prog W 0 (fun _ => true) true Try.f5.params.toList args.toList ds p := hA0
  rw [Try.params5] at hA hval
  obtain ⟨v0, vs0, d0, ds0, p0, q0, hargs, rfl, rfl, h0, r0⟩ := trodAll_cons hA
  obtain ⟨v1, vs1, d1, ds1, p1, q1, rfl, rfl, rfl, h1, r1⟩ := trodAll_cons r0
  obtain ⟨rfl, rfl, rfl⟩ := trodAll_nil r1
  obtain rfl : args = #[v0, v1] := by cases args; simp_all
  obtain ⟨x0, hr0, hf0⟩ := open_buns_arg (hval 0 50 v0 rfl rfl) h0
  obtain ⟨x1, hr1, hb1⟩ := open_u8s_arg (hval 1 53 v1 rfl rfl) h1
  refine (walk x0 v0 x1 v1 W hr0 hf0 hr1 hb1).mono fun e W' ⟨he, hB⟩ => ?_
  subst he
  refine ⟨_, rfl, law_post (by kernel_rfl) (by kernel_rfl) rfl Try.underlying4 rfl ?_ hW' hB⟩
  intro es hes
  match es, hes with
  | [_, _], _ => rfl

theorem proved : Rows.ReassemblyOrderSaid :=
  OpenClaim.holds_of_wide 5 Try.f5 rfl rfl rfl rfl rfl rfl rfl ⟨rfl, rfl, rfl, rfl, rfl⟩ rfl rfl rfl rfl rfl (by kernel_rfl) Try.func5 (by kernel_rfl)
    (of_decide_eq_true (by kernel_rfl)) (by unfold Func.isWrapper; first | (rw [if_pos (by decide +kernel)]; kernel_rfl) | (rw [if_neg (by decide +kernel)]; exact ⟨rfl, rfl⟩))
    (fun os started H enc _ => lifted os started H enc)
#print axioms proved
end Go.Proofs.Ytpnfkmlgelcbgaa.reassemblyOrder
