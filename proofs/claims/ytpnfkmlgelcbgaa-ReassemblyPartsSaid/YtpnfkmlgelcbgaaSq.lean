/- Chapter 18: the reference: Check. -/
import Derived.BigQuiet
import Derived.BigRegion
import Derived.Deep.DeepCutAuto
import Derived.Deep.CutBlock
import Derived.Test.YtpnfkmlgelcbgaaSp
set_option linter.unusedVariables false
set_option linter.unusedSimpArgs false
namespace Go.Proofs.Ytpnfkmlgelcbgaa
open Go Go.RowKit Iv
attribute [local go_sem] Oper.semAt_some
attribute [local go_sem] B_getElem B_size B_app B_extract B_get B_toList
set_option maxRecDepth 100000 in
set_option maxHeartbeats 32000000 in
theorem rchkP_any (p : Par) (ub uk : Value) (w : World) (h : RBlks w w.heap.size ub p.head.blocks) (k : RSps w w.heap.size uk p.known) (hf : Fits p.head) (hd : p.data.length ≤ maxLen) :
    Calls Try.prog 23 #[.agg (parC p ub uk).toArray] w fun e w' => e = .returned (.int .i64 (chkP p)) ∧ Below w.heap.size w w' := by
  obtain ⟨b, kn, dt⟩ := p
  simp only at h k hf hd
  unfold maxLen at hd
  obtain ⟨a, c, rfl, _⟩ := id h
  obtain ⟨ka, kc, rfl, kh1, kh2, kh3, kh4⟩ := id k
  unfold maxLen at kh2
  have HR := Lib.hid h
  have HK := Lib.hid k
  have HF := Lib.hid hf
  have K4 := Lib.hid kh4
  clear h k hf kh3 kh4
  obtain ⟨V, hV⟩ : ∃ q, chkP ⟨b, kn, dt⟩ = q := ⟨_, rfl⟩
  have HVV := Lib.hid hV
  rw [hV]
  clear hV
  obtain ⟨E, hE⟩ : ∃ q, chkE b = q := ⟨_, rfl⟩
  have HE := Lib.hid hE
  go_enter Try.func23, Try.ntmps23
  simp only [parC, bunC, List.cons_append, List.nil_append]
  go_wp2_with fail
  refine (rcheck_any b _ _ (HR.out.below (C := w.heap.size) (by exact belowA) (Nat.le_refl _) (by simp)) HF.out).mono ?_
  rw [HE.out]
  rintro e w1 ⟨rfl, hb1⟩
  have bw1 : Below w.heap.size w w1 := btrans0 (by exact belowA) hb1
  have zw1 : w.heap.size < w1.heap.size := by have := hb1.size; (try simp at this); omega
  have Pw1 : Hid (w1.heap[w.heap.size]? = some (.cells #[.int .i64 b.src, .int .i64 b.crt, .int .i64 b.seq, .int .i64 b.off, .int .i64 b.tot, .int .i64 b.dk, .int .i64 b.dn, .int .i64 b.life, .int .i64 b.prio, .int .i64 b.flags, .slice a b.blocks.length c, .string (B b.payload), .slice ka kn.length kc, .string (B dt)] 31 (0, 0))) := Lib.hid ((hb1.block _ (by simp)).trans heap_new)
  have cp := fun o => cellB Pw1.out o
  clear hb1
  by_cases z : E = 0
  case neg =>
    have HV : Hid (V = 1) := Lib.hid (by rw [← HVV.out]; exact chkP_1 (.inl (by rw [hE]; exact z)))
    have z' : (E != 0) = true := by rw [bne_iff_ne]; exact z
    clear hE z
    go_wp2
    go_ret
    rw [HV.out]
    exact ⟨rfl, belowA⟩
  subst z
  have hv := valid_facts hE
  have bw2 := bw1
  have zw2 := zw1
  have Pw2 := Pw1
  by_cases t : 0 < b.tot
  · have HV : Hid (V = 1) := Lib.hid (by rw [← HVV.out]; exact chkP_1 (.inr (.inl t)))
    have t' : decide (b.tot > 0) = true := decide_eq_true t
    clear hv hE t
    go_wp2
    go_ret
    rw [HV.out]
    exact ⟨rfl, belowA⟩
  have t' : decide (b.tot > 0) = false := decide_eq_false t
  by_cases hp : b.payload = []
  case neg =>
    have HV : Hid (V = 1) := Lib.hid (by rw [← HVV.out]; exact chkP_1 (.inr (.inr (.inl hp))))
    obtain ⟨y, r, hy⟩ := List.exists_cons_of_ne_nil hp
    have n1 : ((y :: r) == ([] : List UInt8)) = false := rfl
    have n2 : (!((y :: r) == ([] : List UInt8))) = true := rfl
    have n3 : ¬ (y :: r) = ([] : List UInt8) := fun e => by cases e
    rw [hy] at cp ⊢
    clear hv hE t hp hy
    go_wp2
    go_ret
    rw [HV.out]
    exact ⟨rfl, belowA⟩
  by_cases hf2 : hasF b.flags 2 = true
  · have HV : Hid (V = 1) := Lib.hid (by rw [← HVV.out]; exact chkP_1 (.inr (.inr (.inr hf2))))
    have hwf : wrap64 (b.flags.tdiv 2) = b.flags.tdiv 2 := by have f1 := hv.2.2.2.2.2.1; have f2 := hv.2.2.2.2.2.2.1; rw [Int.tdiv_eq_ediv_of_nonneg f1]; unfold wrap64; omega
    have haf := (hasF2_rem hv.2.2.2.2.2.1 hv.2.2.2.2.2.2.1).1
    have haf2 := (hasF2_rem hv.2.2.2.2.2.1 hv.2.2.2.2.2.2.1).2
    rw [hf2] at haf haf2
    rw [hp] at cp ⊢
    clear hv hE t hp hf2
    go_wp2
    go_ret
    rw [HV.out]
    exact ⟨rfl, belowA⟩
  have hwf : wrap64 (b.flags.tdiv 2) = b.flags.tdiv 2 := by have f1 := hv.2.2.2.2.2.1; have f2 := hv.2.2.2.2.2.2.1; rw [Int.tdiv_eq_ediv_of_nonneg f1]; unfold wrap64; omega
  have haf := (hasF2_rem hv.2.2.2.2.2.1 hv.2.2.2.2.2.2.1).1
  have haf2 := (hasF2_rem hv.2.2.2.2.2.1 hv.2.2.2.2.2.2.1).2
  have hf3 : hasF b.flags 2 = false := by simpa using hf2
  rw [hf3] at haf haf2
  have HN1 : Hid (¬ (chkE b ≠ 0 ∨ 0 < b.tot ∨ b.payload ≠ [] ∨ hasF b.flags 2 = true)) := Lib.hid (by rintro (h | h | h | h); exact h hE; exact t h; exact h hp; exact hf2 h)
  have HB0 := Lib.hid (show 0 ≤ b.flags ∧ b.flags ≤ 127 ∧ b.blocks.length ≤ 8 from ⟨hv.2.2.2.2.2.1, hv.2.2.2.2.2.2.1, hv.2.2.2.2.2.2.2.1⟩)
  have HBF := Lib.hid (valid_blocks hE)
  rw [hp] at cp ⊢
  clear hv hE t hf2 hf3
  by_cases l1 : dt.length < 1
  · have HV : Hid (V = 4) := Lib.hid (by rw [← HVV.out]; exact chkP_2 HN1.out (.inl l1))
    have d1 : decide ((dt.length : Int) < 1) = true := decide_eq_true (by omega)
    clear l1
    go_wp2
    go_ret
    rw [HV.out]
    exact ⟨rfl, belowA⟩
  have d1 : decide ((dt.length : Int) < 1) = false := decide_eq_false (by omega)
  by_cases l2 : 4096 < dt.length
  · have HV : Hid (V = 4) := Lib.hid (by rw [← HVV.out]; exact chkP_2 HN1.out (.inr l2))
    have d2 : decide ((dt.length : Int) > 4096) = true := decide_eq_true (by omega)
    clear l2
    go_wp2
    go_ret
    rw [HV.out]
    exact ⟨rfl, belowA⟩
  have d2 : decide ((dt.length : Int) > 4096) = false := decide_eq_false (by omega)
  have HN2 : Hid (¬ (dt.length < 1 ∨ 4096 < dt.length)) := Lib.hid (by omega)
  obtain ⟨E3, hE3⟩ : ∃ q, chkSp kn = q := ⟨_, rfl⟩
  have HE3 := Lib.hid hE3
  go_wp2_with fail
  refine (rchkSp_any kn _ _ (HK.out.below bw2 (Nat.le_refl _) (by omega))).mono ?_
  rw [HE3.out]
  rintro e w3 ⟨rfl, hb3⟩
  have bw3 : Below w.heap.size w w3 := btrans0 bw2 hb3
  have zw3 : w.heap.size < w3.heap.size := by have := hb3.size; (try simp at this); omega
  have Pw3 : Hid (w3.heap[w.heap.size]? = some (.cells #[.int .i64 b.src, .int .i64 b.crt, .int .i64 b.seq, .int .i64 b.off, .int .i64 b.tot, .int .i64 b.dk, .int .i64 b.dn, .int .i64 b.life, .int .i64 b.prio, .int .i64 b.flags, .slice a b.blocks.length c, .string (B b.payload), .slice ka kn.length kc, .string (B dt)] 31 (0, 0))) := Lib.hid ((hb3.block _ zw2).trans Pw2.out)
  clear cp
  have cp := fun o => cellB Pw3.out o
  clear hb3
  by_cases z3 : E3 = 0
  case neg =>
    have HV : Hid (V = E3) := Lib.hid (by rw [← HVV.out, ← hE3]; exact chkP_3 HN1.out HN2.out (by rw [hE3]; exact z3))
    have z3' : (E3 != 0) = true := by rw [bne_iff_ne]; exact z3
    clear hE3 z3
    go_wp2
    go_ret
    rw [HV.out]
    exact ⟨rfl, belowA⟩
  subst z3
  have HN3 : Hid (¬ chkSp kn ≠ 0) := Lib.hid (by rw [hE3]; simp)
  have HNF := Lib.hid (chkSp_zero hE3)
  have hkl := (chkSp_zero hE3).1
  clear hE3
  by_cases l0 : kn.length = 0
  · have : kn = [] := List.eq_nil_of_length_eq_zero l0
    subst this
    have HV : Hid (V = 2) := Lib.hid (by rw [← HVV.out]; exact chkP_4 HN1.out HN2.out HN3.out rfl)
    simp only [List.length_nil] at *
    clear l0
    go_upto_region 9 with fail
    go_quiet (fail)
    go_wp2
    go_ret
    rw [HV.out]
    exact ⟨rfl, belowA⟩
  obtain ⟨kb, ko, rfl, hkb, hkc⟩ := K4.out (by omega)
  obtain ⟨x0, hx0⟩ : ∃ x, kn[0]? = some x := ⟨_, List.getElem?_eq_getElem (by omega)⟩
  obtain ⟨xl, hxl⟩ : ∃ x, kn[kn.length - 1]? = some x := ⟨_, List.getElem?_eq_getElem (by omega)⟩
  have HX0 := Lib.hid hx0
  have q0 : w3.cell? ⟨kb, ko, none⟩ = some (.int .i64 x0.1) := by have := (bw3.cell (p := ⟨kb, ko + 0 * 2, none⟩) hkb).trans (sp0 hkc hx0); simpa using this
  have q1 : w3.cell? ⟨kb, ko + (kn.length - 1) * 2 + 1, none⟩ = some (.int .i64 xl.2) := (bw3.cell (p := ⟨kb, ko + (kn.length - 1) * 2 + 1, none⟩) hkb).trans (sp1 hkc hxl)
  have HRG := Lib.hid (rng_at (n := dt.length) hx0 hxl)
  have HFR := Lib.hid (from_at hx0)
  have HKC := Lib.hid hkc
  have dl0 : ((kn.length : Int) == 0) = false := by rw [beq_eq_false_iff_ne]; omega
  have wl1 : IntKind.i64.wrap ((kn.length : Int) - 1) = (kn.length : Int) - 1 := by rw [IntKind.wrap_i64]; omega
  have n0 : (0 : Int) < (kn.length : Int) := by omega
  have n0' : 0 < kn.length := by omega
  have n1 : (0 : Int) ≤ (kn.length : Int) - 1 := by omega
  have n2 : (kn.length : Int) - 1 < (kn.length : Int) := by omega
  have n3 : ((kn.length : Int) - 1).toNat = kn.length - 1 := by omega
  clear hx0 hxl hkc l0
  by_cases r1 : x0.1 < 0
  · have HV : Hid (V = 2) := Lib.hid (by rw [← HVV.out]; exact chkP_4 HN1.out HN2.out HN3.out (by rw [HRG.out]; simp [r1]))
    have e1 : decide (x0.1 < 0) = true := decide_eq_true r1
    clear r1
    go_upto_region 9 with fail
    go_quiet (fail)
    go_wp2
    go_ret
    rw [HV.out]
    exact ⟨rfl, belowA⟩
  have e1 : decide (x0.1 < 0) = false := decide_eq_false r1
  by_cases r2 : (dt.length : Int) < xl.2
  · have HV : Hid (V = 2) := Lib.hid (by rw [← HVV.out]; exact chkP_4 HN1.out HN2.out HN3.out (by rw [HRG.out]; simp [r2]))
    have e2 : decide (xl.2 > (dt.length : Int)) = true := decide_eq_true r2
    clear r2
    go_upto_region 9 with fail
    go_quiet (fail)
    go_wp2
    go_ret
    rw [HV.out]
    exact ⟨rfl, belowA⟩
  have e2 : decide (xl.2 > (dt.length : Int)) = false := decide_eq_false r2
  have HN4 : Hid (¬ rngBad kn dt.length = true) := Lib.hid (by rw [HRG.out]; simp; omega)
  clear HRG
  go_upto_region 9 with fail
  go_quiet (fail)
  go_wp2
  go_loopw [5] (fun iv wr => ∃ i : Nat, i ≤ dt.length ∧ iv = .int .i64 i ∧ Hid (∀ j, j < i → dt.getD j 0 = 0 ∨ inS kn j = true) ∧ Hid (wr.heap[w.heap.size]? = some (.cells #[.int .i64 b.src, .int .i64 b.crt, .int .i64 b.seq, .int .i64 b.off, .int .i64 b.tot, .int .i64 b.dk, .int .i64 b.dn, .int .i64 b.life, .int .i64 b.prio, .int .i64 b.flags, .slice a b.blocks.length c, .string (B b.payload), .slice (some ⟨kb, ko, none⟩) kn.length kc, .string (B dt)] 31 (0, 0))) ∧ Below w.heap.size w wr) (fun iv _ => dt.length - (intOf iv).toNat)
  case atStart => exact ⟨0, Nat.zero_le _, rfl, Lib.hid (fun j hj => by omega), Pw3, by exact belowA⟩
  case round =>
    obtain ⟨i, hi, rfl, HOK, HBX, hB⟩ := hrel
    clear cp q0 q1
    by_cases hlt : i < dt.length
    · obtain ⟨y, hy⟩ : ∃ y, dt[i]? = some y := ⟨_, List.getElem?_eq_getElem hlt⟩
      have HY := Lib.hid hy
      have i0 : (0 : Int) ≤ (i : Int) := by omega
      have i1 : (i : Int) < (dt.length : Int) := by omega
      have HBX2 := HBX.out
      have cp := fun o => cellB HBX2 o
      have zw : w.heap.size < wr.heap.size := (Array.getElem?_eq_some_iff.1 HBX2).1
      have hyN : dt[i] = y := by rw [List.getElem?_eq_getElem hlt] at hy; exact Option.some.inj hy
      have hgd : dt.getD i 0 = y := by rw [List.getD_eq_getElem?_getD, HY.out]; rfl
      have HGD := Lib.hid hgd
      have HOKN : Hid ((y = 0 ∨ inS kn i = true) → ∀ j, j < i + 1 → dt.getD j 0 = 0 ∨ inS kn j = true) := Lib.hid (fun h j hj => by
        rcases Nat.lt_or_ge j i with z | z
        · exact HOK.out j z
        · obtain rfl : j = i := by omega
          rw [HGD.out]; exact h)
      clear hgd hy HBX2
      by_cases hy0 : dt[i].toNat = 0
      · have e0 : ((dt[i].toNat : Int) != 0) = false := by rw [hy0]; rfl
        have HY0 : Hid (y = 0) := Lib.hid (UInt8.toNat_inj.1 (by rw [← hyN, hy0]; rfl))
        clear hyN
        go_wp2
        refine ⟨⟨i + 1, by omega, by go_num, Lib.hid (HOKN.out (.inl HY0.out)), HBX, belowA⟩, by simp [intOf]; omega⟩
      · have e0 : ((dt[i].toNat : Int) != 0) = true := by rw [bne_iff_ne]; omega
        have HY0 : Hid (y ≠ 0) := Lib.hid (fun e => hy0 (by rw [hyN, e]; rfl))
        obtain ⟨I, hI⟩ : ∃ q, inS kn (i : Int) = q := ⟨_, rfl⟩
        have HI := Lib.hid hI
        have HC0 : Hid (chkSp kn = 0) := Lib.hid (by have := HN3.out; omega)
        clear hyN hI
        cases I with
        | true =>
          go_wp2_with fail
          refine (rhasSp_any kn i _ _ (HK.out.below hB (Nat.le_refl _) (by omega)) HC0.out).mono ?_
          rw [HI.out]
          rintro e w5 ⟨rfl, hb5⟩
          have HBX5 : Hid (w5.heap[w.heap.size]? = some (.cells #[.int .i64 b.src, .int .i64 b.crt, .int .i64 b.seq, .int .i64 b.off, .int .i64 b.tot, .int .i64 b.dk, .int .i64 b.dn, .int .i64 b.life, .int .i64 b.prio, .int .i64 b.flags, .slice a b.blocks.length c, .string (B b.payload), .slice (some ⟨kb, ko, none⟩) kn.length kc, .string (B dt)] 31 (0, 0))) := Lib.hid ((hb5.block _ zw).trans HBX.out)
          have hB5 := btrans0 hB hb5
          clear hb5
          go_wp2
          refine ⟨⟨i + 1, by omega, by go_num, Lib.hid (HOKN.out (.inr HI.out)), HBX5, belowA⟩, by simp [intOf]; omega⟩
        | false =>
          have HV : Hid (V = 10) := Lib.hid (by rw [← HVV.out]; exact chkP_5 HN1.out HN2.out HN3.out HN4.out (dataBad_at HY.out HY0.out HI.out))
          go_wp2_with fail
          refine (rhasSp_any kn i _ _ (HK.out.below hB (Nat.le_refl _) (by omega)) HC0.out).mono ?_
          rw [HI.out]
          rintro e w5 ⟨rfl, hb5⟩
          have hB5 := btrans0 hB hb5
          clear hb5
          go_wp2
          go_ret
          rw [HV.out]
          exact ⟨rfl, belowA⟩
    · obtain rfl : i = dt.length := by omega
      have HN5 : Hid (¬ dataBad dt kn = true) := Lib.hid (dataBad_no HOK.out)
      have HL : Hid (V = if 0 < x0.1 ∧ (copyB b.blocks).length ≠ b.blocks.length then 10 else 0) := Lib.hid (by rw [← HVV.out, chkP_6 HN1.out HN2.out HN3.out HN4.out HN5.out, HFR.out])
      have HBX2 := HBX.out
      have cp := fun o => cellB HBX2 o
      have zw : w.heap.size < wr.heap.size := (Array.getElem?_eq_some_iff.1 HBX2).1
      have q0 : wr.cell? ⟨kb, ko, none⟩ = some (.int .i64 x0.1) := by have := (hB.cell (p := ⟨kb, ko + 0 * 2, none⟩) hkb).trans (sp0 HKC.out HX0.out); simpa using this
      have zkb : kb < wr.heap.size := by omega
      have hbl : b.blocks.length ≤ 1000 := by have := HB0.out.2.2; omega
      clear HBX2
      by_cases f0 : 0 < x0.1
      · have df : decide (x0.1 > 0) = true := decide_eq_true f0
        by_cases fl : (copyB b.blocks).length = b.blocks.length
        · have HV : Hid (V = 0) := Lib.hid (by rw [HL.out, if_neg (fun h => h.2 fl)])
          have dl : (decide (((copyB b.blocks).length : Int) < (b.blocks.length : Int))) = false := decide_eq_false (by omega)
          have dn : ¬ (copyB b.blocks).length < b.blocks.length := by omega
          clear f0 fl
          go_upto_region 16 with fail
          refine wp_region_plan (fun V => Below (wr).heap.size (wr) V) [0, 1, 0, 0, 1, 0, 0, 0, 0, 1, 2, 0, 0, 0, 1, 0, 0, 0] [0, 1, 2, 3, 4, 5, 6, 7, 8, 9, 12, 13, 14, 15, 10, 11, 16, 17] (by kernel_rfl) (by kernel_rfl) ?_ ?_
          case refine_1 => exact belowA
          (iterate 14 (first | (refine plan_held rfl (by decide) (by rfl) (fun w1 hS => by (try (obtain ⟨_, _⟩ := bcell (hS rfl))); go_simp; rfl) ?_; simp only [Act.put, List.setIfInBounds_toArray, List.set_cons_zero, List.set_cons_succ]) | (refine plan_skip rfl (by decide) (by rfl) ?_; simp only [Act.put, List.setIfInBounds_toArray, List.set_cons_zero, List.set_cons_succ])))
          (refine plan_keep rfl rfl (by rfl) (fun K hK => ?_); go_simp)
          refine (rcopied_any b.blocks _ _ (HR.out.below (C := w.heap.size) (btrans0 hB belowA) (Nat.le_refl _) (Below.size (btrans0 hB belowA))) HBF.out hbl).mono ?_
          rintro e wc102 ⟨r, rfl, hr, hfr, hbc102⟩
          obtain ⟨ra, rc, rfl⟩ : ∃ ra rc, r = .slice ra (copyB b.blocks).length rc := by obtain ⟨a, c, h, _⟩ := hr; exact ⟨a, c, h⟩
          clear hr hfr
          (refine hK _ _ (by exact belowA) ?_; clear hK K; (try simp only [Act.put, List.setIfInBounds_toArray, List.set_cons_zero, List.set_cons_succ]))
          (iterate 3 (first | (refine plan_held rfl (by decide) (by rfl) (fun w1 hS => by (try (obtain ⟨_, _⟩ := bcell (hS rfl))); go_simp; rfl) ?_; simp only [Act.put, List.setIfInBounds_toArray, List.set_cons_zero, List.set_cons_succ]) | (refine plan_skip rfl (by decide) (by rfl) ?_; simp only [Act.put, List.setIfInBounds_toArray, List.set_cons_zero, List.set_cons_succ])))
          refine plan_done ?_
          go_wp2
          go_ret
          rw [HV.out]
          exact ⟨rfl, belowA⟩
        · have HV : Hid (V = 10) := Lib.hid (by rw [HL.out, if_pos ⟨f0, fl⟩])
          have dl : (decide (((copyB b.blocks).length : Int) < (b.blocks.length : Int))) = true := decide_eq_true (by have := copy_len b.blocks; omega)
          have dn : (copyB b.blocks).length < b.blocks.length := by have := copy_len b.blocks; omega
          clear f0 fl
          go_upto_region 16 with fail
          refine wp_region_plan (fun V => Below (wr).heap.size (wr) V) [0, 1, 0, 0, 1, 0, 0, 0, 0, 1, 2, 0, 0, 0, 1, 0, 0, 0] [0, 1, 2, 3, 4, 5, 6, 7, 8, 9, 12, 13, 14, 15, 10, 11, 16, 17] (by kernel_rfl) (by kernel_rfl) ?_ ?_
          case refine_1 => exact belowA
          (iterate 14 (first | (refine plan_held rfl (by decide) (by rfl) (fun w1 hS => by (try (obtain ⟨_, _⟩ := bcell (hS rfl))); go_simp; rfl) ?_; simp only [Act.put, List.setIfInBounds_toArray, List.set_cons_zero, List.set_cons_succ]) | (refine plan_skip rfl (by decide) (by rfl) ?_; simp only [Act.put, List.setIfInBounds_toArray, List.set_cons_zero, List.set_cons_succ])))
          (refine plan_keep rfl rfl (by rfl) (fun K hK => ?_); go_simp)
          refine (rcopied_any b.blocks _ _ (HR.out.below (C := w.heap.size) (btrans0 hB belowA) (Nat.le_refl _) (Below.size (btrans0 hB belowA))) HBF.out hbl).mono ?_
          rintro e wc102 ⟨r, rfl, hr, hfr, hbc102⟩
          obtain ⟨ra, rc, rfl⟩ : ∃ ra rc, r = .slice ra (copyB b.blocks).length rc := by obtain ⟨a, c, h, _⟩ := hr; exact ⟨a, c, h⟩
          clear hr hfr
          (refine hK _ _ (by exact belowA) ?_; clear hK K; (try simp only [Act.put, List.setIfInBounds_toArray, List.set_cons_zero, List.set_cons_succ]))
          (iterate 3 (first | (refine plan_held rfl (by decide) (by rfl) (fun w1 hS => by (try (obtain ⟨_, _⟩ := bcell (hS rfl))); go_simp; rfl) ?_; simp only [Act.put, List.setIfInBounds_toArray, List.set_cons_zero, List.set_cons_succ]) | (refine plan_skip rfl (by decide) (by rfl) ?_; simp only [Act.put, List.setIfInBounds_toArray, List.set_cons_zero, List.set_cons_succ])))
          refine plan_done ?_
          go_wp2
          go_ret
          rw [HV.out]
          exact ⟨rfl, belowA⟩
      · have df : decide (x0.1 > 0) = false := decide_eq_false f0
        have HV : Hid (V = 0) := Lib.hid (by rw [HL.out, if_neg (fun h => f0 h.1)])
        clear f0
        go_upto_region 16 with fail
        refine wp_region_plan (fun V => Below (wr).heap.size (wr) V) [0, 1, 0, 0, 1, 0, 0, 0, 0, 1, 2, 0, 0, 0, 1, 0, 0, 0] [0, 1, 2, 3, 4, 5, 6, 7, 8, 9, 12, 13, 14, 15, 10, 11, 16, 17] (by kernel_rfl) (by kernel_rfl) ?_ ?_
        case refine_1 => exact belowA
        (iterate 14 (first | (refine plan_held rfl (by decide) (by rfl) (fun w1 hS => by (try (obtain ⟨_, _⟩ := bcell (hS rfl))); go_simp; rfl) ?_; simp only [Act.put, List.setIfInBounds_toArray, List.set_cons_zero, List.set_cons_succ]) | (refine plan_skip rfl (by decide) (by rfl) ?_; simp only [Act.put, List.setIfInBounds_toArray, List.set_cons_zero, List.set_cons_succ])))
        (refine plan_skipK rfl (by decide) (by rfl) belowA ?_; simp only [Act.put, List.setIfInBounds_toArray, List.set_cons_zero, List.set_cons_succ])
        (iterate 3 (first | (refine plan_held rfl (by decide) (by rfl) (fun w1 hS => by (try (obtain ⟨_, _⟩ := bcell (hS rfl))); go_simp; rfl) ?_; simp only [Act.put, List.setIfInBounds_toArray, List.set_cons_zero, List.set_cons_succ]) | (refine plan_skip rfl (by decide) (by rfl) ?_; simp only [Act.put, List.setIfInBounds_toArray, List.set_cons_zero, List.set_cons_succ])))
        refine plan_done ?_
        go_wp2
        go_ret
        rw [HV.out]
        exact ⟨rfl, belowA⟩
end Go.Proofs.Ytpnfkmlgelcbgaa
