/- Chapter 18: the reference: Missing, Result. -/
import Derived.BigQuiet
import Derived.BigRegion
import Derived.Deep.DeepCutAuto
import Derived.Deep.CutBlock
import Derived.Test.YtpnfkmlgelcbgaaUa
import Derived.Test.YtpnfkmlgelcbgaaUc
import Derived.Test.YtpnfkmlgelcbgaaSq
set_option linter.unusedVariables false
set_option linter.unusedSimpArgs false
namespace Go.Proofs.Ytpnfkmlgelcbgaa
open Go Go.RowKit Iv
attribute [local go_sem] Oper.semAt_some
attribute [local go_sem] B_getElem B_size B_app B_extract B_get B_toList
set_option maxRecDepth 100000 in
set_option maxHeartbeats 32000000 in
theorem rmiss_any (p : Par) (ub uk : Value) (w : World) (h : RBlks w w.heap.size ub p.head.blocks) (k : RSps w w.heap.size uk p.known) (hf : Fits p.head) (hd : p.data.length ≤ maxLen) :
    Calls Try.prog 18 #[.agg (parC p ub uk).toArray] w (SpsPost (missP p) w) := by
  obtain ⟨b, kn, dt⟩ := p
  simp only at h k hf hd
  obtain ⟨a, c, rfl, _⟩ := id h
  obtain ⟨ka, kc, rfl, kh1, kh2, kh3, kh4⟩ := id k
  have HR := Lib.hid h
  have HK := Lib.hid k
  have HF := Lib.hid hf
  have HD := Lib.hid hd
  have K4 := Lib.hid kh4
  unfold maxLen at hd
  clear h k hf kh3 kh4
  obtain ⟨V, hV⟩ : ∃ q, missP ⟨b, kn, dt⟩ = q := ⟨_, rfl⟩
  have HVV := Lib.hid hV
  rw [hV]
  clear hV
  obtain ⟨E, hE⟩ : ∃ q, chkP ⟨b, kn, dt⟩ = q := ⟨_, rfl⟩
  have HE := Lib.hid hE
  go_enter Try.func18, Try.ntmps18
  simp only [parC, bunC, List.cons_append, List.nil_append]
  go_wp2_with fail
  refine (rchkP_any ⟨b, kn, dt⟩ _ _ _ (HR.out.below (C := w.heap.size) (by exact belowA) (Nat.le_refl _) (by simp <;> omega)) (HK.out.below (C := w.heap.size) (by exact belowA) (Nat.le_refl _) (by simp <;> omega)) HF.out HD.out).mono ?_
  rw [HE.out]
  rintro e w1 ⟨rfl, hb⟩
  have b1 : Below w.heap.size w w1 := btrans0 (by exact belowA) hb
  have z1 : w.heap.size < w1.heap.size := by have := hb.size; simp at this; omega
  have P1 : Hid (w1.heap[w.heap.size]? = some (.cells #[.int .i64 b.src, .int .i64 b.crt, .int .i64 b.seq, .int .i64 b.off, .int .i64 b.tot, .int .i64 b.dk, .int .i64 b.dn, .int .i64 b.life, .int .i64 b.prio, .int .i64 b.flags, .slice a b.blocks.length c, .string (B b.payload), .slice ka kn.length kc, .string (B dt)] 31 (0, 0))) := Lib.hid ((hb.block _ (by simp)).trans heap_new)
  have cp := fun o => cellB P1.out o
  clear hb
  by_cases z : E = 0
  case neg =>
    have HV : Hid (V = ([], 1)) := Lib.hid (by rw [← HVV.out]; exact missP_1 (by rw [HE.out]; exact z))
    have z' : (E != 0) = true := by rw [bne_iff_ne]; exact z
    clear hE z
    go_wp2
    go_ret2
    rw [HV.out]
    exact ⟨_, rfl, RSps.empty (by simp) (by unfold maxLen; omega), belowA⟩
  subst z
  have hs := missP_sub hE
  have HKC := Lib.hid hs.1
  have HX : Hid (chkSp [(0, (dt.length : Int))] = 0) := Lib.hid hs.2.1
  obtain ⟨L, hL⟩ : ∃ q, both [(0, (dt.length : Int))] (outs 1152921504606846976 (-1152921504606846976) kn) = q := ⟨_, rfl⟩
  have HM : Hid (minS [(0, (dt.length : Int))] kn = limS L) := Lib.hid (by unfold minS; rw [hL])
  have HV0 : Hid (V = limS L) := Lib.hid (by rw [← HVV.out, ← HM.out]; exact missP_2 hE)
  clear hs hL hE
  go_wp2_with fail
  refine (rminus_any [(0, (dt.length : Int))] kn _ _ _ (RSps.one (t := 47) (f := (0, 0)) (by exact heap_new) rfl) (HK.out.below (C := w.heap.size) (by exact belowA) (Nat.le_refl _) (by simp <;> omega)) HX.out HKC.out).mono ?_
  rw [HM.out]
  rintro e w2 ⟨r, rfl, hr, hb⟩
  obtain ⟨ra, rc, rfl⟩ : ∃ ra rc, r = .slice ra (limS L).1.length rc := by obtain ⟨a, c, h, _⟩ := hr; exact ⟨a, c, h⟩
  have b2 : Below w.heap.size w w2 := btrans0 (by exact belowA) hb
  have R2 := Lib.hid hr
  clear hr hb cp
  go_wp2
  go_ret2
  rw [HV0.out]
  exact ⟨_, rfl, R2.out, belowA⟩
set_option maxRecDepth 100000 in
set_option maxHeartbeats 32000000 in
theorem rres_any (p : Par) (ub uk : Value) (N : Nat) (w : World) (hN : N ≤ w.heap.size) (h : RBlks w N ub p.head.blocks) (k : RSps w w.heap.size uk p.known) (hf : Fits p.head) (hd : p.data.length ≤ maxLen) :
    Calls Try.prog 20 #[.agg (parC p ub uk).toArray] w (ResPost N ub (resP p) w) := by
  obtain ⟨b, kn, dt⟩ := p
  simp only at h k hf hd
  obtain ⟨a, c, rfl, _⟩ := id h
  obtain ⟨ka, kc, rfl, kh1, kh2, kh3, kh4⟩ := id k
  have HRN := Lib.hid h
  have HR := Lib.hid (RBlks.wide h hN)
  have HK := Lib.hid k
  have HF := Lib.hid hf
  have HD := Lib.hid hd
  have K4 := Lib.hid kh4
  unfold maxLen at hd
  clear h k hf kh3 kh4
  obtain ⟨V, hV⟩ : ∃ q, resP ⟨b, kn, dt⟩ = q := ⟨_, rfl⟩
  have HVV := Lib.hid hV
  rw [hV]
  clear hV
  obtain ⟨E, hE⟩ : ∃ q, chkP ⟨b, kn, dt⟩ = q := ⟨_, rfl⟩
  have HE := Lib.hid hE
  go_enter Try.func20, Try.ntmps20
  simp only [parC, bunC, List.cons_append, List.nil_append]
  go_wp2_with fail
  refine (rchkP_any ⟨b, kn, dt⟩ _ _ _ (HR.out.below (C := w.heap.size) (by exact belowA) (Nat.le_refl _) (by simp <;> omega)) (HK.out.below (C := w.heap.size) (by exact belowA) (Nat.le_refl _) (by simp <;> omega)) HF.out HD.out).mono ?_
  rw [HE.out]
  rintro e w1 ⟨rfl, hb⟩
  have b1 : Below w.heap.size w w1 := btrans0 (by exact belowA) hb
  have z1 : w.heap.size + 1 < w1.heap.size := by have := hb.size; simp at this; omega
  have P1 : Hid (w1.heap[w.heap.size]? = some (.cells #[.int .i64 b.src, .int .i64 b.crt, .int .i64 b.seq, .int .i64 b.off, .int .i64 b.tot, .int .i64 b.dk, .int .i64 b.dn, .int .i64 b.life, .int .i64 b.prio, .int .i64 b.flags, .slice a b.blocks.length c, .string (B b.payload), .slice ka kn.length kc, .string (B dt)] 31 (0, 0))) := Lib.hid ((hb.block _ (by simp; omega)).trans ((Below.heap_alloc _ _ _ (by simp)).trans heap_new))
  have R1 : Hid (w1.heap[w.heap.size + 1]? = some (.cells #[.int .i64 0, .int .i64 0, .int .i64 0, .int .i64 0, .int .i64 0, .int .i64 0, .int .i64 0, .int .i64 0, .int .i64 0, .int .i64 0, .slice none 0 0, .string ⟨#[]⟩] 28 (0, 0))) := Lib.hid ((hb.block _ (by simp)).trans (heap_new' (by simp)))
  have y1 : w.heap.size < w1.heap.size := by omega
  have cp := fun o => cellB P1.out o
  have cr := fun o => cellB R1.out o
  have fr := fun o => frozenB R1.out o
  clear hb
  by_cases z : E = 0
  case neg =>
    have HV : Hid (V = (zBun, 1)) := Lib.hid (by rw [← HVV.out]; exact resP_1 (by rw [HE.out]; exact z))
    have z' : (E != 0) = true := by rw [bne_iff_ne]; exact z
    clear hE z
    go_wp2
    refine bodyPost_ret (v := .tuple #[.agg #[.int .i64 0, .int .i64 0, .int .i64 0, .int .i64 0, .int .i64 0, .int .i64 0, .int .i64 0, .int .i64 0, .int .i64 0, .int .i64 0, .slice none 0 0, .string ⟨#[]⟩], .int .i64 1]) (by simp [results, Try.results20, go_sem, World.cell?_setCell_same', cr, z1]) rfl ?_
    rw [HV.out]
    exact ⟨_, rfl, .inl rfl, RBlks.nil _ _, belowA⟩
  subst z
  have hf := chkP_full hE
  have HKC : Hid (chkSp kn = 0) := Lib.hid hf.2.2.1
  obtain ⟨hle, hlt⟩ := tot_iff (n := (dt.length : Int)) hf.2.2.2.1 (chkSp_zero hf.2.2.1).2.1
  have HLT := Lib.hid hlt
  clear hf hle hlt hE
  by_cases s : totS kn < (dt.length : Int)
  · have HV : Hid (V = (zBun, 25)) := Lib.hid (by rw [← HVV.out]; exact resP_2 HE.out (HLT.out.1 s))
    have s1 : decide (totS kn < (dt.length : Int)) = true := decide_eq_true s
    clear s
    go_upto_region 3 with fail
    refine wp_region_plan (fun V => Below (w1).heap.size (w1) V) [0, 1, 2, 0, 1, 0, 0] [0, 1, 3, 4, 5, 2, 6] (by kernel_rfl) (by kernel_rfl) ?_ ?_
    case refine_1 => exact belowA
    (iterate 5 (first | (refine plan_held rfl (by decide) (by rfl) (fun w1 hS => by (try (obtain ⟨_, _⟩ := bcell (hS rfl))); go_simp; rfl) ?_; simp only [Act.put, List.setIfInBounds_toArray, List.set_cons_zero, List.set_cons_succ]) | (refine plan_skip rfl (by decide) (by rfl) ?_; simp only [Act.put, List.setIfInBounds_toArray, List.set_cons_zero, List.set_cons_succ])))
    (refine plan_keep rfl rfl (by rfl) (fun K hK => ?_); go_simp)
    refine (rtot_any kn _ _ (HK.out.below (C := w.heap.size) (btrans0 b1 belowA) (Nat.le_refl _) (Below.size (btrans0 b1 belowA))) HKC.out).mono ?_
    rintro e wc11 ⟨rfl, hbc11⟩
    (refine hK _ _ (by exact belowA) ?_; clear hK K; (try simp only [Act.put, List.setIfInBounds_toArray, List.set_cons_zero, List.set_cons_succ]))
    (iterate 1 (first | (refine plan_held rfl (by decide) (by rfl) (fun w1 hS => by (try (obtain ⟨_, _⟩ := bcell (hS rfl))); go_simp; rfl) ?_; simp only [Act.put, List.setIfInBounds_toArray, List.set_cons_zero, List.set_cons_succ]) | (refine plan_skip rfl (by decide) (by rfl) ?_; simp only [Act.put, List.setIfInBounds_toArray, List.set_cons_zero, List.set_cons_succ])))
    refine plan_done ?_
    have hbw : Below w1.heap.size w1 wc11 := by exact belowA
    have zwc11 : w.heap.size + 1 < wc11.heap.size := by have := hbw.size; omega
    have P9 := Lib.hid ((hbw.block _ y1).trans P1.out)
    have R9 := Lib.hid ((hbw.block _ z1).trans R1.out)
    have b9 : Below w.heap.size w wc11 := btrans0 b1 hbw
    clear hbw cp cr fr
    have cq := fun o => cellB R9.out o
    have fq := fun o => frozenB R9.out o
    go_wp2
    refine bodyPost_ret (v := .tuple #[.agg #[.int .i64 0, .int .i64 0, .int .i64 0, .int .i64 0, .int .i64 0, .int .i64 0, .int .i64 0, .int .i64 0, .int .i64 0, .int .i64 0, .slice none 0 0, .string ⟨#[]⟩], .int .i64 25]) (by simp [results, Try.results20, go_sem, World.cell?_setCell_same', cq, zwc11]) rfl ?_
    rw [HV.out]
    exact ⟨_, rfl, .inl rfl, RBlks.nil _ _, belowA⟩
  have HS : Hid (kn.length = 1 ∧ kn[0]? = some (0, (dt.length : Int))) := Lib.hid (Classical.not_not.1 (fun h => s (HLT.out.2 h)))
  have s1 : decide (totS kn < (dt.length : Int)) = false := decide_eq_false s
  clear s
  have HV : Hid (V = (⟨b.src, b.crt, b.seq, b.off, b.tot, b.dk, b.dn, b.life, b.prio, b.flags, b.blocks, dt⟩, 0)) := Lib.hid (by rw [← HVV.out]; exact resP_3 HE.out HS.out)

  go_upto_region 3 with fail
  refine wp_region_plan (fun V => Below (w1).heap.size (w1) V) [0, 1, 2, 0, 1, 0, 0] [0, 1, 3, 4, 5, 2, 6] (by kernel_rfl) (by kernel_rfl) ?_ ?_
  case refine_1 => exact belowA
  (iterate 5 (first | (refine plan_held rfl (by decide) (by rfl) (fun w1 hS => by (try (obtain ⟨_, _⟩ := bcell (hS rfl))); go_simp; rfl) ?_; simp only [Act.put, List.setIfInBounds_toArray, List.set_cons_zero, List.set_cons_succ]) | (refine plan_skip rfl (by decide) (by rfl) ?_; simp only [Act.put, List.setIfInBounds_toArray, List.set_cons_zero, List.set_cons_succ])))
  (refine plan_keep rfl rfl (by rfl) (fun K hK => ?_); go_simp)
  refine (rtot_any kn _ _ (HK.out.below (C := w.heap.size) (btrans0 b1 belowA) (Nat.le_refl _) (Below.size (btrans0 b1 belowA))) HKC.out).mono ?_
  rintro e wc11 ⟨rfl, hbc11⟩
  (refine hK _ _ (by exact belowA) ?_; clear hK K; (try simp only [Act.put, List.setIfInBounds_toArray, List.set_cons_zero, List.set_cons_succ]))
  (iterate 1 (first | (refine plan_held rfl (by decide) (by rfl) (fun w1 hS => by (try (obtain ⟨_, _⟩ := bcell (hS rfl))); go_simp; rfl) ?_; simp only [Act.put, List.setIfInBounds_toArray, List.set_cons_zero, List.set_cons_succ]) | (refine plan_skip rfl (by decide) (by rfl) ?_; simp only [Act.put, List.setIfInBounds_toArray, List.set_cons_zero, List.set_cons_succ])))
  refine plan_done ?_
  have hbw : Below w1.heap.size w1 wc11 := by exact belowA
  have zwc11 : w.heap.size + 1 < wc11.heap.size := by have := hbw.size; omega
  have P9 := Lib.hid ((hbw.block _ y1).trans P1.out)
  have R9 := Lib.hid ((hbw.block _ z1).trans R1.out)
  have b9 : Below w.heap.size w wc11 := btrans0 b1 hbw
  clear hbw cp cr fr
  have cq := fun o => cellB R9.out o
  have fq := fun o => frozenB R9.out o
  go_upto_region 5 with fail
  obtain ⟨w2, hw2⟩ : ∃ q, wc11 = q := ⟨_, rfl⟩
  rw [hw2]
  have b2 : Below w.heap.size w w2 := by rw [← hw2]; exact belowA
  have z2 : w.heap.size + 1 < w2.heap.size := by rw [← hw2]; exact zwc11
  have y2 : w.heap.size < w2.heap.size := by omega
  have P2 : Hid (w2.heap[w.heap.size]? = some (.cells #[.int .i64 b.src, .int .i64 b.crt, .int .i64 b.seq, .int .i64 b.off, .int .i64 b.tot, .int .i64 b.dk, .int .i64 b.dn, .int .i64 b.life, .int .i64 b.prio, .int .i64 b.flags, .slice a b.blocks.length c, .string (B b.payload), .slice ka kn.length kc, .string (B dt)] 31 (0, 0))) := Lib.hid (by rw [← hw2]; exact P9.out)
  have R2 : Hid (w2.heap[w.heap.size + 1]? = some (.cells #[.int .i64 0, .int .i64 0, .int .i64 0, .int .i64 0, .int .i64 0, .int .i64 0, .int .i64 0, .int .i64 0, .int .i64 0, .int .i64 0, .slice none 0 0, .string ⟨#[]⟩] 28 (0, 0))) := Lib.hid (by rw [← hw2]; exact R9.out)
  clear hw2 cq fq
  have cp := fun o => cellB P2.out o
  have cr := fun o => cellB R2.out o
  have fr := fun o => frozenB R2.out o
  go_wp2
  refine bodyPost_ret (v := .tuple #[.agg #[.int .i64 b.src, .int .i64 b.crt, .int .i64 b.seq, .int .i64 b.off, .int .i64 b.tot, .int .i64 b.dk, .int .i64 b.dn, .int .i64 b.life, .int .i64 b.prio, .int .i64 b.flags, .slice a b.blocks.length c, .string (B dt)], .int .i64 0]) (by simp [results, Try.results20, go_sem, World.cell?_setCell_same', cr, z2]) rfl ?_
  rw [HV.out]
  exact ⟨_, rfl, .inr rfl, HRN.out.keep (fun q o hq => (by exact belowA : Below w.heap.size w _).cell (by show q < w.heap.size; omega)) (Nat.le_refl _), belowA⟩
end Go.Proofs.Ytpnfkmlgelcbgaa
