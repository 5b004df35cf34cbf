/- Chapter 18: the reference: agrees. -/
import Derived.BigQuiet
import Derived.BigRegion
import Derived.Deep.DeepCutAuto
import Derived.Deep.CutBlock
import Derived.Test.YtpnfkmlgelcbgaaSv
set_option linter.unusedVariables false
set_option linter.unusedSimpArgs false
namespace Go.Proofs.Ytpnfkmlgelcbgaa
open Go Go.RowKit Iv
attribute [local go_sem] Oper.semAt_some
attribute [local go_sem] B_getElem B_size B_app B_extract B_get B_toList
theorem eqBs_comm (l m : List Blk) : eqBs l m = eqBs m l := by rw [Bool.eq_iff_iff, eqBs_iff, eqBs_iff]; exact eq_comm
set_option maxRecDepth 100000 in
set_option maxHeartbeats 32000000 in
theorem ragr_any (p : Par) (b : Bun) (ub uk u : Value) (w : World) (hh : RBlks w w.heap.size ub p.head.blocks) (hk : RSps w w.heap.size uk p.known) (hr : RBlks w w.heap.size u b.blocks) (hf : Fits b) (hc : chkP p = 0) (hvb : chkE b = 0) (ht : b.tot = p.data.length) (ht0 : 0 < b.tot) :
    Calls Try.prog 53 #[.agg (parC p ub uk).toArray, .agg (bunC b u).toArray] w fun e w' => e = .returned (.bool (agrB p b)) ∧ Below w.heap.size w w' := by
  have hpf := chkP_zero hc
  have hv := valid_facts hvb
  obtain ⟨pl0, pl1⟩ := hv.2.2.2.2.2.2.2.2.2 ht0
  obtain ⟨o, ho⟩ := Int.eq_ofNat_of_zero_le hv.1
  have h0 : 0 ≤ b.off := hv.1
  have h1 : b.off + b.payload.length ≤ p.data.length := by omega
  have HAG := Lib.hid (agr_iff h0 h1)
  obtain ⟨h, kn, dt⟩ := p
  simp only at hh hk hpf ht h1
  obtain ⟨a, c, rfl, _⟩ := id hh
  obtain ⟨ka, kc, rfl, _, _, _, kh4⟩ := id hk
  obtain ⟨a2, c2, rfl, _⟩ := id hr
  have HH := Lib.hid hh
  have HK := Lib.hid hk
  have HB := Lib.hid hr
  have HF := Lib.hid hf
  have K4 := Lib.hid kh4
  have hkc : chkSp kn = 0 := hpf.2.2.1
  have hkn : 0 < kn.length := hpf.2.2.2
  have hlen : dt.length ≤ 4096 := hpf.2.1
  have hsp : chkSp [spanB b] = 0 := chk_one (by unfold spanB; simp only; omega) (by unfold spanB; simp only; omega) (by unfold spanB; simp only; omega)
  have HSPB : Hid (spanB b = ((o : Int), (o : Int) + b.payload.length)) := Lib.hid (by unfold spanB; rw [ho])
  have HB0 : Hid (0 ≤ b.off ∧ b.off ≤ 100000 ∧ b.payload.length ≤ 100000) := Lib.hid ⟨h0, by omega, by omega⟩
  have HCA := Lib.hid (comb_and hkc hsp)
  have HKC := Lib.hid hkc
  have hon : o + b.payload.length ≤ dt.length := by omega
  obtain ⟨V, hV⟩ : ∃ q, agrB ⟨h, kn, dt⟩ b = q := ⟨_, rfl⟩
  have HV0 := Lib.hid hV
  rw [hV]
  have HOF := Lib.hid ho
  clear hh hk hr hf hc hvb ht hpf hv kh4 hkc hsp hV h0 h1 pl1 ht0 ho
  go_enter Try.func53, Try.ntmps53
  simp only [parC, bunC, List.cons_append, List.nil_append]
  go_wp2_with fail
  refine (qspan_any b _ _ (HB.out.below (C := w.heap.size) (by exact belowA) (Nat.le_refl _) (by simp; omega)) HB0.out.1 HB0.out.2.1 HB0.out.2.2).mono ?_
  rw [HSPB.out]
  rintro e w4 ⟨rfl, hb4⟩
  have n1 : w4.heap[w.heap.size]? = some (.cells #[.int .i64 h.src, .int .i64 h.crt, .int .i64 h.seq, .int .i64 h.off, .int .i64 h.tot, .int .i64 h.dk, .int .i64 h.dn, .int .i64 h.life, .int .i64 h.prio, .int .i64 h.flags, .slice a h.blocks.length c, .string (B h.payload), .slice ka kn.length kc, .string (B dt)] 31 (0, 0)) := (hb4.block _ (by simp; omega)).trans ((Below.heap_alloc _ _ _ (by simp)).trans heap_new)
  have n2 : w4.heap[w.heap.size + 1]? = some (.cells #[.int .i64 b.src, .int .i64 b.crt, .int .i64 b.seq, .int .i64 b.off, .int .i64 b.tot, .int .i64 b.dk, .int .i64 b.dn, .int .i64 b.life, .int .i64 b.prio, .int .i64 b.flags, .slice a2 b.blocks.length c2, .string (B b.payload)] 28 (0, 0)) := (hb4.block _ (by simp)).trans (heap_new' (by simp))
  have b4 : Below w.heap.size w w4 := btrans0 (by exact belowA) hb4
  have z4 : w.heap.size + 1 < w4.heap.size := (Array.getElem?_eq_some_iff.1 n2).1
  have N1 := Lib.hid n1
  have N2 := Lib.hid n2
  clear n1 n2 hb4
  go_wp2
  go_loopw [6] (fun iv wr => ∃ k n : Nat, k ≤ b.payload.length ∧ n = o + k ∧ iv = .int .i64 n ∧ Hid (∀ j, j < k → (!inS kn (b.off + j) || (dt.getD (b.off.toNat + j) 0 == b.payload.getD j 0)) = true) ∧ Hid (wr.heap[w4.heap.size]? = some (.cells #[.int .i64 o, .int .i64 ((o : Int) + b.payload.length)] 47 (0, 0))) ∧ Below w4.heap.size w4 wr) (fun iv _ => o + b.payload.length - (intOf iv).toNat)
  case atStart => exact ⟨0, o, Nat.zero_le _, rfl, rfl, Lib.hid (fun j hj => by omega), Lib.hid heap_new, by exact belowA⟩
  case round =>
    obtain ⟨k, n, hkl, hn, rfl, HOK, HSX, hB⟩ := hrel
    have bwr : Below w.heap.size w wr := b4.trans (hB.mono (by omega))
    have c1 := fun o => cellB ((hB.block _ (by omega)).trans N1.out) o
    have c2' := fun o => cellB ((hB.block _ z4).trans N2.out) o
    have HSX2 := HSX.out
    have c3 := fun o => cellB HSX2 o
    have zs := (Array.getElem?_eq_some_iff.1 HSX2).1
    have zr1 : w.heap.size < wr.heap.size := by have := hB.size; omega
    have zr2 : w.heap.size + 1 < wr.heap.size := by have := hB.size; omega
    have HNK := Lib.hid hn
    clear HSX2
    by_cases hlt : k < b.payload.length
    · have d0 : decide ((n : Int) < (o : Int) + (b.payload.length : Int)) = true := decide_eq_true (by omega)
      have hnl : n < dt.length := by omega
      have HHK : Hid (b.off + k = (n : Int) ∧ b.off.toNat + k = n) := Lib.hid (by have := HOF.out; omega)
      obtain ⟨y, hy⟩ : ∃ y, dt[n]? = some y := ⟨_, List.getElem?_eq_getElem (by omega)⟩
      obtain ⟨z, hz⟩ : ∃ y, b.payload[k]? = some y := ⟨_, List.getElem?_eq_getElem hlt⟩
      have hyN : dt[n]'hnl = y := by rw [List.getElem?_eq_getElem (by omega)] at hy; exact Option.some.inj hy
      have hzN : b.payload[k]'hlt = z := by rw [List.getElem?_eq_getElem hlt] at hz; exact Option.some.inj hz
      have HDY : Hid (dt.getD (b.off.toNat + k) 0 = y ∧ b.payload.getD k 0 = z) := Lib.hid ⟨by rw [HHK.out.2, List.getD_eq_getElem?_getD, hy]; rfl, by rw [List.getD_eq_getElem?_getD, hz]; rfl⟩
      have n0 : (0 : Int) ≤ (n : Int) := by omega
      have n1 : (n : Int) < (dt.length : Int) := by omega
      have k0 : (0 : Int) ≤ (k : Int) := by omega
      have k1 : (k : Int) < (b.payload.length : Int) := by omega
      have w1 : IntKind.i64.wrap ((n : Int) - (o : Int)) = (k : Int) := by rw [IntKind.wrap_i64]; omega
      obtain ⟨I, hI⟩ : ∃ q, inS kn (n : Int) = q := ⟨_, rfl⟩
      have HI := Lib.hid hI
      clear hn hy hz hI
      have HOKN : Hid ((!I || (y == z)) = true → ∀ j, j < k + 1 → (!inS kn (b.off + j) || (dt.getD (b.off.toNat + j) 0 == b.payload.getD j 0)) = true) := Lib.hid (fun hh j hj => by
        rcases Nat.lt_or_ge j k with q | q
        · exact HOK.out j q
        · obtain rfl : j = k := by omega
          rw [HHK.out.1, HI.out, HDY.out.1, HDY.out.2]; exact hh)
      cases I with
      | false =>
        go_upto_region 5 with fail
        refine wp_region_plan (fun V => Below (wr).heap.size (wr) V) [0, 1, 0, 2, 0, 0, 1, 0, 0, 0, 1, 0, 0, 1, 0, 0, 0, 0] [0, 1, 2, 3, 4, 5, 6, 7, 8, 9, 10, 11, 12, 13, 14, 15, 16, 17] (by kernel_rfl) (by kernel_rfl) ?_ ?_
        case refine_1 => exact belowA
        (iterate 3 (first | (refine plan_held rfl (by decide) (by rfl) (fun w1 hS => by (try (obtain ⟨_, _⟩ := bcell (hS rfl))); go_simp; rfl) ?_; simp only [Act.put, List.setIfInBounds_toArray, List.set_cons_zero, List.set_cons_succ]) | (refine plan_skip rfl (by decide) (by rfl) ?_; simp only [Act.put, List.setIfInBounds_toArray, List.set_cons_zero, List.set_cons_succ])))
        (refine plan_keep rfl rfl (by rfl) (fun K hK => ?_); go_simp)
        refine (rhasSp_any kn _ _ _ (HK.out.below (C := w.heap.size) (btrans0 bwr belowA) (Nat.le_refl _) (Below.size (btrans0 bwr belowA))) HKC.out).mono ?_
        rw [HI.out]
        rintro e wc20 ⟨rfl, hbc20⟩
        (refine hK _ _ (by exact belowA) ?_; clear hK K; (try simp only [Act.put, List.setIfInBounds_toArray, List.set_cons_zero, List.set_cons_succ]))
        (iterate 14 (first | (refine plan_held rfl (by decide) (by rfl) (fun w1 hS => by (try (obtain ⟨_, _⟩ := bcell (hS rfl))); go_simp; rfl) ?_; simp only [Act.put, List.setIfInBounds_toArray, List.set_cons_zero, List.set_cons_succ]) | (refine plan_skip rfl (by decide) (by rfl) ?_; simp only [Act.put, List.setIfInBounds_toArray, List.set_cons_zero, List.set_cons_succ])))
        refine plan_done ?_
        have HSX5 : Hid (wc20.heap[w4.heap.size]? = some (.cells #[.int .i64 o, .int .i64 ((o : Int) + b.payload.length)] 47 (0, 0))) := Lib.hid ((hbc20.block _ zs).trans HSX.out)
        go_wp2
        refine ⟨⟨k + 1, n + 1, by omega, by have := HNK.out; omega, by go_num, Lib.hid (HOKN.out rfl), HSX5, belowA⟩, by simp [intOf]; have := HNK.out; omega⟩
      | true =>
        by_cases hyz : y = z
        · have e1 : ((dt[n]'hnl).toNat : Int) = ((b.payload[k]'hlt).toNat : Int) := by rw [hyN, hzN, hyz]
          have e2 : (((dt[n]'hnl).toNat : Int) != ((b.payload[k]'hlt).toNat : Int)) = false := by rw [bne_eq_false_iff_eq]; exact e1
          have e3 : (dt[n]'hnl).toNat = (b.payload[k]'hlt).toNat := by rw [hyN, hzN, hyz]
          have HYZ : Hid ((!true || (y == z)) = true) := Lib.hid (by simp [hyz])
          clear hyN hzN hyz e1
          go_upto_region 5 with fail
          refine wp_region_plan (fun V => Below (wr).heap.size (wr) V) [0, 1, 0, 2, 0, 0, 1, 0, 0, 0, 1, 0, 0, 1, 0, 0, 0, 0] [0, 1, 2, 3, 4, 5, 6, 7, 8, 9, 10, 11, 12, 13, 14, 15, 16, 17] (by kernel_rfl) (by kernel_rfl) ?_ ?_
          case refine_1 => exact belowA
          (iterate 3 (first | (refine plan_held rfl (by decide) (by rfl) (fun w1 hS => by (try (obtain ⟨_, _⟩ := bcell (hS rfl))); go_simp; rfl) ?_; simp only [Act.put, List.setIfInBounds_toArray, List.set_cons_zero, List.set_cons_succ]) | (refine plan_skip rfl (by decide) (by rfl) ?_; simp only [Act.put, List.setIfInBounds_toArray, List.set_cons_zero, List.set_cons_succ])))
          (refine plan_keep rfl rfl (by rfl) (fun K hK => ?_); go_simp)
          refine (rhasSp_any kn _ _ _ (HK.out.below (C := w.heap.size) (btrans0 bwr belowA) (Nat.le_refl _) (Below.size (btrans0 bwr belowA))) HKC.out).mono ?_
          rw [HI.out]
          rintro e wc20 ⟨rfl, hbc20⟩
          (refine hK _ _ (by exact belowA) ?_; clear hK K; (try simp only [Act.put, List.setIfInBounds_toArray, List.set_cons_zero, List.set_cons_succ]))
          (iterate 14 (first | (refine plan_held rfl (by decide) (by rfl) (fun w1 hS => by (try (obtain ⟨_, _⟩ := bcell (hS rfl))); go_simp; rfl) ?_; simp only [Act.put, List.setIfInBounds_toArray, List.set_cons_zero, List.set_cons_succ]) | (refine plan_skip rfl (by decide) (by rfl) ?_; simp only [Act.put, List.setIfInBounds_toArray, List.set_cons_zero, List.set_cons_succ])))
          refine plan_done ?_
          have HSX5 : Hid (wc20.heap[w4.heap.size]? = some (.cells #[.int .i64 o, .int .i64 ((o : Int) + b.payload.length)] 47 (0, 0))) := Lib.hid ((hbc20.block _ zs).trans HSX.out)
          go_wp2
          refine ⟨⟨k + 1, n + 1, by omega, by have := HNK.out; omega, by go_num, Lib.hid (HOKN.out HYZ.out), HSX5, belowA⟩, by simp [intOf]; have := HNK.out; omega⟩
        · have e3 : ¬ (dt[n]'hnl).toNat = (b.payload[k]'hlt).toNat := by rw [hyN, hzN]; intro e; exact hyz (UInt8.toNat_inj.1 e)
          have e2 : (((dt[n]'hnl).toNat : Int) != ((b.payload[k]'hlt).toNat : Int)) = true := by rw [bne_iff_ne]; omega
          have HV : Hid (V = false) := Lib.hid (by
            rw [← HV0.out]
            have hn : agrD ⟨h, kn, dt⟩ b = false := by
              rw [← Bool.not_eq_true]
              intro hh
              unfold agrD at hh
              have := (List.all_eq_true.1 hh) k (List.mem_range.2 hlt)
              rw [HHK.out.1, HI.out, HDY.out.1, HDY.out.2] at this
              simp at this
              exact hyz this
            unfold agrB
            rw [hn]; rfl)
          clear hyN hzN hyz
          go_upto_region 5 with fail
          refine wp_region_plan (fun V => Below (wr).heap.size (wr) V) [0, 1, 0, 2, 0, 0, 1, 0, 0, 0, 1, 0, 0, 1, 0, 0, 0, 0] [0, 1, 2, 3, 4, 5, 6, 7, 8, 9, 10, 11, 12, 13, 14, 15, 16, 17] (by kernel_rfl) (by kernel_rfl) ?_ ?_
          case refine_1 => exact belowA
          (iterate 3 (first | (refine plan_held rfl (by decide) (by rfl) (fun w1 hS => by (try (obtain ⟨_, _⟩ := bcell (hS rfl))); go_simp; rfl) ?_; simp only [Act.put, List.setIfInBounds_toArray, List.set_cons_zero, List.set_cons_succ]) | (refine plan_skip rfl (by decide) (by rfl) ?_; simp only [Act.put, List.setIfInBounds_toArray, List.set_cons_zero, List.set_cons_succ])))
          (refine plan_keep rfl rfl (by rfl) (fun K hK => ?_); go_simp)
          refine (rhasSp_any kn _ _ _ (HK.out.below (C := w.heap.size) (btrans0 bwr belowA) (Nat.le_refl _) (Below.size (btrans0 bwr belowA))) HKC.out).mono ?_
          rw [HI.out]
          rintro e wc20 ⟨rfl, hbc20⟩
          (refine hK _ _ (by exact belowA) ?_; clear hK K; (try simp only [Act.put, List.setIfInBounds_toArray, List.set_cons_zero, List.set_cons_succ]))
          (iterate 14 (first | (refine plan_held rfl (by decide) (by rfl) (fun w1 hS => by (try (obtain ⟨_, _⟩ := bcell (hS rfl))); go_simp; rfl) ?_; simp only [Act.put, List.setIfInBounds_toArray, List.set_cons_zero, List.set_cons_succ]) | (refine plan_skip rfl (by decide) (by rfl) ?_; simp only [Act.put, List.setIfInBounds_toArray, List.set_cons_zero, List.set_cons_succ])))
          refine plan_done ?_
          go_wp2
          go_ret
          rw [HV.out]
          exact ⟨rfl, belowA⟩
    · obtain rfl : k = b.payload.length := by omega
      have d0 : decide ((n : Int) < (o : Int) + (b.payload.length : Int)) = false := decide_eq_false (by omega)
      clear hn
      have HAD : Hid (agrD ⟨h, kn, dt⟩ b = true) := Lib.hid (by
        unfold agrD
        exact List.all_eq_true.2 fun j hj => HOK.out j (List.mem_range.1 hj))
      obtain ⟨kb, ko, rfl, hkb, hkcl⟩ := K4.out hkn
      obtain ⟨x0, hx0⟩ : ∃ x, kn[0]? = some x := ⟨_, List.getElem?_eq_getElem (by omega)⟩
      have HX0 := Lib.hid hx0
      have q0 : wr.cell? ⟨kb, ko, none⟩ = some (.int .i64 x0.1) := by have := (bwr.cell (p := ⟨kb, ko + 0 * 2, none⟩) hkb).trans (sp0 hkcl hx0); simpa using this
      have zkb : kb < wr.heap.size := by have := bwr.size; omega
      have hkI : (0 : Int) < (kn.length : Int) := by omega
      have HFR : Hid (fromS kn = x0.1) := Lib.hid (by unfold fromS; rw [hx0])
      clear hkcl hx0
      go_upto_region 7 with fail
      by_cases f1 : 0 < b.off
      · have d1 : decide (b.off > 0) = true := decide_eq_true f1
        have d1' : decide ((o : Int) > 0) = true := by rw [← HOF.out]; exact d1
        have HV : Hid (V = true) := Lib.hid (by rw [← HV0.out]; unfold agrB; rw [HAD.out, decide_eq_true f1]; rfl)
        have hoz : ¬ o = 0 := by have := HOF.out; omega
        clear f1
        go_wp2
        go_ret
        rw [HV.out]
        exact ⟨rfl, belowA⟩
      have d1 : decide (b.off > 0) = false := decide_eq_false f1
      have d1' : decide ((o : Int) > 0) = false := by rw [← HOF.out]; exact d1
      have hoz : o = 0 := by have := HOF.out; omega
      subst hoz
      by_cases f2 : 0 < x0.1
      · have d2 : decide (x0.1 > 0) = true := decide_eq_true f2
        have HV : Hid (V = true) := Lib.hid (by rw [← HV0.out]; unfold agrB; rw [HAD.out, HFR.out]; simp [f2])
        clear f1 f2
        go_wp2
        go_ret
        rw [HV.out]
        exact ⟨rfl, belowA⟩
      have d2 : decide (x0.1 > 0) = false := decide_eq_false f2
      have HV : Hid (V = eqBs b.blocks h.blocks) := Lib.hid (by rw [eqBs_comm b.blocks, ← HV0.out]; unfold agrB; rw [HAD.out, HFR.out]; simp [f1, f2])
      clear f1 f2
      go_wp2_with fail
      refine (reqB_any b.blocks h.blocks _ _ _ (HB.out.below bwr (Nat.le_refl _) (by omega)) (HH.out.below bwr (Nat.le_refl _) (by omega))).mono ?_
      rintro e w9 ⟨rfl, hb9⟩
      go_wp2
      go_ret
      rw [HV.out]
      exact ⟨rfl, belowA⟩
end Go.Proofs.Ytpnfkmlgelcbgaa
