/- cmp.Compare, cmp.Or; booking.compare, storage.compare. -/
import Derived.BigQuiet
import Derived.BigRegion
import Derived.Deep.DeepCutAuto
import Derived.Deep.CutBlock
import Derived.Test.YtlgjnelicnaopaaGreatYa
set_option linter.unusedVariables false
set_option linter.unusedSimpArgs false
namespace Go.Proofs.YtlgjnelicnaopaaGreat
open Go Go.RowKit Iv
attribute [local go_sem] Oper.semAt_some
attribute [local go_sem] B_getElem B_size B_app B_extract B_get B_toList
set_option maxHeartbeats 400000 in
theorem isNaN_any (n : Int) (w : World) : Calls Tryz.prog 62 #[.int .i64 n] w fun e w' => e = .returned (.bool false) ∧ w = w' := by
  have h : (n != n) = false := by simp
  go_enter Tryz.func62, Tryz.ntmps62
  go_wp2
  go_ret
  exact ⟨rfl, rfl⟩
set_option maxHeartbeats 400000 in
theorem ccompare_any (a b : Int) (w : World) : Calls Tryz.prog 30 #[.int .i64 a, .int .i64 b] w fun e w' => e = .returned (.int .i64 (cmpI a b)) ∧ w = w' := by
  obtain ⟨r, hr⟩ : ∃ r, cmpI a b = r := ⟨_, rfl⟩
  have HE := Lib.hid hr
  rw [hr]
  clear hr
  go_enter Tryz.func30, Tryz.ntmps30
  go_wp2_with fail
  refine (isNaN_any a _).mono ?_
  rintro e w1 ⟨rfl, rfl⟩
  go_wp2_with fail
  refine (isNaN_any b _).mono ?_
  rintro e w1 ⟨rfl, rfl⟩
  go_wp2
  all_goals
    go_ret
    refine ⟨ret_int ?_, rfl⟩
    rw [← HE.out]
    unfold cmpI
    (try simp only [Bool.not_eq_true', Bool.not_eq_false', decide_eq_true_eq, decide_eq_false_iff_not, beq_iff_eq, beq_eq_false_iff_ne, bne_iff_ne, bne_eq_false_iff_eq, ne_eq, Bool.and_eq_true, Bool.or_eq_true, Bool.and_eq_false_imp, Bool.or_eq_false_iff] at *)
    repeat' (first | omega | split)
set_option maxHeartbeats 1000000 in
theorem cor_any (l : List Int) (u : Value) (w : World) (h : RRow intC 1 w w.heap.size u l) :
    Calls Tryz.prog 66 #[u] w fun e w' => e = .returned (.int .i64 (orL l)) ∧ w = w' := by
  obtain ⟨a, c, rfl, h1, h2, h3, h4⟩ := h
  unfold maxLen at h2
  have hlen : l.length ≤ 9223372036854775807 := by omega
  have H4 := Lib.hid h4
  obtain ⟨r, hr⟩ : ∃ r, orL l = r := ⟨_, rfl⟩
  have HE := Lib.hid hr
  rw [hr]
  clear h3 h4 hr
  go_enter Tryz.func66, Tryz.ntmps66
  go_wp2
  go_loopw [8] (fun i wr => ∃ k : Nat, k ≤ l.length ∧ i = .int .i64 k ∧ Hid (orL (l.drop k) = r) ∧ wr = w) (fun i _ => l.length - (intOf i).toNat)
  case atStart => exact ⟨0, Nat.zero_le _, rfl, Lib.hid (by simpa using HE.out), rfl⟩
  case round =>
    obtain ⟨k, hk, rfl, HF, rfl⟩ := hrel
    have k0 : (0 : Int) ≤ (k : Int) := by omega
    by_cases hlt : k < l.length
    · obtain ⟨bb, o, rfl, hbn, hcell⟩ := H4.out (by omega)
      obtain ⟨x, hx⟩ : ∃ x, l[k]? = some x := ⟨_, List.getElem?_eq_getElem hlt⟩
      have c1 : wr.cell? ⟨bb, o + k, none⟩ = some (.int .i64 x) := by have := hcell k x hx 0 _ rfl; simpa using this
      have q1 : (k : Int) < (l.length : Int) := by omega
      have hst : orL (l.drop k) = if x = 0 then orL (l.drop (k + 1)) else x := by
        obtain ⟨h1, e1⟩ := List.getElem?_eq_some_iff.1 hx
        rw [List.drop_eq_getElem_cons h1, e1]; rfl
      rw [HF.out] at hst
      clear hx hcell
      by_cases hz : x = 0
      · rw [if_pos hz] at hst
        have HS := Lib.hid hst
        have hz' : (x != 0) = false := by simpa using hz
        clear hst hz
        go_wp2
        go_roundw
        case rel => exact ⟨k + 1, by omega, by go_num, Lib.hid HS.out.symm, trivial⟩
        case measure => simp [intOf]; omega
      · rw [if_neg hz] at hst
        have HS := Lib.hid hst
        have hz' : (x != 0) = true := by rw [bne_iff_ne]; exact hz
        clear hst hz
        go_wp2
        go_ret
        exact ⟨ret_int HS.out.symm, rfl⟩
    · obtain rfl : k = l.length := by omega
      have HG : Hid (r = 0) := Lib.hid (by rw [← HF.out, List.drop_eq_nil_of_le (Nat.le_refl _)]; rfl)
      go_wp2
      go_ret
      exact ⟨ret_int HG.out.symm, rfl⟩
def cmpH (a b : Hld) : Int := orL [cmpI a.nd b.nd, cmpI a.fr b.fr, cmpI a.tt b.tt, cmpI a.tk b.tk, cmpI a.sz b.sz]
set_option maxRecDepth 100000 in
set_option maxHeartbeats 4000000 in
theorem bcmp_any (a b : Bkg) (w : World) : Calls Tryz.prog 40 #[.agg #[.int .i64 a.ct, .int .i64 a.bg, .int .i64 a.en, .int .i64 a.tk], .agg #[.int .i64 b.ct, .int .i64 b.bg, .int .i64 b.en, .int .i64 b.tk]] w fun e w' => e = .returned (.int .i64 (cmpB a b)) ∧ Below w.heap.size w w' := by
  obtain ⟨c0, hc0⟩ : ∃ c, cmpI a.ct b.ct = c := ⟨_, rfl⟩
  obtain ⟨c1, hc1⟩ : ∃ c, cmpI a.bg b.bg = c := ⟨_, rfl⟩
  obtain ⟨r, hr⟩ : ∃ c, orL [c0, c1] = c := ⟨_, rfl⟩
  rw [show cmpB a b = r from by unfold cmpB; rw [hc0, hc1, hr]]
  have HC0 := Lib.hid hc0
  have HC1 := Lib.hid hc1
  have HR := Lib.hid hr
  clear hr hc0 hc1
  go_enter Tryz.func40, Tryz.ntmps40
  go_upto_region 1 with fail
  obtain ⟨W, hW⟩ : ∃ q, (w.alloc (.cells #[.int .i64 a.ct, .int .i64 a.bg, .int .i64 a.en, .int .i64 a.tk] 81)).alloc (.cells #[.int .i64 b.ct, .int .i64 b.bg, .int .i64 b.en, .int .i64 b.tk] 81) = q := ⟨_, rfl⟩
  rw [hW]
  have GA : W.heap[w.heap.size]? = some (.cells #[.int .i64 a.ct, .int .i64 a.bg, .int .i64 a.en, .int .i64 a.tk] 81 (0, 0)) := by rw [← hW]; exact (Below.heap_alloc _ _ _ (by simp)).trans heap_new
  have GB : W.heap[w.heap.size + 1]? = some (.cells #[.int .i64 b.ct, .int .i64 b.bg, .int .i64 b.en, .int .i64 b.tk] 81 (0, 0)) := by rw [← hW]; exact heap_new' (by simp)
  have hB : Below w.heap.size w W := by rw [← hW]; exact belowA
  have zW : w.heap.size + 1 < W.heap.size := by rw [← hW]; simp
  clear hW
  have ca := fun o => cellB GA o
  have cb := fun o => cellB GB o
  refine wp_region_plan (fun V => (∀ o, V.cell? ⟨w.heap.size, o, none⟩ = (#[.int .i64 a.ct, .int .i64 a.bg, .int .i64 a.en, .int .i64 a.tk])[o]?) ∧ (∀ o, V.cell? ⟨w.heap.size + 1, o, none⟩ = (#[.int .i64 b.ct, .int .i64 b.bg, .int .i64 b.en, .int .i64 b.tk])[o]?)) [0, 1, 0, 1, 2, 0, 1, 0, 1, 3, 3, 3, 0] [0, 1, 2, 3, 5, 6, 7, 8, 4, 9, 10, 11, 12] (by kernel_rfl) (by kernel_rfl) ?_ ?_
  case refine_1 => exact ⟨ca, cb⟩
  (iterate 8 (refine plan_held rfl (by decide) (by rfl) (fun w1 hS => by (try (have hS := hS rfl; obtain hS := hS; repeat (obtain ⟨_, hS⟩ := hS))); go_simp; rfl) ?_; simp only [Act.put, List.setIfInBounds_toArray, List.set_cons_zero, List.set_cons_succ]))
  (refine plan_keep rfl rfl (by rfl) (fun K hK => ?_); go_simp)
  refine (ccompare_any a.ct b.ct _).mono ?_
  rw [HC0.out]
  rintro e w3 ⟨rfl, rfl⟩
  (refine hK _ _ (by exact ⟨ca, cb⟩) ?_; clear hK K; (try simp only [Act.put, List.setIfInBounds_toArray, List.set_cons_zero, List.set_cons_succ]))
  (refine plan_late rfl rfl (by rfl) (fun K hK => ?_); go_simp)
  refine (ccompare_any a.bg b.bg _).mono ?_
  rw [HC1.out]
  rintro e w3 ⟨rfl, rfl⟩
  (refine hK _ _ ?_; clear hK K; (try simp only [Act.put, List.setIfInBounds_toArray, List.set_cons_zero, List.set_cons_succ]))
  (refine plan_late rfl rfl (by rfl) (fun K hK => ?_); go_simp)
  (refine hK _ _ ?_; clear hK K; (try simp only [Act.put, List.setIfInBounds_toArray, List.set_cons_zero, List.set_cons_succ]))
  (refine plan_late rfl rfl (by rfl) (fun K hK => ?_); go_simp)
  refine (cor_any [c0, c1] _ _ (RRow.ints (l := [c0, c1]) (t := 3) ?_ rfl ?_ (by simp))).mono ?_
  · exact heap_new
  · simp
  rw [HR.out]
  rintro e w8 ⟨rfl, rfl⟩
  (refine hK _ _ ?_; clear hK K; (try simp only [Act.put, List.setIfInBounds_toArray, List.set_cons_zero, List.set_cons_succ]))
  (iterate 1 (refine plan_held rfl (by decide) (by rfl) (fun w1 hS => by (try (have hS := hS rfl; obtain hS := hS; repeat (obtain ⟨_, hS⟩ := hS))); go_simp; rfl) ?_; simp only [Act.put, List.setIfInBounds_toArray, List.set_cons_zero, List.set_cons_succ]))
  refine plan_done ?_
  go_wp2
  go_ret
  exact ⟨rfl, belowA⟩
set_option maxRecDepth 100000 in
set_option maxHeartbeats 4000000 in
theorem hcmp_any (a b : Hld) (w : World) : Calls Tryz.prog 42 #[.agg #[.int .i64 a.nd, .int .i64 a.fr, .int .i64 a.tt, .int .i64 a.sz, .int .i64 a.tk], .agg #[.int .i64 b.nd, .int .i64 b.fr, .int .i64 b.tt, .int .i64 b.sz, .int .i64 b.tk]] w fun e w' => e = .returned (.int .i64 (cmpH a b)) ∧ Below w.heap.size w w' := by
  obtain ⟨c0, hc0⟩ : ∃ c, cmpI a.nd b.nd = c := ⟨_, rfl⟩
  obtain ⟨c1, hc1⟩ : ∃ c, cmpI a.fr b.fr = c := ⟨_, rfl⟩
  obtain ⟨c2, hc2⟩ : ∃ c, cmpI a.tt b.tt = c := ⟨_, rfl⟩
  obtain ⟨c3, hc3⟩ : ∃ c, cmpI a.tk b.tk = c := ⟨_, rfl⟩
  obtain ⟨c4, hc4⟩ : ∃ c, cmpI a.sz b.sz = c := ⟨_, rfl⟩
  obtain ⟨r, hr⟩ : ∃ c, orL [c0, c1, c2, c3, c4] = c := ⟨_, rfl⟩
  rw [show cmpH a b = r from by unfold cmpH; rw [hc0, hc1, hc2, hc3, hc4, hr]]
  have HC0 := Lib.hid hc0
  have HC1 := Lib.hid hc1
  have HC2 := Lib.hid hc2
  have HC3 := Lib.hid hc3
  have HC4 := Lib.hid hc4
  have HR := Lib.hid hr
  clear hr hc0 hc1 hc2 hc3 hc4
  go_enter Tryz.func42, Tryz.ntmps42
  go_upto_region 1 with fail
  obtain ⟨W, hW⟩ : ∃ q, (w.alloc (.cells #[.int .i64 a.nd, .int .i64 a.fr, .int .i64 a.tt, .int .i64 a.sz, .int .i64 a.tk] 92)).alloc (.cells #[.int .i64 b.nd, .int .i64 b.fr, .int .i64 b.tt, .int .i64 b.sz, .int .i64 b.tk] 92) = q := ⟨_, rfl⟩
  rw [hW]
  have GA : W.heap[w.heap.size]? = some (.cells #[.int .i64 a.nd, .int .i64 a.fr, .int .i64 a.tt, .int .i64 a.sz, .int .i64 a.tk] 92 (0, 0)) := by rw [← hW]; exact (Below.heap_alloc _ _ _ (by simp)).trans heap_new
  have GB : W.heap[w.heap.size + 1]? = some (.cells #[.int .i64 b.nd, .int .i64 b.fr, .int .i64 b.tt, .int .i64 b.sz, .int .i64 b.tk] 92 (0, 0)) := by rw [← hW]; exact heap_new' (by simp)
  have hB : Below w.heap.size w W := by rw [← hW]; exact belowA
  have zW : w.heap.size + 1 < W.heap.size := by rw [← hW]; simp
  clear hW
  have ca := fun o => cellB GA o
  have cb := fun o => cellB GB o
  refine wp_region_plan (fun V => (∀ o, V.cell? ⟨w.heap.size, o, none⟩ = (#[.int .i64 a.nd, .int .i64 a.fr, .int .i64 a.tt, .int .i64 a.sz, .int .i64 a.tk])[o]?) ∧ (∀ o, V.cell? ⟨w.heap.size + 1, o, none⟩ = (#[.int .i64 b.nd, .int .i64 b.fr, .int .i64 b.tt, .int .i64 b.sz, .int .i64 b.tk])[o]?)) [0, 1, 0, 1, 2, 0, 1, 0, 1, 2, 0, 1, 0, 1, 2, 0, 1, 0, 1, 2, 0, 1, 0, 1, 3, 3, 3, 0] [0, 1, 2, 3, 5, 6, 7, 8, 10, 11, 12, 13, 15, 16, 17, 18, 20, 21, 22, 23, 4, 9, 14, 19, 24, 25, 26, 27] (by kernel_rfl) (by kernel_rfl) ?_ ?_
  case refine_1 => exact ⟨ca, cb⟩
  (iterate 20 (refine plan_held rfl (by decide) (by rfl) (fun w1 hS => by (try (have hS := hS rfl; obtain hS := hS; repeat (obtain ⟨_, hS⟩ := hS))); go_simp; rfl) ?_; simp only [Act.put, List.setIfInBounds_toArray, List.set_cons_zero, List.set_cons_succ]))
  (refine plan_keep rfl rfl (by rfl) (fun K hK => ?_); go_simp)
  refine (ccompare_any a.nd b.nd _).mono ?_
  rw [HC0.out]
  rintro e w3 ⟨rfl, rfl⟩
  (refine hK _ _ (by exact ⟨ca, cb⟩) ?_; clear hK K; (try simp only [Act.put, List.setIfInBounds_toArray, List.set_cons_zero, List.set_cons_succ]))
  (refine plan_keep rfl rfl (by rfl) (fun K hK => ?_); go_simp)
  refine (ccompare_any a.fr b.fr _).mono ?_
  rw [HC1.out]
  rintro e w3 ⟨rfl, rfl⟩
  (refine hK _ _ (by exact ⟨ca, cb⟩) ?_; clear hK K; (try simp only [Act.put, List.setIfInBounds_toArray, List.set_cons_zero, List.set_cons_succ]))
  (refine plan_keep rfl rfl (by rfl) (fun K hK => ?_); go_simp)
  refine (ccompare_any a.tt b.tt _).mono ?_
  rw [HC2.out]
  rintro e w3 ⟨rfl, rfl⟩
  (refine hK _ _ (by exact ⟨ca, cb⟩) ?_; clear hK K; (try simp only [Act.put, List.setIfInBounds_toArray, List.set_cons_zero, List.set_cons_succ]))
  (refine plan_keep rfl rfl (by rfl) (fun K hK => ?_); go_simp)
  refine (ccompare_any a.tk b.tk _).mono ?_
  rw [HC3.out]
  rintro e w3 ⟨rfl, rfl⟩
  (refine hK _ _ (by exact ⟨ca, cb⟩) ?_; clear hK K; (try simp only [Act.put, List.setIfInBounds_toArray, List.set_cons_zero, List.set_cons_succ]))
  (refine plan_late rfl rfl (by rfl) (fun K hK => ?_); go_simp)
  refine (ccompare_any a.sz b.sz _).mono ?_
  rw [HC4.out]
  rintro e w3 ⟨rfl, rfl⟩
  (refine hK _ _ ?_; clear hK K; (try simp only [Act.put, List.setIfInBounds_toArray, List.set_cons_zero, List.set_cons_succ]))
  (refine plan_late rfl rfl (by rfl) (fun K hK => ?_); go_simp)
  (refine hK _ _ ?_; clear hK K; (try simp only [Act.put, List.setIfInBounds_toArray, List.set_cons_zero, List.set_cons_succ]))
  (refine plan_late rfl rfl (by rfl) (fun K hK => ?_); go_simp)
  refine (cor_any [c0, c1, c2, c3, c4] _ _ (RRow.ints (l := [c0, c1, c2, c3, c4]) (t := 3) ?_ rfl ?_ (by simp))).mono ?_
  · exact heap_new
  · simp
  rw [HR.out]
  rintro e w8 ⟨rfl, rfl⟩
  (refine hK _ _ ?_; clear hK K; (try simp only [Act.put, List.setIfInBounds_toArray, List.set_cons_zero, List.set_cons_succ]))
  (iterate 1 (refine plan_held rfl (by decide) (by rfl) (fun w1 hS => by (try (have hS := hS rfl; obtain hS := hS; repeat (obtain ⟨_, hS⟩ := hS))); go_simp; rfl) ?_; simp only [Act.put, List.setIfInBounds_toArray, List.set_cons_zero, List.set_cons_succ]))
  refine plan_done ?_
  go_wp2
  go_ret
  exact ⟨rfl, belowA⟩
end Go.Proofs.YtlgjnelicnaopaaGreat
