/- cmp.Compare, cmp.Or; booking.compare, storage.compare. -/
import Derived.BigQuiet
import Derived.BigRegion
import Derived.Deep.DeepCutAuto
import Derived.Deep.CutBlock
import Derived.Test.YtkokiahmgmeokaaGreatYa
set_option linter.unusedVariables false
set_option linter.unusedSimpArgs false
namespace Go.Proofs.YtkokiahmgmeokaaGreat
open Go Go.RowKit Iv
attribute [local go_sem] Oper.semAt_some
attribute [local go_sem] B_getElem B_size B_app B_extract B_get B_toList
set_option maxHeartbeats 400000 in
theorem isNaN_any (n : Int) (w : World) : Calls Tryz.prog 107 #[.int .i64 n] w fun e w' => e = .returned (.bool false) ∧ w = w' := by
  have h : (n != n) = false := by simp
  go_enter Tryz.func107, Tryz.ntmps107
  go_wp2
  go_ret
  exact ⟨rfl, rfl⟩
set_option maxHeartbeats 400000 in
theorem ccompare_any (a b : Int) (w : World) : Calls Tryz.prog 73 #[.int .i64 a, .int .i64 b] w fun e w' => e = .returned (.int .i64 (cmpI a b)) ∧ w = w' := by
  obtain ⟨r, hr⟩ : ∃ r, cmpI a b = r := ⟨_, rfl⟩
  have HE := Lib.hid hr
  rw [hr]
  clear hr
  go_enter Tryz.func73, Tryz.ntmps73
  go_wp2_with fail
  refine (isNaN_any a _).mono ?_
  rintro e w1 ⟨rfl, rfl⟩
  go_wp2_with fail
  refine (isNaN_any b _).mono ?_
  rintro e w1 ⟨rfl, rfl⟩
  go_wp2
  all_goals
    go_ret
    refine ⟨ret_int ?_, rfl⟩
    rw [← HE.out]
    unfold cmpI
    (try simp only [Bool.not_eq_true', Bool.not_eq_false', decide_eq_true_eq, decide_eq_false_iff_not, beq_iff_eq, beq_eq_false_iff_ne, bne_iff_ne, bne_eq_false_iff_eq, ne_eq, Bool.and_eq_true, Bool.or_eq_true, Bool.and_eq_false_imp, Bool.or_eq_false_iff] at *)
    repeat' (first | omega | split)
set_option maxHeartbeats 1000000 in
theorem cor_any (l : List Int) (u : Value) (w : World) (h : RRow intC 1 w w.heap.size u l) :
    Calls Tryz.prog 72 #[u] w fun e w' => e = .returned (.int .i64 (orL l)) ∧ w = w' := by
  obtain ⟨a, c, rfl, h1, h2, h3, h4⟩ := h
  unfold maxLen at h2
  have hlen : l.length ≤ 9223372036854775807 := by omega
  have H4 := Lib.hid h4
  obtain ⟨r, hr⟩ : ∃ r, orL l = r := ⟨_, rfl⟩
  have HE := Lib.hid hr
  rw [hr]
  clear h3 h4 hr
  go_enter Tryz.func72, Tryz.ntmps72
  go_wp2
  go_loopw [8] (fun i wr => ∃ k : Nat, k ≤ l.length ∧ i = .int .i64 k ∧ Hid (orL (l.drop k) = r) ∧ wr = w) (fun i _ => l.length - (intOf i).toNat)
  case atStart => exact ⟨0, Nat.zero_le _, rfl, Lib.hid (by simpa using HE.out), rfl⟩
  case round =>
    obtain ⟨k, hk, rfl, HF, rfl⟩ := hrel
    have k0 : (0 : Int) ≤ (k : Int) := by omega
    by_cases hlt : k < l.length
    · obtain ⟨bb, o, rfl, hbn, hcell⟩ := H4.out (by omega)
      obtain ⟨x, hx⟩ : ∃ x, l[k]? = some x := ⟨_, List.getElem?_eq_getElem hlt⟩
      have c1 : wr.cell? ⟨bb, o + k, none⟩ = some (.int .i64 x) := by have := hcell k x hx 0 _ rfl; simpa using this
      have q1 : (k : Int) < (l.length : Int) := by omega
      have hst : orL (l.drop k) = if x = 0 then orL (l.drop (k + 1)) else x := by
        obtain ⟨h1, e1⟩ := List.getElem?_eq_some_iff.1 hx
        rw [List.drop_eq_getElem_cons h1, e1]; rfl
      rw [HF.out] at hst
      clear hx hcell
      by_cases hz : x = 0
      · rw [if_pos hz] at hst
        have HS := Lib.hid hst
        have hz' : (x != 0) = false := by simpa using hz
        clear hst hz
        go_wp2
        go_roundw
        case rel => exact ⟨k + 1, by omega, by go_num, Lib.hid HS.out.symm, trivial⟩
        case measure => simp [intOf]; omega
      · rw [if_neg hz] at hst
        have HS := Lib.hid hst
        have hz' : (x != 0) = true := by rw [bne_iff_ne]; exact hz
        clear hst hz
        go_wp2
        go_ret
        exact ⟨ret_int HS.out.symm, rfl⟩
    · obtain rfl : k = l.length := by omega
      have HG : Hid (r = 0) := Lib.hid (by rw [← HF.out, List.drop_eq_nil_of_le (Nat.le_refl _)]; rfl)
      go_wp2
      go_ret
      exact ⟨ret_int HG.out.symm, rfl⟩
def cmpH (a b : Hld) : Int := orL [cmpI a.nd b.nd, cmpI a.fr b.fr, cmpI a.tt b.tt, cmpI a.tk b.tk, cmpI a.sz b.sz]
set_option maxRecDepth 100000 in
set_option maxHeartbeats 4000000 in
theorem bcmp_any (a b : Bkg) (w : World) : Calls Tryz.prog 38 #[.agg #[.int .i64 a.ct, .int .i64 a.bg, .int .i64 a.en, .int .i64 a.tk], .agg #[.int .i64 b.ct, .int .i64 b.bg, .int .i64 b.en, .int .i64 b.tk]] w fun e w' => e = .returned (.int .i64 (cmpB a b)) ∧ Below w.heap.size w w' := by
  obtain ⟨c0, hc0⟩ : ∃ c, cmpI a.ct b.ct = c := ⟨_, rfl⟩
  obtain ⟨c1, hc1⟩ : ∃ c, cmpI a.bg b.bg = c := ⟨_, rfl⟩
  obtain ⟨r, hr⟩ : ∃ c, orL [c0, c1] = c := ⟨_, rfl⟩
  rw [show cmpB a b = r from by unfold cmpB; rw [hc0, hc1, hr]]
  have HC0 := Lib.hid hc0
  have HC1 := Lib.hid hc1
  have HR := Lib.hid hr
  clear hr hc0 hc1
  go_enter Tryz.func38, Tryz.ntmps38
  go_upto_region 1 with fail
  obtain ⟨W, hW⟩ : ∃ q, (w.alloc (.cells #[.int .i64 a.ct, .int .i64 a.bg, .int .i64 a.en, .int .i64 a.tk] 91)).alloc (.cells #[.int .i64 b.ct, .int .i64 b.bg, .int .i64 b.en, .int .i64 b.tk] 91) = q := ⟨_, rfl⟩
  rw [hW]
  have GA : W.heap[w.heap.size]? = some (.cells #[.int .i64 a.ct, .int .i64 a.bg, .int .i64 a.en, .int .i64 a.tk] 91 (0, 0)) := by rw [← hW]; exact (Below.heap_alloc _ _ _ (by simp)).trans heap_new
  have GB : W.heap[w.heap.size + 1]? = some (.cells #[.int .i64 b.ct, .int .i64 b.bg, .int .i64 b.en, .int .i64 b.tk] 91 (0, 0)) := by rw [← hW]; exact heap_new' (by simp)
  have hB : Below w.heap.size w W := by rw [← hW]; exact belowA
  have zW : w.heap.size + 1 < W.heap.size := by rw [← hW]; simp
  clear hW
  have ca := fun o => cellB GA o
  have cb := fun o => cellB GB o
  refine wp_region_plan (fun V => (∀ o, V.cell? ⟨w.heap.size, o, none⟩ = (#[.int .i64 a.ct, .int .i64 a.bg, .int .i64 a.en, .int .i64 a.tk])[o]?) ∧ (∀ o, V.cell? ⟨w.heap.size + 1, o, none⟩ = (#[.int .i64 b.ct, .int .i64 b.bg, .int .i64 b.en, .int .i64 b.tk])[o]?)) [0, 1, 0, 1, 2, 0, 1, 0, 1, 3, 3, 3, 0] [0, 1, 2, 3, 5, 6, 7, 8, 4, 9, 10, 11, 12] (by kernel_rfl) (by kernel_rfl) ?_ ?_
  case refine_1 => exact ⟨ca, cb⟩
  (iterate 8 (refine plan_held rfl (by decide) (by rfl) (fun w1 hS => by (try (have hS := hS rfl; obtain hS := hS; repeat (obtain ⟨_, hS⟩ := hS))); go_simp; rfl) ?_; simp only [Act.put, List.setIfInBounds_toArray, List.set_cons_zero, List.set_cons_succ]))
  (refine plan_keep rfl rfl (by rfl) (fun K hK => ?_); go_simp)
  refine (ccompare_any a.ct b.ct _).mono ?_
  rw [HC0.out]
  rintro e w3 ⟨rfl, rfl⟩
  (refine hK _ _ (by exact ⟨ca, cb⟩) ?_; clear hK K; (try simp only [Act.put, List.setIfInBounds_toArray, List.set_cons_zero, List.set_cons_succ]))
  (refine plan_late rfl rfl (by rfl) (fun K hK => ?_); go_simp)
  refine (ccompare_any a.bg b.bg _).mono ?_
  rw [HC1.out]
  rintro e w3 ⟨rfl, rfl⟩
  (refine hK _ _ ?_; clear hK K; (try simp only [Act.put, List.setIfInBounds_toArray, List.set_cons_zero, List.set_cons_succ]))
  (refine plan_late rfl rfl (by rfl) (fun K hK => ?_); go_simp)
  (refine hK _ _ ?_; clear hK K; (try simp only [Act.put, List.setIfInBounds_toArray, List.set_cons_zero, List.set_cons_succ]))
  (refine plan_late rfl rfl (by rfl) (fun K hK => ?_); go_simp)
  refine (cor_any [c0, c1] _ _ (RRow.ints (l := [c0, c1]) (t := 3) ?_ rfl ?_ (by simp))).mono ?_
  · exact heap_new
  · simp
  rw [HR.out]
  rintro e w8 ⟨rfl, rfl⟩
  (refine hK _ _ ?_; clear hK K; (try simp only [Act.put, List.setIfInBounds_toArray, List.set_cons_zero, List.set_cons_succ]))
  (iterate 1 (refine plan_held rfl (by decide) (by rfl) (fun w1 hS => by (try (have hS := hS rfl; obtain hS := hS; repeat (obtain ⟨_, hS⟩ := hS))); go_simp; rfl) ?_; simp only [Act.put, List.setIfInBounds_toArray, List.set_cons_zero, List.set_cons_succ]))
  refine plan_done ?_
  go_wp2
  go_ret
  exact ⟨rfl, belowA⟩
set_option maxRecDepth 100000 in
set_option maxHeartbeats 4000000 in
theorem hcmp_any (a b : Hld) (w : World) : Calls Tryz.prog 40 #[.agg #[.int .i64 a.nd, .int .i64 a.fr, .int .i64 a.tt, .int .i64 a.sz, .int .i64 a.tk], .agg #[.int .i64 b.nd, .int .i64 b.fr, .int .i64 b.tt, .int .i64 b.sz, .int .i64 b.tk]] w fun e w' => e = .returned (.int .i64 (cmpH a b)) ∧ Below w.heap.size w w' := by
  obtain ⟨c0, hc0⟩ : ∃ c, cmpI a.nd b.nd = c := ⟨_, rfl⟩
  obtain ⟨c1, hc1⟩ : ∃ c, cmpI a.fr b.fr = c := ⟨_, rfl⟩
  obtain ⟨c2, hc2⟩ : ∃ c, cmpI a.tt b.tt = c := ⟨_, rfl⟩
  obtain ⟨c3, hc3⟩ : ∃ c, cmpI a.tk b.tk = c := ⟨_, rfl⟩
  obtain ⟨c4, hc4⟩ : ∃ c, cmpI a.sz b.sz = c := ⟨_, rfl⟩
  obtain ⟨r, hr⟩ : ∃ c, orL [c0, c1, c2, c3, c4] = c := ⟨_, rfl⟩
  rw [show cmpH a b = r from by unfold cmpH; rw [hc0, hc1, hc2, hc3, hc4, hr]]
  have HC0 := Lib.hid hc0
  have HC1 := Lib.hid hc1
  have HC2 := Lib.hid hc2
  have HC3 := Lib.hid hc3
  have HC4 := Lib.hid hc4
  have HR := Lib.hid hr
  clear hr hc0 hc1 hc2 hc3 hc4
  go_enter Tryz.func40, Tryz.ntmps40
  go_upto_region 1 with fail
  obtain ⟨W, hW⟩ : ∃ q, (w.alloc (.cells #[.int .i64 a.nd, .int .i64 a.fr, .int .i64 a.tt, .int .i64 a.sz, .int .i64 a.tk] 95)).alloc (.cells #[.int .i64 b.nd, .int .i64 b.fr, .int .i64 b.tt, .int .i64 b.sz, .int .i64 b.tk] 95) = q := ⟨_, rfl⟩
  rw [hW]
  have GA : W.heap[w.heap.size]? = some (.cells #[.int .i64 a.nd, .int .i64 a.fr, .int .i64 a.tt, .int .i64 a.sz, .int .i64 a.tk] 95 (0, 0)) := by rw [← hW]; exact (Below.heap_alloc _ _ _ (by simp)).trans heap_new
  have GB : W.heap[w.heap.size + 1]? = some (.cells #[.int .i64 b.nd, .int .i64 b.fr, .int .i64 b.tt, .int .i64 b.sz, .int .i64 b.tk] 95 (0, 0)) := by rw [← hW]; exact heap_new' (by simp)
  have hB : Below w.heap.size w W := by rw [← hW]; exact belowA
  have zW : w.heap.size + 1 < W.heap.size := by rw [← hW]; simp
  clear hW
  have ca := fun o => cellB GA o
  have cb := fun o => cellB GB o
  refine wp_region_plan (fun V => (∀ o, V.cell? ⟨w.heap.size, o, none⟩ = (#[.int .i64 a.nd, .int .i64 a.fr, .int .i64 a.tt, .int .i64 a.sz, .int .i64 a.tk])[o]?) ∧ (∀ o, V.cell? ⟨w.heap.size + 1, o, none⟩ = (#[.int .i64 b.nd, .int .i64 b.fr, .int .i64 b.tt, .int .i64 b.sz, .int .i64 b.tk])[o]?)) [0, 1, 0, 1, 2, 0, 1, 0, 1, 2, 0, 1, 0, 1, 2, 0, 1, 0, 1, 2, 0, 1, 0, 1, 3, 3, 3, 0] [0, 1, 2, 3, 5, 6, 7, 8, 10, 11, 12, 13, 15, 16, 17, 18, 20, 21, 22, 23, 4, 9, 14, 19, 24, 25, 26, 27] (by kernel_rfl) (by kernel_rfl) ?_ ?_
  case refine_1 => exact ⟨ca, cb⟩
  (iterate 20 (refine plan_held rfl (by decide) (by rfl) (fun w1 hS => by (try (have hS := hS rfl; obtain hS := hS; repeat (obtain ⟨_, hS⟩ := hS))); go_simp; rfl) ?_; simp only [Act.put, List.setIfInBounds_toArray, List.set_cons_zero, List.set_cons_succ]))
  (refine plan_keep rfl rfl (by rfl) (fun K hK => ?_); go_simp)
  refine (ccompare_any a.nd b.nd _).mono ?_
  rw [HC0.out]
  rintro e w3 ⟨rfl, rfl⟩
  (refine hK _ _ (by exact ⟨ca, cb⟩) ?_; clear hK K; (try simp only [Act.put, List.setIfInBounds_toArray, List.set_cons_zero, List.set_cons_succ]))
  (refine plan_keep rfl rfl (by rfl) (fun K hK => ?_); go_simp)
  refine (ccompare_any a.fr b.fr _).mono ?_
  rw [HC1.out]
  rintro e w3 ⟨rfl, rfl⟩
  (refine hK _ _ (by exact ⟨ca, cb⟩) ?_; clear hK K; (try simp only [Act.put, List.setIfInBounds_toArray, List.set_cons_zero, List.set_cons_succ]))
  (refine plan_keep rfl rfl (by rfl) (fun K hK => ?_); go_simp)
  refine (ccompare_any a.tt b.tt _).mono ?_
  rw [HC2.out]
  rintro e w3 ⟨rfl, rfl⟩
  (refine hK _ _ (by exact ⟨ca, cb⟩) ?_; clear hK K; (try simp only [Act.put, List.setIfInBounds_toArray, List.set_cons_zero, List.set_cons_succ]))
  (refine plan_keep rfl rfl (by rfl) (fun K hK => ?_); go_simp)
  refine (ccompare_any a.tk b.tk _).mono ?_
  rw [HC3.out]
  rintro e w3 ⟨rfl, rfl⟩
  (refine hK _ _ (by exact ⟨ca, cb⟩) ?_; clear hK K; (try simp only [Act.put, List.setIfInBounds_toArray, List.set_cons_zero, List.set_cons_succ]))
  (refine plan_late rfl rfl (by rfl) (fun K hK => ?_); go_simp)
  refine (ccompare_any a.sz b.sz _).mono ?_
  rw [HC4.out]
  rintro e w3 ⟨rfl, rfl⟩
  (refine hK _ _ ?_; clear hK K; (try simp only [Act.put, List.setIfInBounds_toArray, List.set_cons_zero, List.set_cons_succ]))
  (refine plan_late rfl rfl (by rfl) (fun K hK => ?_); go_simp)
  (refine hK _ _ ?_; clear hK K; (try simp only [Act.put, List.setIfInBounds_toArray, List.set_cons_zero, List.set_cons_succ]))
  (refine plan_late rfl rfl (by rfl) (fun K hK => ?_); go_simp)
  refine (cor_any [c0, c1, c2, c3, c4] _ _ (RRow.ints (l := [c0, c1, c2, c3, c4]) (t := 3) ?_ rfl ?_ (by simp))).mono ?_
  · exact heap_new
  · simp
  rw [HR.out]
  rintro e w8 ⟨rfl, rfl⟩
  (refine hK _ _ ?_; clear hK K; (try simp only [Act.put, List.setIfInBounds_toArray, List.set_cons_zero, List.set_cons_succ]))
  (iterate 1 (refine plan_held rfl (by decide) (by rfl) (fun w1 hS => by (try (have hS := hS rfl; obtain hS := hS; repeat (obtain ⟨_, hS⟩ := hS))); go_simp; rfl) ?_; simp only [Act.put, List.setIfInBounds_toArray, List.set_cons_zero, List.set_cons_succ]))
  refine plan_done ?_
  go_wp2
  go_ret
  exact ⟨rfl, belowA⟩
end Go.Proofs.YtkokiahmgmeokaaGreat
/- Labels: compare, same; ContainsFunc over labels. -/
set_option linter.unusedVariables false
set_option linter.unusedSimpArgs false
namespace Go.Proofs.YtkokiahmgmeokaaGreat
open Go Go.RowKit Iv
attribute [local go_sem] Oper.semAt_some
attribute [local go_sem] B_getElem B_size B_app B_extract B_get B_toList
structure Lbl where
  nd : Int
  fr : Int
  tt : Int
  tm : Int
def lblC (x : Lbl) : List Value := [.int .i64 x.nd, .int .i64 x.fr, .int .i64 x.tt, .int .i64 x.tm]
theorem lblC_len (x : Lbl) : (lblC x).length = 4 := rfl
def cmpL (a b : Lbl) : Int := orL [cmpI a.tm b.tm, cmpI a.nd b.nd, cmpI a.fr b.fr]
def sameL (a b : Lbl) : Bool := (a.nd == b.nd) && (a.fr == b.fr)
set_option maxRecDepth 100000 in
set_option maxHeartbeats 4000000 in
theorem lcmp_any (a b : Lbl) (w : World) : Calls Tryz.prog 63 #[.agg #[.int .i64 a.nd, .int .i64 a.fr, .int .i64 a.tt, .int .i64 a.tm], .agg #[.int .i64 b.nd, .int .i64 b.fr, .int .i64 b.tt, .int .i64 b.tm]] w fun e w' => e = .returned (.int .i64 (cmpL a b)) ∧ Below w.heap.size w w' := by
  obtain ⟨c0, hc0⟩ : ∃ c, cmpI a.tm b.tm = c := ⟨_, rfl⟩
  obtain ⟨c1, hc1⟩ : ∃ c, cmpI a.nd b.nd = c := ⟨_, rfl⟩
  obtain ⟨c2, hc2⟩ : ∃ c, cmpI a.fr b.fr = c := ⟨_, rfl⟩
  obtain ⟨r, hr⟩ : ∃ c, orL [c0, c1, c2] = c := ⟨_, rfl⟩
  rw [show cmpL a b = r from by unfold cmpL; rw [hc0, hc1, hc2, hr]]
  have HC0 := Lib.hid hc0
  have HC1 := Lib.hid hc1
  have HC2 := Lib.hid hc2
  have HR := Lib.hid hr
  clear hr hc0 hc1 hc2
  go_enter Tryz.func63, Tryz.ntmps63
  go_upto_region 1 with fail
  obtain ⟨W, hW⟩ : ∃ q, (w.alloc (.cells #[.int .i64 a.nd, .int .i64 a.fr, .int .i64 a.tt, .int .i64 a.tm] 129)).alloc (.cells #[.int .i64 b.nd, .int .i64 b.fr, .int .i64 b.tt, .int .i64 b.tm] 129) = q := ⟨_, rfl⟩
  rw [hW]
  have GA : W.heap[w.heap.size]? = some (.cells #[.int .i64 a.nd, .int .i64 a.fr, .int .i64 a.tt, .int .i64 a.tm] 129 (0, 0)) := by rw [← hW]; exact (Below.heap_alloc _ _ _ (by simp)).trans heap_new
  have GB : W.heap[w.heap.size + 1]? = some (.cells #[.int .i64 b.nd, .int .i64 b.fr, .int .i64 b.tt, .int .i64 b.tm] 129 (0, 0)) := by rw [← hW]; exact heap_new' (by simp)
  have hB : Below w.heap.size w W := by rw [← hW]; exact belowA
  have zW : w.heap.size + 1 < W.heap.size := by rw [← hW]; simp
  clear hW
  have ca := fun o => cellB GA o
  have cb := fun o => cellB GB o
  refine wp_region_plan (fun V => (∀ o, V.cell? ⟨w.heap.size, o, none⟩ = (#[.int .i64 a.nd, .int .i64 a.fr, .int .i64 a.tt, .int .i64 a.tm])[o]?) ∧ (∀ o, V.cell? ⟨w.heap.size + 1, o, none⟩ = (#[.int .i64 b.nd, .int .i64 b.fr, .int .i64 b.tt, .int .i64 b.tm])[o]?)) [0, 1, 0, 1, 2, 0, 1, 0, 1, 2, 0, 1, 0, 1, 3, 3, 3, 0] [0, 1, 2, 3, 5, 6, 7, 8, 10, 11, 12, 13, 4, 9, 14, 15, 16, 17] (by kernel_rfl) (by kernel_rfl) ?_ ?_
  case refine_1 => exact ⟨ca, cb⟩
  (iterate 12 (refine plan_held rfl (by decide) (by rfl) (fun w1 hS => by (try (have hS := hS rfl; obtain hS := hS; repeat (obtain ⟨_, hS⟩ := hS))); go_simp; rfl) ?_; simp only [Act.put, List.setIfInBounds_toArray, List.set_cons_zero, List.set_cons_succ]))
  (refine plan_keep rfl rfl (by rfl) (fun K hK => ?_); go_simp)
  refine (ccompare_any a.tm b.tm _).mono ?_
  rw [HC0.out]
  rintro e w3 ⟨rfl, rfl⟩
  (refine hK _ _ (by exact ⟨ca, cb⟩) ?_; clear hK K; (try simp only [Act.put, List.setIfInBounds_toArray, List.set_cons_zero, List.set_cons_succ]))
  (refine plan_keep rfl rfl (by rfl) (fun K hK => ?_); go_simp)
  refine (ccompare_any a.nd b.nd _).mono ?_
  rw [HC1.out]
  rintro e w3 ⟨rfl, rfl⟩
  (refine hK _ _ (by exact ⟨ca, cb⟩) ?_; clear hK K; (try simp only [Act.put, List.setIfInBounds_toArray, List.set_cons_zero, List.set_cons_succ]))
  (refine plan_late rfl rfl (by rfl) (fun K hK => ?_); go_simp)
  refine (ccompare_any a.fr b.fr _).mono ?_
  rw [HC2.out]
  rintro e w3 ⟨rfl, rfl⟩
  (refine hK _ _ ?_; clear hK K; (try simp only [Act.put, List.setIfInBounds_toArray, List.set_cons_zero, List.set_cons_succ]))
  (refine plan_late rfl rfl (by rfl) (fun K hK => ?_); go_simp)
  (refine hK _ _ ?_; clear hK K; (try simp only [Act.put, List.setIfInBounds_toArray, List.set_cons_zero, List.set_cons_succ]))
  (refine plan_late rfl rfl (by rfl) (fun K hK => ?_); go_simp)
  refine (cor_any [c0, c1, c2] _ _ (RRow.ints (l := [c0, c1, c2]) (t := 3) ?_ rfl ?_ (by simp))).mono ?_
  · exact heap_new
  · simp
  rw [HR.out]
  rintro e w8 ⟨rfl, rfl⟩
  (refine hK _ _ ?_; clear hK K; (try simp only [Act.put, List.setIfInBounds_toArray, List.set_cons_zero, List.set_cons_succ]))
  (iterate 1 (refine plan_held rfl (by decide) (by rfl) (fun w1 hS => by (try (have hS := hS rfl; obtain hS := hS; repeat (obtain ⟨_, hS⟩ := hS))); go_simp; rfl) ?_; simp only [Act.put, List.setIfInBounds_toArray, List.set_cons_zero, List.set_cons_succ]))
  refine plan_done ?_
  go_wp2
  go_ret
  exact ⟨rfl, belowA⟩
set_option maxRecDepth 100000 in
set_option maxHeartbeats 4000000 in
theorem same_any (a b : Lbl) (w : World) : Calls Tryz.prog 66 #[.agg #[.int .i64 a.nd, .int .i64 a.fr, .int .i64 a.tt, .int .i64 a.tm], .agg #[.int .i64 b.nd, .int .i64 b.fr, .int .i64 b.tt, .int .i64 b.tm]] w fun e w' => e = .returned (.bool (sameL a b)) ∧ Below w.heap.size w w' := by
  by_cases z : a.nd = b.nd
  · have e1 : (a.nd == b.nd) = true := by simpa using z
    have e : sameL a b = (a.fr == b.fr) := by unfold sameL; rw [e1, Bool.true_and]
    rw [e]
    clear z e
    go_enter Tryz.func66, Tryz.ntmps66
    go_wp2
    go_ret
    exact ⟨by simp, belowA⟩
  · have e1 : (a.nd == b.nd) = false := by simpa using z
    have e : sameL a b = false := by unfold sameL; rw [e1, Bool.false_and]
    rw [e]
    clear z e
    go_enter Tryz.func66, Tryz.ntmps66
    go_wp2
    go_ret
    exact ⟨by simp, belowA⟩
set_option maxRecDepth 100000 in
set_option maxHeartbeats 4000000 in
theorem lab1_any (x y : Lbl) (z : Nat) (w : World) (hz : w.heap[z]? = some (.cells #[.int .i64 x.nd, .int .i64 x.fr, .int .i64 x.tt, .int .i64 x.tm] 129 (0, 0))) :
    Calls Tryz.prog 65 #[.agg #[.int .i64 y.nd, .int .i64 y.fr, .int .i64 y.tt, .int .i64 y.tm], .pointer (some ⟨z, 0, none⟩)] w fun e w' => e = .returned (.bool (sameL x y)) ∧ Below w.heap.size w w' := by
  have cz := fun o => cellB hz o
  have hzl : z < w.heap.size := (Array.getElem?_eq_some_iff.1 hz).1
  obtain ⟨r, hr⟩ : ∃ r, sameL x y = r := ⟨_, rfl⟩
  have HR := Lib.hid hr
  rw [hr]
  clear hr hz
  go_enter Tryz.func65, Tryz.ntmps65
  go_wp2_with fail
  refine (same_any x y _).mono ?_
  rw [HR.out]
  rintro e w1 ⟨rfl, hb1⟩
  go_wp2
  go_ret
  exact ⟨rfl, belowA⟩
set_option maxRecDepth 100000 in
set_option maxHeartbeats 4000000 in
theorem lab2_any (x y : Lbl) (h : Int × Int × Int × Int) (z : Nat) (w : World) (hz : w.heap[z]? = some (.cells #[.int .i64 x.nd, .int .i64 x.fr, .int .i64 x.tt, .int .i64 x.tm, .int .i64 h.1, .int .i64 h.2.1, .int .i64 h.2.2.1, .int .i64 h.2.2.2] 134 (0, 0))) :
    Calls Tryz.prog 68 #[.agg #[.int .i64 y.nd, .int .i64 y.fr, .int .i64 y.tt, .int .i64 y.tm], .pointer (some ⟨z, 0, none⟩)] w fun e w' => e = .returned (.bool (sameL x y)) ∧ Below w.heap.size w w' := by
  have cz := fun o => cellB hz o
  have hzl : z < w.heap.size := (Array.getElem?_eq_some_iff.1 hz).1
  obtain ⟨r, hr⟩ : ∃ r, sameL x y = r := ⟨_, rfl⟩
  have HR := Lib.hid hr
  rw [hr]
  clear hr hz
  go_enter Tryz.func68, Tryz.ntmps68
  go_wp2_with fail
  refine (same_any x y _).mono ?_
  rw [HR.out]
  rintro e w1 ⟨rfl, hb1⟩
  go_wp2
  go_ret
  exact ⟨rfl, belowA⟩
def PredL (f : FuncId) (caps : Array Value) (Pd : Lbl → Bool) (w : World) (l : List Lbl) : Prop := (∀ args W, (callFunc f args).run Tryz.prog W = .ok (.enter f args) W) ∧
  ∀ (x : Lbl) (W : World), x ∈ l → Below w.heap.size w W → Calls Tryz.prog f (#[.agg #[.int .i64 x.nd, .int .i64 x.fr, .int .i64 x.tt, .int .i64 x.tm]] ++ caps) W fun e W' => e = .returned (.bool (Pd x)) ∧ Below W.heap.size W W'
theorem PredL.below {f : FuncId} {caps : Array Value} {Pd : Lbl → Bool} {w w' : World} {l : List Lbl} (h : PredL f caps Pd w l) (k : Below w.heap.size w w') : PredL f caps Pd w' l := ⟨h.1, fun x W hx hW => h.2 x W hx (btrans0 k hW)⟩
def PredLIdx (Pd : Lbl → Bool) (l : List Lbl) (w : World) (e : Ending) (w' : World) : Prop := Below w.heap.size w w' ∧
  ((e = .returned (.int .i64 (-1)) ∧ ∀ x ∈ l, Pd x = false) ∨ ∃ k : Nat, e = .returned (.int .i64 k) ∧ k < l.length ∧ (∀ x ∈ l.take k, Pd x = false) ∧ ∀ x, l[k]? = some x → Pd x = true)
set_option maxRecDepth 100000 in
set_option maxHeartbeats 2000000 in
theorem index_PredL (l : List Lbl) (u : Value) (f : FuncId) (caps : Array Value) (Pd : Lbl → Bool) (w : World) (h : RRow lblC 4 w w.heap.size u l) (hp : PredL f caps Pd w l) :
    Calls Tryz.prog 104 #[u, .func (.func f) #[] caps] w (PredLIdx Pd l w) := by
  obtain ⟨a, c, rfl, h1, h2, h3, h4⟩ := h
  unfold maxLen at h2
  have hlen : l.length ≤ 9223372036854775807 := by omega
  have H4 := Lib.hid h4
  obtain ⟨hcall, hq⟩ := hp
  have HP := Lib.hid hq
  clear h3 h4 hq
  go_enter Tryz.func104, Tryz.ntmps104
  go_wp2
  go_loopw [8] (fun i wr => ∃ k : Nat, k ≤ l.length ∧ i = .int .i64 k ∧ Hid (∀ x ∈ l.take k, Pd x = false) ∧ Below w.heap.size w wr) (fun i _ => l.length - (intOf i).toNat)
  case atStart => exact ⟨0, Nat.zero_le _, rfl, Lib.hid (by simp), Below.refl _ _⟩
  case round =>
    obtain ⟨k, hk, rfl, HF, hB⟩ := hrel
    by_cases hlt : k < l.length
    · obtain ⟨bb, o, rfl, hbn, hcell⟩ := H4.out (by omega)
      obtain ⟨x, hx⟩ : ∃ x, l[k]? = some x := ⟨_, List.getElem?_eq_getElem hlt⟩
      have q0 : wr.cell? ⟨bb, o + k * 4, none⟩ = some (.int .i64 x.nd) := (hB.cell (p := ⟨bb, o + k * 4 + 0, none⟩) hbn).trans (hcell k x hx 0 _ rfl)
      have q1 : wr.cell? ⟨bb, o + k * 4 + 1, none⟩ = some (.int .i64 x.fr) := (hB.cell (p := ⟨bb, o + k * 4 + 1, none⟩) hbn).trans (hcell k x hx 1 _ rfl)
      have q2 : wr.cell? ⟨bb, o + k * 4 + 2, none⟩ = some (.int .i64 x.tt) := (hB.cell (p := ⟨bb, o + k * 4 + 2, none⟩) hbn).trans (hcell k x hx 2 _ rfl)
      have q3 : wr.cell? ⟨bb, o + k * 4 + 3, none⟩ = some (.int .i64 x.tm) := (hB.cell (p := ⟨bb, o + k * 4 + 3, none⟩) hbn).trans (hcell k x hx 3 _ rfl)
      have k0 : (0 : Int) ≤ (k : Int) := by omega
      have k1 : (k : Int) < (l.length : Int) := by omega
      obtain ⟨q, hq⟩ : ∃ q, Pd x = q := ⟨_, rfl⟩
      have HQ := Lib.hid hq
      have HX := Lib.hid hx
      have hsz := hB.size
      clear hq hx hcell
      go_wp2_with fail
      refine (HP.out x _ (List.mem_of_getElem? HX.out) hB).mono ?_
      rw [HQ.out]
      rintro e w1 ⟨rfl, hb1⟩
      have hb2 : Below w.heap.size w w1 := belowA
      cases q with
      | false =>
        go_wp2
        go_roundw
        case rel =>
          refine ⟨k + 1, by omega, by go_num, Lib.hid ?_, hb2⟩
          intro y hy
          rw [List.take_add_one, HX.out] at hy
          rcases List.mem_append.1 hy with hy | hy
          · exact HF.out y hy
          · simp at hy; subst hy; exact HQ.out
        case measure => simp [intOf]; omega
      | true =>
        go_wp2
        go_ret
        exact ⟨hb2, .inr ⟨k, rfl, hlt, HF.out, fun y hy => by rw [HX.out] at hy; injection hy with hy; subst hy; exact HQ.out⟩⟩
    · obtain rfl : k = l.length := by omega
      go_wp2
      go_ret
      exact ⟨hB, .inl ⟨rfl, by have := HF.out; rwa [List.take_length] at this⟩⟩
set_option maxHeartbeats 1000000 in
theorem contains_PredL (l : List Lbl) (u : Value) (f : FuncId) (caps : Array Value) (Pd : Lbl → Bool) (w : World) (h : RRow lblC 4 w w.heap.size u l) (hp : PredL f caps Pd w l) :
    Calls Tryz.prog 67 #[u, .func (.func f) #[] caps] w fun e w' => e = .returned (.bool (l.any Pd)) ∧ Below w.heap.size w w' := by
  have HR := Lib.hid h
  have HP := Lib.hid hp
  clear h hp
  go_enter Tryz.func67, Tryz.ntmps67
  go_wp2_with fail
  refine (index_PredL l u f caps Pd _ HR.out HP.out).mono ?_
  rintro e w1 ⟨hb1, ⟨rfl, hF⟩ | ⟨k, rfl, hk, hF, hT⟩⟩
  · have HL : Hid (l.any Pd = false) := Lib.hid (by rw [List.any_eq_false]; intro x hx; rw [hF x hx]; simp)
    clear hF
    go_wp2
    go_ret
    exact ⟨by rw [HL.out]; rfl, hb1⟩
  · have HL : Hid (l.any Pd = true) := Lib.hid (by rw [List.any_eq_true]; exact ⟨l[k], List.getElem_mem hk, hT _ (List.getElem?_eq_getElem hk)⟩)
    clear hF hT
    go_wp2
    go_ret
    exact ⟨by rw [HL.out]; first | rfl | (simp; done), hb1⟩
end Go.Proofs.YtkokiahmgmeokaaGreat
/- Bookings: valid. -/
set_option linter.unusedVariables false
set_option linter.unusedSimpArgs false
namespace Go.Proofs.YtkokiahmgmeokaaGreat
open Go Go.RowKit Iv
attribute [local go_sem] Oper.semAt_some
attribute [local go_sem] B_getElem B_size B_app B_extract B_get B_toList

def BvPost (cs : List Con) (b : Bkg) (w : World) (e : Ending) (w' : World) : Prop := (∃ r : Bool, e = .returned (.bool r) ∧ (r = true → bVal cs b) ∧ (bVal cs b → r = true)) ∧ Below w.heap.size w w'
set_option maxRecDepth 100000 in
set_option maxHeartbeats 4000000 in
theorem bval_any (qs : List Int) (cs : List Con) (uq uc : Value) (b : Bkg) (w : World) (hq : RRow intC 1 w w.heap.size uq qs) (hc : RRow conC 7 w w.heap.size uc cs) :
    Calls Tryz.prog 37 #[.agg #[uq, uc], .agg #[.int .i64 b.ct, .int .i64 b.bg, .int .i64 b.en, .int .i64 b.tk]] w (BvPost cs b w) := by
  obtain ⟨ct, bg, en, tk⟩ := b
  obtain ⟨aq, cq, rfl, -⟩ := hq
  obtain ⟨ac, cc, rfl, c1, c2, c3, c4⟩ := hc
  unfold maxLen at c2
  have hlc : cs.length ≤ 9223372036854775807 := by omega
  have HD := Lib.hid c4
  clear c3 c4
  simp only
  by_cases z1 : ct < 0
  · have d1 : decide (ct < 0) = true := decide_eq_true z1
    have HN : Hid (¬ bVal cs ⟨ct, bg, en, tk⟩) := Lib.hid (fun h => by have : 0 ≤ ct := h.1.1; omega)
    clear z1
    go_enter Tryz.func37, Tryz.ntmps37
    go_wp2
    go_ret
    exact ⟨⟨false, rfl, (fun h => by cases h), fun h => absurd h HN.out⟩, belowA⟩
  obtain ⟨n, rfl⟩ : ∃ n : Nat, ct = (n : Int) := ⟨ct.toNat, by omega⟩
  have d1 : decide ((n : Int) < 0) = false := decide_eq_false z1
  have n0 : (0 : Int) ≤ (n : Int) := by omega
  by_cases z2 : n < cs.length
  case neg =>
    have d2 : decide ((n : Int) ≥ (cs.length : Int)) = true := decide_eq_true (by omega)
    have d2' : (cs.length : Int) ≤ (n : Int) := by omega
    have HN : Hid (¬ bVal cs ⟨n, bg, en, tk⟩) := Lib.hid (fun h => by have : (n : Int) < cs.length := h.1.2; omega)
    clear z1
    go_enter Tryz.func37, Tryz.ntmps37
    go_wp2
    go_ret
    exact ⟨⟨false, rfl, (fun h => by cases h), fun h => absurd h HN.out⟩, belowA⟩
  have d2 : decide ((n : Int) ≥ (cs.length : Int)) = false := decide_eq_false (by omega)
  have d2' : (n : Int) < (cs.length : Int) := by omega
  clear z1
  by_cases z3 : tk < 0
  · have d3 : decide (tk < 0) = true := decide_eq_true z3
    have HN : Hid (¬ bVal cs ⟨n, bg, en, tk⟩) := Lib.hid (fun h => by have : 0 ≤ tk := h.2.1.1; omega)
    clear z3
    go_enter Tryz.func37, Tryz.ntmps37
    go_wp2
    go_ret
    exact ⟨⟨false, rfl, (fun h => by cases h), fun h => absurd h HN.out⟩, belowA⟩
  have d3 : decide (tk < 0) = false := decide_eq_false z3
  by_cases z4 : tk > 1152921504606846976
  · have d4 : decide (tk > 1152921504606846976) = true := decide_eq_true z4
    have HN : Hid (¬ bVal cs ⟨n, bg, en, tk⟩) := Lib.hid (fun h => by have : tk ≤ 1152921504606846976 := h.2.1.2; omega)
    clear z3 z4
    go_enter Tryz.func37, Tryz.ntmps37
    go_wp2
    go_ret
    exact ⟨⟨false, rfl, (fun h => by cases h), fun h => absurd h HN.out⟩, belowA⟩
  have d4 : decide (tk > 1152921504606846976) = false := decide_eq_false z4
  have HTK : Hid (0 ≤ tk ∧ tk ≤ 1152921504606846976) := Lib.hid ⟨by omega, by omega⟩
  clear z3 z4
  obtain ⟨bb, o, rfl, hbn, hcell⟩ := HD.out (by omega)
  obtain ⟨x, hx⟩ : ∃ x, cs[n]? = some x := ⟨_, List.getElem?_eq_getElem z2⟩
  have q0 : w.cell? ⟨bb, o + n * 7, none⟩ = some (.int .i64 x.fr) := hcell n x hx 0 _ rfl
  have q1 : w.cell? ⟨bb, o + n * 7 + 1, none⟩ = some (.int .i64 x.tt) := hcell n x hx 1 _ rfl
  have q2 : w.cell? ⟨bb, o + n * 7 + 2, none⟩ = some (.int .i64 x.st) := hcell n x hx 2 _ rfl
  have q3 : w.cell? ⟨bb, o + n * 7 + 3, none⟩ = some (.int .i64 x.en) := hcell n x hx 3 _ rfl
  have q4 : w.cell? ⟨bb, o + n * 7 + 4, none⟩ = some (.int .i64 x.ra) := hcell n x hx 4 _ rfl
  have q5 : w.cell? ⟨bb, o + n * 7 + 5, none⟩ = some (.int .i64 x.rg) := hcell n x hx 5 _ rfl
  have q6 : w.cell? ⟨bb, o + n * 7 + 6, none⟩ = some (.int .i64 x.lo) := hcell n x hx 6 _ rfl
  have HX := Lib.hid hx
  clear hx hcell
  by_cases z5 : bg ≥ x.st
  case neg =>
    have d5 : decide (bg ≥ x.st) = false := decide_eq_false z5
    have HN : Hid (¬ bVal cs ⟨n, bg, en, tk⟩) := Lib.hid (fun h => by have : x.st ≤ bg := (h.2.2 x (by simpa using HX.out)).1; omega)
    clear z5
    go_enter Tryz.func37, Tryz.ntmps37
    go_wp2
    go_ret
    exact ⟨⟨false, rfl, (fun h => by cases h), fun h => absurd h HN.out⟩, belowA⟩
  have d5 : decide (bg ≥ x.st) = true := decide_eq_true z5
  by_cases z6 : bg < en
  case neg =>
    have d6 : decide (bg < en) = false := decide_eq_false z6
    have HN : Hid (¬ bVal cs ⟨n, bg, en, tk⟩) := Lib.hid (fun h => by have : bg < en := (h.2.2 x (by simpa using HX.out)).2.1; omega)
    clear z5 z6
    go_enter Tryz.func37, Tryz.ntmps37
    go_wp2
    go_ret
    exact ⟨⟨false, rfl, (fun h => by cases h), fun h => absurd h HN.out⟩, belowA⟩
  have d6 : decide (bg < en) = true := decide_eq_true z6
  by_cases z7 : en ≤ x.en
  case neg =>
    have d7 : decide (en ≤ x.en) = false := decide_eq_false z7
    have HN : Hid (¬ bVal cs ⟨n, bg, en, tk⟩) := Lib.hid (fun h => by have : en ≤ x.en := (h.2.2 x (by simpa using HX.out)).2.2; omega)
    clear z5 z6 z7
    go_enter Tryz.func37, Tryz.ntmps37
    go_wp2
    go_ret
    exact ⟨⟨false, rfl, (fun h => by cases h), fun h => absurd h HN.out⟩, belowA⟩
  have d7 : decide (en ≤ x.en) = true := decide_eq_true z7
  have HN : Hid (bVal cs ⟨n, bg, en, tk⟩) := Lib.hid ⟨⟨n0, d2'⟩, HTK.out, fun c hc => by
    have hc : cs[n]? = some c := by simpa using hc
    rw [HX.out] at hc; cases hc
    exact ⟨z5, z6, z7⟩⟩
  clear z5 z6 z7
  go_enter Tryz.func37, Tryz.ntmps37
  go_wp2
  go_ret
  exact ⟨⟨true, rfl, fun _ => HN.out, fun _ => rfl⟩, belowA⟩
end Go.Proofs.YtkokiahmgmeokaaGreat
