/- TopMirrorTight: contact: fits, Begin (printed by gen/g22.py) -/
import Derived.BigQuiet
import Derived.BigRegion
import Derived.Deep.DeepCutAuto
import Derived.Lib.MinMax
import Derived.Test.YtbpmccfbfpgijaaGreatNe
set_option linter.unusedVariables false
set_option linter.unusedSimpArgs false
namespace Go.Proofs.YtbpmccfbfpgijaaGreat
open Go Go.RowKit Iv
attribute [local go_sem] Oper.semAt_some
attribute [local go_sem] B_getElem B_size B_app B_extract B_get B_toList
theorem fits_ok (c : Con) (b : Int) (s : Nat) (w : World) (hc : chkCon c = 0) (s1 : 1 ≤ s) (hs : s ≤ 65536) (hb : c.st ≤ b) (b1 : b ≤ 1099511627776) :
    Calls Tryz.prog 140 #[.agg #[.int .i64 c.fr, .int .i64 c.tt, .int .i64 c.st, .int .i64 c.en, .int .i64 c.ra, .int .i64 c.rg, .int .i64 c.lo], .int .i64 b, .int .i64 (s : Int)] w fun e w' => e = .returned (.bool (decide (b ≤ c.en - durS c s))) ∧ Below w.heap.size w w' := by
  obtain ⟨D, hD⟩ : ∃ D, durS c s = D := ⟨_, rfl⟩
  have hf := con_facts hc
  have hdb := durS_bnd hf (by omega : 0 < s) hs
  have f1 := hf.st0
  have f2 := hf.en0
  have f3 := hf.en1
  have f4 := hf.rg0
  rw [hD] at hdb ⊢
  have HD := Lib.hid hD
  have HF := Lib.hid hf
  have d1 : decide (c.st ≤ b) = true := decide_eq_true hb
  have w1_ : IntKind.i64.wrap (c.en - D) = c.en - D := by rw [IntKind.wrap_i64]; omega
  clear hc hD hf
  go_enter Tryz.func140, Tryz.ntmps140
  go_upto_region 1 with fail
  obtain ⟨w1, hw1⟩ : ∃ q, w.alloc (.cells #[.int .i64 c.fr, .int .i64 c.tt, .int .i64 c.st, .int .i64 c.en, .int .i64 c.ra, .int .i64 c.rg, .int .i64 c.lo] 58) = q := ⟨_, rfl⟩
  rw [hw1]
  have B1 : Below w.heap.size w w1 := by rw [← hw1]; exact belowA
  have X1 : w1.heap[w.heap.size]? = some (.cells #[.int .i64 c.fr, .int .i64 c.tt, .int .i64 c.st, .int .i64 c.en, .int .i64 c.ra, .int .i64 c.rg, .int .i64 c.lo] 58 (0, 0)) := by rw [← hw1]; exact heap_new
  have z1 : w.heap.size < w1.heap.size := (Array.getElem?_eq_some_iff.1 X1).1
  have cb := fun o => cellB X1 o
  have HX1 := Lib.hid X1
  clear X1 hw1
  refine wp_region_plan (fun V => Below (w1).heap.size (w1) V) [0, 0, 1, 0, 0, 0, 0, 1, 1, 0, 2, 0, 0, 0, 0] [0, 1, 2, 3, 4, 5, 6, 7, 8, 9, 10, 11, 12, 13, 14] (by kernel_rfl) (by kernel_rfl) ?_ ?_
  case refine_1 => exact belowA
  (iterate 10 (first | (refine plan_held rfl (by decide) (by rfl) (fun w1 hS => by (try (obtain ⟨_, _⟩ := bcell (hS rfl))); go_simp; rfl) ?_; simp only [Act.put, List.setIfInBounds_toArray, List.set_cons_zero, List.set_cons_succ]) | (refine plan_skip rfl (by decide) (by rfl) ?_; simp only [Act.put, List.setIfInBounds_toArray, List.set_cons_zero, List.set_cons_succ])))
  (refine plan_keep rfl rfl (by rfl) (fun K hK => ?_); go_simp)
  refine (dur_any c s _ HF.out hs).mono ?_
  rw [HD.out]
  rintro e wc17 ⟨rfl, hbc17⟩
  (refine hK _ _ (by exact belowA) ?_; clear hK K; (try simp only [Act.put, List.setIfInBounds_toArray, List.set_cons_zero, List.set_cons_succ]))
  (iterate 4 (first | (refine plan_held rfl (by decide) (by rfl) (fun w1 hS => by (try (obtain ⟨_, _⟩ := bcell (hS rfl))); go_simp; rfl) ?_; simp only [Act.put, List.setIfInBounds_toArray, List.set_cons_zero, List.set_cons_succ]) | (refine plan_skip rfl (by decide) (by rfl) ?_; simp only [Act.put, List.setIfInBounds_toArray, List.set_cons_zero, List.set_cons_succ])))
  refine plan_done ?_
  go_wp2
  go_ret
  refine ⟨?_, belowA⟩
  simp [*]
def begS (c : Con) (s : Nat) (t : Int) : Int × Int := if max t c.st ≤ c.en - durS c s then (max t c.st, 0) else (0, 16)
theorem Begin_ok (c : Con) (t : Int) (s : Nat) (w : World) (hc : chkCon c = 0) (s1 : 1 ≤ s) (hs : s ≤ 65536) (t0 : 0 ≤ t) (t1 : t ≤ 1099511627776) :
    Calls Tryz.prog 113 #[.agg #[.int .i64 c.fr, .int .i64 c.tt, .int .i64 c.st, .int .i64 c.en, .int .i64 c.ra, .int .i64 c.rg, .int .i64 c.lo], .int .i64 t, .int .i64 (s : Int)] w fun e w' => e = .returned (.tuple #[.int .i64 (begS c s t).1, .int .i64 (begS c s t).2]) ∧ Below w.heap.size w w' := by
  have hf := con_facts hc
  have f2 := hf.en0
  have f3 := hf.en1
  have f4 := hf.rg0
  obtain ⟨M, hM⟩ : ∃ M, max t c.st = M := ⟨_, rfl⟩
  have m1 : c.st ≤ M := by omega
  have m2 : M ≤ 1099511627776 := by omega
  have HC := Lib.hid hc
  obtain ⟨F, hF⟩ : ∃ F, decide (M ≤ c.en - durS c s) = F := ⟨_, rfl⟩
  have HF := Lib.hid hF
  have hbs : begS c s t = if F = true then (M, 0) else (0, 16) := by unfold begS; rw [hM, ← hF]; simp
  rw [hbs]
  clear hc hf hF hbs
  go_enter Tryz.func113, Tryz.ntmps113
  go_upto_region 1 with fail
  obtain ⟨w1, hw1⟩ : ∃ q, w.alloc (.cells #[.int .i64 c.fr, .int .i64 c.tt, .int .i64 c.st, .int .i64 c.en, .int .i64 c.ra, .int .i64 c.rg, .int .i64 c.lo] 58) = q := ⟨_, rfl⟩
  rw [hw1]
  have B1 : Below w.heap.size w w1 := by rw [← hw1]; exact belowA
  have X1 : w1.heap[w.heap.size]? = some (.cells #[.int .i64 c.fr, .int .i64 c.tt, .int .i64 c.st, .int .i64 c.en, .int .i64 c.ra, .int .i64 c.rg, .int .i64 c.lo] 58 (0, 0)) := by rw [← hw1]; exact heap_new
  have z1 : w.heap.size < w1.heap.size := (Array.getElem?_eq_some_iff.1 X1).1
  have cb := fun o => cellB X1 o
  have HX1 := Lib.hid X1
  clear X1 hw1
  go_wp2_with fail
  refine (check_ok c s _ HC.out s1 hs).mono ?_
  rintro e w2 ⟨rfl, hb2⟩
  have B2 : Below w.heap.size w w2 := btrans0 B1 hb2
  have HX2 : Hid (w2.heap[w.heap.size]? = some (.cells #[.int .i64 c.fr, .int .i64 c.tt, .int .i64 c.st, .int .i64 c.en, .int .i64 c.ra, .int .i64 c.rg, .int .i64 c.lo] 58 (0, 0))) := Lib.hid ((hb2.block _ z1).trans HX1.out)
  have z2 : w.heap.size < w2.heap.size := by have := hb2.size; omega
  clear hb2 cb
  have cb := fun o => cellB HX2.out o
  go_wp2_with fail
  refine (fits_ok c M s _ HC.out s1 hs m1 m2).mono ?_
  rw [HF.out]
  rintro e w3 ⟨rfl, hb3⟩
  have B3 : Below w.heap.size w w3 := btrans0 B2 hb3
  cases F with
  | true =>
    go_wp2
    go_ret2
    exact ⟨by (first | rfl | (simp; done)), B3⟩
  | false =>
    go_wp2
    go_ret2
    exact ⟨by (first | rfl | (simp; done)), B3⟩
end Go.Proofs.YtbpmccfbfpgijaaGreat
