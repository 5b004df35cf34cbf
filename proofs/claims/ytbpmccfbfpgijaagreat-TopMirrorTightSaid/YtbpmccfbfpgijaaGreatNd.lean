/- TopMirrorTight: contact: duration (printed by gen/g22.py) -/
import Derived.BigQuiet
import Derived.BigRegion
import Derived.Deep.DeepCutAuto
import Derived.Test.YtbpmccfbfpgijaaGreatNc
set_option linter.unusedVariables false
set_option linter.unusedSimpArgs false
namespace Go.Proofs.YtbpmccfbfpgijaaGreat
open Go Go.RowKit Iv
attribute [local go_sem] Oper.semAt_some
attribute [local go_sem] B_getElem B_size B_app B_extract B_get B_toList
/-- a contact's numbers are in their bounds -/
structure CF (c : Con) : Prop where
  fr0 : 0 ≤ c.fr
  fr1 : c.fr ≤ 15
  tt0 : 0 ≤ c.tt
  tt1 : c.tt ≤ 15
  ra0 : 1 ≤ c.ra
  ra1 : c.ra ≤ 1000
  rg0 : 1 ≤ c.rg
  rg1 : c.rg ≤ 1048576
  lo0 : 0 ≤ c.lo
  lo1 : c.lo ≤ 16
  ne : c.fr ≠ c.tt
  st0 : 0 ≤ c.st
  en0 : c.st < c.en
  en1 : c.en ≤ 1099511627776 - 2 * c.rg
theorem con_facts {c : Con} (h : chkCon c = 0) : CF c := by
  unfold chkCon at h
  split at h
  · cases h
  · rename_i h1
    split at h
    · cases h
    · rename_i h2
      split at h
      · cases h
      · rename_i h3
        have g : ∀ n lo hi : Int, ¬ wth n lo hi = false → lo ≤ n ∧ n ≤ hi := fun n lo hi hz => wth_iff.1 (by simpa using hz)
        have g1 := g _ _ _ (fun z => h1 (.inl z))
        have g2 := g _ _ _ (fun z => h1 (.inr (.inl z)))
        have g3 := g _ _ _ (fun z => h1 (.inr (.inr (.inl z))))
        have g4 := g _ _ _ (fun z => h1 (.inr (.inr (.inr (.inl z)))))
        have g5 := g _ _ _ (fun z => h1 (.inr (.inr (.inr (.inr z)))))
        exact ⟨g1.1, g1.2, g2.1, g2.2, g3.1, g3.2, g4.1, g4.2, g5.1, g5.2, h2, by omega, by omega, by omega⟩
theorem passS_bnd {c : Con} (hc : CF c) (s : Nat) (hs : s ≤ 65536) : 0 ≤ passS c s ∧ passS c s ≤ 1572864 := by
  have h1 := sum_bnd hc.ra0 hc.ra1 (segs s) (segs_bnd s)
  have h2 := segs_len s
  unfold passS
  omega
theorem passS_pos {c : Con} (hc : CF c) {s : Nat} (hs : 0 < s) : 1 ≤ passS c s := by
  have h1 := sum_bnd hc.ra0 hc.ra1 (segs s) (segs_bnd s)
  have h2 : 0 < (segs s).length := by rw [segs_pos hs]; simp
  unfold passS
  omega
theorem lo_bnd {c : Con} (hc : CF c) {X : Int} (h0 : 0 ≤ X) (h1 : X ≤ 3000000) : 0 ≤ c.lo * X ∧ c.lo * X ≤ 48000000 := by
  have a := hc.lo0
  have b := hc.lo1
  refine ⟨Int.mul_nonneg a h0, ?_⟩
  have : c.lo * X ≤ 16 * X := Int.mul_le_mul_of_nonneg_right b h0
  omega
theorem durS_bnd {c : Con} (hc : CF c) {s : Nat} (hs : 0 < s) (hs2 : s ≤ 65536) : 1 ≤ durS c s ∧ durS c s ≤ 50000000 := by
  have h1 := passS_pos hc hs
  have h2 := passS_bnd hc s hs2
  have h3 := tickS_bnd hc.ra0 hc.ra1 (n := 16) (by omega) (by omega)
  have h4 := hc.rg0
  have h5 := hc.rg1
  have h6 := lo_bnd hc (X := 2 * c.rg + 1 + tickS c 16) (by omega) (by omega)
  unfold durS
  omega
set_option maxRecDepth 100000 in
set_option maxHeartbeats 2000000 in
theorem dur_any (c : Con) (s : Nat) (w : World) (hc : CF c) (hs : s ≤ 65536) :
    Calls Tryz.prog 41 #[.agg #[.int .i64 c.fr, .int .i64 c.tt, .int .i64 c.st, .int .i64 c.en, .int .i64 c.ra, .int .i64 c.rg, .int .i64 c.lo], .int .i64 (s : Int)] w fun e w' => e = .returned (.int .i64 (durS c s)) ∧ Below w.heap.size w w' := by
  have h2 := passS_bnd hc s hs
  have h3 := tickS_bnd hc.ra0 hc.ra1 (n := 16) (by omega) (by omega)
  have h4 := hc.rg0
  have h5 := hc.rg1
  have h6 := lo_bnd hc (X := 2 * c.rg + 1 + tickS c 16) (by omega) (by omega)
  obtain ⟨D, hD⟩ : ∃ D, durS c s = D := ⟨_, rfl⟩
  have hD2 : D = passS c s + c.lo * (2 * c.rg + 1 + tickS c 16) := by rw [← hD]; rfl
  rw [hD]
  obtain ⟨P, hP⟩ : ∃ P, passS c s = P := ⟨_, rfl⟩
  obtain ⟨T, hT⟩ : ∃ T, tickS c 16 = T := ⟨_, rfl⟩
  rw [hP] at h2 hD2
  rw [hT] at h3 h6 hD2
  have w1_ : IntKind.i64.wrap (2 * c.rg) = 2 * c.rg := by rw [IntKind.wrap_i64]; omega
  have w2_ : IntKind.i64.wrap (2 * c.rg + 1) = 2 * c.rg + 1 := by rw [IntKind.wrap_i64]; omega
  have w3_ : IntKind.i64.wrap (2 * c.rg + 1 + T) = 2 * c.rg + 1 + T := by rw [IntKind.wrap_i64]; omega
  have w4_ : IntKind.i64.wrap (c.lo * (2 * c.rg + 1 + T)) = c.lo * (2 * c.rg + 1 + T) := by rw [IntKind.wrap_i64]; omega
  have w5_ : IntKind.i64.wrap (P + c.lo * (2 * c.rg + 1 + T)) = D := by rw [IntKind.wrap_i64]; omega
  have HP := Lib.hid hP
  have HT := Lib.hid hT
  have HC := Lib.hid hc
  clear hD hD2 hP hT h2 h3 h4 h5 h6 hc
  go_enter Tryz.func41, Tryz.ntmps41
  go_upto_region 1 with fail
  obtain ⟨w1, hw1⟩ : ∃ q, w.alloc (.cells #[.int .i64 c.fr, .int .i64 c.tt, .int .i64 c.st, .int .i64 c.en, .int .i64 c.ra, .int .i64 c.rg, .int .i64 c.lo] 58) = q := ⟨_, rfl⟩
  rw [hw1]
  have B1 : Below w.heap.size w w1 := by rw [← hw1]; exact belowA
  have X1 : w1.heap[w.heap.size]? = some (.cells #[.int .i64 c.fr, .int .i64 c.tt, .int .i64 c.st, .int .i64 c.en, .int .i64 c.ra, .int .i64 c.rg, .int .i64 c.lo] 58 (0, 0)) := by rw [← hw1]; exact heap_new
  have z1 : w.heap.size < w1.heap.size := (Array.getElem?_eq_some_iff.1 X1).1
  have cb := fun o => cellB X1 o
  have HX1 := Lib.hid X1
  clear X1 hw1
  refine wp_region_plan (fun V => Below (w1).heap.size (w1) V) [1, 0, 2, 0, 1, 0, 1, 0, 0, 1, 2, 0, 0, 0, 0] [0, 1, 3, 4, 5, 6, 7, 8, 9, 2, 10, 11, 12, 13, 14] (by kernel_rfl) (by kernel_rfl) ?_ ?_
  case refine_1 => exact belowA
  (iterate 9 (first | (refine plan_held rfl (by decide) (by rfl) (fun w1 hS => by (try (obtain ⟨_, _⟩ := bcell (hS rfl))); go_simp; rfl) ?_; simp only [Act.put, List.setIfInBounds_toArray, List.set_cons_zero, List.set_cons_succ]) | (refine plan_skip rfl (by decide) (by rfl) ?_; simp only [Act.put, List.setIfInBounds_toArray, List.set_cons_zero, List.set_cons_succ])))
  (refine plan_keep rfl rfl (by rfl) (fun K hK => ?_); go_simp)
  refine (pass_any c s _ HC.out.ra0 HC.out.ra1 hs).mono ?_
  rw [HP.out]
  rintro e wc7 ⟨rfl, hbc7⟩
  (refine hK _ _ (by exact belowA) ?_; clear hK K; (try simp only [Act.put, List.setIfInBounds_toArray, List.set_cons_zero, List.set_cons_succ]))
  (refine plan_keep rfl rfl (by rfl) (fun K hK => ?_); go_simp)
  refine (tick_any c 16 _ HC.out.ra0 HC.out.ra1 (by omega) (by omega)).mono ?_
  rw [HT.out]
  rintro e wc15 ⟨rfl, hbc15⟩
  (refine hK _ _ (by exact belowA) ?_; clear hK K; (try simp only [Act.put, List.setIfInBounds_toArray, List.set_cons_zero, List.set_cons_succ]))
  (iterate 4 (first | (refine plan_held rfl (by decide) (by rfl) (fun w1 hS => by (try (obtain ⟨_, _⟩ := bcell (hS rfl))); go_simp; rfl) ?_; simp only [Act.put, List.setIfInBounds_toArray, List.set_cons_zero, List.set_cons_succ]) | (refine plan_skip rfl (by decide) (by rfl) ?_; simp only [Act.put, List.setIfInBounds_toArray, List.set_cons_zero, List.set_cons_succ])))
  refine plan_done ?_
  go_wp2
  go_ret
  refine ⟨?_, belowA⟩
  simp [*]
end Go.Proofs.YtbpmccfbfpgijaaGreat
