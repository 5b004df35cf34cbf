/- Joined by port.py: XQs -/
import Derived.Test.YtmknchdciblfjaaGreatKe
import Derived.BigRegion
import Derived.Deep.DeepCutAuto
import Derived.Deep.CutBlock
import Derived.Test.YtmknchdciblfjaaGreatJa
import Derived.Test.YtmknchdciblfjaaGreatJb
import Derived.Test.YtmknchdciblfjaaGreatJc
import Derived.Test.YtmknchdciblfjaaGreatJh
import Derived.Test.YtmknchdciblfjaaGreatJo
import Derived.Test.YtmknchdciblfjaaGreatJp
import Derived.Test.YtmknchdciblfjaaGreatJqz
import Derived.Test.YtmknchdciblfjaaGreatKaz
import Derived.Test.YtmknchdciblfjaaGreatJw
import Derived.Test.YtmknchdciblfjaaGreatKb
import Derived.Test.YtmknchdciblfjaaGreatKc
set_option linter.unusedVariables false
set_option linter.unusedSimpArgs false
/-! XQs -/
namespace Go.Proofs.YtmknchdciblfjaaGreat
open Go.RowKit Go.Shelf
attribute [local go_sem] Oper.semAt_some
attribute [local go_sem] B_getElem B_size B_app B_extract B_get B_toList
attribute [local go_sem ↓] neEndI
section
variable {P : Program} {Q : Exit → Act → World → Prop} {S : World → Prop} {kd : List Nat}
theorem plan_skipK {l rl : List Oper} {i : Nat} {r : List Nat} {o : Oper} {a : Act} {w : World} (hd : l.drop i = o :: rl) (hk : kd.getD i 2 = 2) (hw : Region.wanted o (yielded l.toArray a.tmps) = false)
    (hS : S w) (h : wpPlan P l.toArray Q S kd r (a.put o.dst undef) w) : wpPlan P l.toArray Q S kd (i :: r) a w := by
  have ho := drop_get hd
  unfold wpPlan
  rw [ho]
  simp only
  rw [if_neg (by omega), if_pos hk]
  unfold wpOp
  simp only [ho, hw]
  exact ⟨hS, h⟩
end
def SepPost (r : List Bun × Int) (w : World) (e : Ending) (w' : World) : Prop := ∃ v, e = .returned (.tuple #[v, .int .i64 r.2]) ∧ RBuns w' w'.heap.size v r.1 ∧ Below w.heap.size w w'
set_option maxRecDepth 100000 in
set_option maxHeartbeats 16000000 in
theorem sep_any (b : Bun) (u : Value) (w : World) (h : RBlks w w.heap.size u b.blocks) (hf : Fits b) :
    Calls Tryz.prog 9 #[.agg (bunC b u).toArray] w (SepPost (sepS b) w) := by
  obtain ⟨E, hE⟩ : ∃ E, chkE b = E := ⟨_, rfl⟩
  obtain ⟨ua, uc, rfl, _⟩ := id h
  have HR := Lib.hid h
  have HF := Lib.hid hf
  have HE := Lib.hid hE
  clear h hf
  by_cases z : E = 0
  case neg =>
    have z' : (E != 0) = true := by simpa using z
    have HS : Hid (sepS b = ([], E)) := Lib.hid (by unfold sepS; rw [if_pos (by rw [hE]; exact z), hE])
    rw [HS.out]
    clear hE z
    go_enter Tryz.func9, Tryz.ntmps9
    simp only [bunC]
    go_wp2_with fail
    refine (check_any b _ _ (HR.out.below (C := w.heap.size) belowA (Nat.le_refl _) (by simp)) HF.out).mono ?_
    rintro e w1 ⟨rfl, hb1⟩
    rw [HE.out]
    go_wp2
    go_ret2
    exact ⟨_, rfl, rbuns_nil _ _, belowA⟩
  subst z
  obtain ⟨J, hJ⟩ : ∃ J, joinedB b = J := ⟨_, rfl⟩
  have HJ := Lib.hid hJ
  cases J with
  | false =>
    have HS : Hid (sepS b = ([], 8)) := Lib.hid (by unfold sepS; rw [if_neg (by simpa using hE), if_pos hJ])
    rw [HS.out]
    clear hE hJ
    go_enter Tryz.func9, Tryz.ntmps9
    simp only [bunC]
    go_wp2_with fail
    refine (check_any b _ _ (HR.out.below (C := w.heap.size) belowA (Nat.le_refl _) (by simp)) HF.out).mono ?_
    rintro e w1 ⟨rfl, hb1⟩
    rw [HE.out]
    have z1 : w.heap.size < w1.heap.size := by have := hb1.size; (try simp at this); omega
    have hB1 : Below w.heap.size w w1 := btrans0 (balloc0 (Below.refl _ _)) hb1
    have G1 : w1.heap[w.heap.size]? = some (.cells (bunC b (.slice ua b.blocks.length uc)).toArray 32 (0, 0)) := (hb1.block _ (by simp)).trans heap_new
    have ca := fun o => cellB G1 o
    simp only [bunC] at ca
    have HG1 := Lib.hid G1
    have HB1 := Lib.hid hB1
    clear G1 hb1
    go_wp2_with fail
    refine (joined_any b _ _ (HR.out.below HB1.out (Nat.le_refl _) HB1.out.size) HE.out).mono ?_
    rintro e w2 ⟨rfl, hb2⟩
    rw [HJ.out]
    have hB1 := HB1.out
    go_wp2
    go_ret2
    exact ⟨_, rfl, rbuns_nil _ _, belowA⟩
  | true =>
  have hp := chk_pay hE
  obtain ⟨⟨l, ok⟩, hrd⟩ : ∃ q, rdB b.payload = q := ⟨_, rfl⟩
  have hS : sepS b = if ok = false ∨ chkJ l ≠ 0 ∨ ¬ crtS l < endS l ∨ payS l ≠ b.payload then (([], 11) : List Bun × Int) else sepL b l := by
    unfold sepS
    rw [if_neg (by simpa using hE), if_neg (by rw [hJ]; simp), hrd]
  have HRD := Lib.hid hrd
  have HS := Lib.hid hS
  have hpl : b.payload.length ≤ 1000000 := by omega
  clear hE hJ hS
  cases ok with
  | false =>
    have HS2 : Hid (sepS b = ([], 11)) := Lib.hid (by rw [HS.out, if_pos (Or.inl rfl)])
    rw [HS2.out]
    clear hrd
    go_enter Tryz.func9, Tryz.ntmps9
    simp only [bunC]
    go_wp2_with fail
    refine (check_any b _ _ (HR.out.below (C := w.heap.size) belowA (Nat.le_refl _) (by simp)) HF.out).mono ?_
    rintro e w1 ⟨rfl, hb1⟩
    rw [HE.out]
    have z1 : w.heap.size < w1.heap.size := by have := hb1.size; (try simp at this); omega
    have hB1 : Below w.heap.size w w1 := btrans0 (balloc0 (Below.refl _ _)) hb1
    have G1 : w1.heap[w.heap.size]? = some (.cells (bunC b (.slice ua b.blocks.length uc)).toArray 32 (0, 0)) := (hb1.block _ (by simp)).trans heap_new
    have ca := fun o => cellB G1 o
    simp only [bunC] at ca
    have HG1 := Lib.hid G1
    have HB1 := Lib.hid hB1
    clear G1 hb1
    go_wp2_with fail
    refine (joined_any b _ _ (HR.out.below HB1.out (Nat.le_refl _) HB1.out.size) HE.out).mono ?_
    rintro e w2 ⟨rfl, hb2⟩
    rw [HJ.out]
    have hB2 : Below w.heap.size w w2 := btrans0 HB1.out hb2
    have z2 : w.heap.size < w2.heap.size := by have := hb2.size; omega
    have G2 := (hb2.block _ z1).trans HG1.out
    clear ca
    have ca := fun o => cellB G2 o
    simp only [bunC] at ca
    have HG2 := Lib.hid G2
    clear G2 hb2
    go_wp2_with fail
    refine (read_any b.payload hpl _).mono ?_
    rw [HRD.out]
    unfold ReadPost
    rintro e w3 ⟨v, rfl, hrv, hb3⟩
    simp only at hrv
    have hB3 : Below w.heap.size w w3 := btrans0 hB2 hb3
    have z3 : w.heap.size < w3.heap.size := by have := hb3.size; omega
    have G3 := (hb3.block _ z2).trans HG2.out
    clear ca
    have ca := fun o => cellB G3 o
    simp only [bunC] at ca
    obtain ⟨va, vc, rfl, vx⟩ := id hrv
    have HV := Lib.hid hrv
    have HG3 := Lib.hid G3
    have HB3 := Lib.hid hB3
    clear G3 hb3 hrv hB2 vx
    go_upto_region 7 with fail
    refine wp_region_plan (fun V => Below (w3).heap.size (w3) V) [0, 0, 0, 0, 2, 0, 0, 0, 0, 2, 0, 0, 0, 0, 2, 0, 1, 0, 0] [0, 1, 2, 3, 4, 5, 6, 7, 8, 9, 10, 11, 12, 13, 15, 16, 14, 17, 18] (by kernel_rfl) (by kernel_rfl) ?_ ?_
    case refine_1 => exact belowA
    (iterate 4 (first | (refine plan_held rfl (by decide) (by rfl) (fun w1 hS => by (try (obtain ⟨_, _⟩ := bcell (hS rfl))); go_simp; rfl) ?_; simp only [Act.put, List.setIfInBounds_toArray, List.set_cons_zero, List.set_cons_succ]) | (refine plan_skip rfl (by decide) (by rfl) ?_; simp only [Act.put, List.setIfInBounds_toArray, List.set_cons_zero, List.set_cons_succ])))
    (refine plan_skipK rfl (by decide) (by rfl) belowA ?_; simp only [Act.put, List.setIfInBounds_toArray, List.set_cons_zero, List.set_cons_succ])
    (iterate 4 (first | (refine plan_held rfl (by decide) (by rfl) (fun w1 hS => by (try (obtain ⟨_, _⟩ := bcell (hS rfl))); go_simp; rfl) ?_; simp only [Act.put, List.setIfInBounds_toArray, List.set_cons_zero, List.set_cons_succ]) | (refine plan_skip rfl (by decide) (by rfl) ?_; simp only [Act.put, List.setIfInBounds_toArray, List.set_cons_zero, List.set_cons_succ])))
    (refine plan_skipK rfl (by decide) (by rfl) belowA ?_; simp only [Act.put, List.setIfInBounds_toArray, List.set_cons_zero, List.set_cons_succ])
    (iterate 6 (first | (refine plan_held rfl (by decide) (by rfl) (fun w1 hS => by (try (obtain ⟨_, _⟩ := bcell (hS rfl))); go_simp; rfl) ?_; simp only [Act.put, List.setIfInBounds_toArray, List.set_cons_zero, List.set_cons_succ]) | (refine plan_skip rfl (by decide) (by rfl) ?_; simp only [Act.put, List.setIfInBounds_toArray, List.set_cons_zero, List.set_cons_succ])))
    (refine plan_skipK rfl (by decide) (by rfl) belowA ?_; simp only [Act.put, List.setIfInBounds_toArray, List.set_cons_zero, List.set_cons_succ])
    (iterate 2 (first | (refine plan_held rfl (by decide) (by rfl) (fun w1 hS => by (try (obtain ⟨_, _⟩ := bcell (hS rfl))); go_simp; rfl) ?_; simp only [Act.put, List.setIfInBounds_toArray, List.set_cons_zero, List.set_cons_succ]) | (refine plan_skip rfl (by decide) (by rfl) ?_; simp only [Act.put, List.setIfInBounds_toArray, List.set_cons_zero, List.set_cons_succ])))
    refine plan_done ?_
    go_wp2
    go_ret2
    exact ⟨_, rfl, rbuns_nil _ _, belowA⟩
  | true =>
  obtain ⟨hpay, hall, hll⟩ := rd_pay hrd
  have HL : Hid (∀ x ∈ l, Fits x) := Lib.hid (fun x hx => fits_valid (hall x hx))
  have HALL := Lib.hid hall
  have HP := Lib.hid hpay
  have hl4 : l.length ≤ 4096 := by omega
  clear hrd hall hpay hll
  obtain ⟨C, hC⟩ : ∃ q, chkJ l = q := ⟨_, rfl⟩
  have HC := Lib.hid hC
  clear hC
  by_cases hC0 : C = 0
  case neg =>
    have dC : (C != 0) = true := by simpa using hC0
    have HS2 : Hid (sepS b = ([], 11)) := Lib.hid (by rw [HS.out, if_pos (Or.inr (Or.inl (by rw [HC.out]; exact hC0)))])
    rw [HS2.out]
    clear hC0
    go_enter Tryz.func9, Tryz.ntmps9
    simp only [bunC]
    go_wp2_with fail
    refine (check_any b _ _ (HR.out.below (C := w.heap.size) belowA (Nat.le_refl _) (by simp)) HF.out).mono ?_
    rintro e w1 ⟨rfl, hb1⟩
    rw [HE.out]
    have z1 : w.heap.size < w1.heap.size := by have := hb1.size; (try simp at this); omega
    have hB1 : Below w.heap.size w w1 := btrans0 (balloc0 (Below.refl _ _)) hb1
    have G1 : w1.heap[w.heap.size]? = some (.cells (bunC b (.slice ua b.blocks.length uc)).toArray 32 (0, 0)) := (hb1.block _ (by simp)).trans heap_new
    have ca := fun o => cellB G1 o
    simp only [bunC] at ca
    have HG1 := Lib.hid G1
    have HB1 := Lib.hid hB1
    clear G1 hb1
    go_wp2_with fail
    refine (joined_any b _ _ (HR.out.below HB1.out (Nat.le_refl _) HB1.out.size) HE.out).mono ?_
    rintro e w2 ⟨rfl, hb2⟩
    rw [HJ.out]
    have hB2 : Below w.heap.size w w2 := btrans0 HB1.out hb2
    have z2 : w.heap.size < w2.heap.size := by have := hb2.size; omega
    have G2 := (hb2.block _ z1).trans HG1.out
    clear ca
    have ca := fun o => cellB G2 o
    simp only [bunC] at ca
    have HG2 := Lib.hid G2
    clear G2 hb2
    go_wp2_with fail
    refine (read_any b.payload hpl _).mono ?_
    rw [HRD.out]
    unfold ReadPost
    rintro e w3 ⟨v, rfl, hrv, hb3⟩
    simp only at hrv
    have hB3 : Below w.heap.size w w3 := btrans0 hB2 hb3
    have z3 : w.heap.size < w3.heap.size := by have := hb3.size; omega
    have G3 := (hb3.block _ z2).trans HG2.out
    clear ca
    have ca := fun o => cellB G3 o
    simp only [bunC] at ca
    obtain ⟨va, vc, rfl, vx⟩ := id hrv
    have HV := Lib.hid hrv
    have HG3 := Lib.hid G3
    have HB3 := Lib.hid hB3
    clear G3 hb3 hrv hB2 vx
    go_upto_region 7 with fail
    refine wp_region_plan (fun V => Below (w3).heap.size (w3) V) [0, 0, 0, 0, 2, 0, 0, 0, 0, 2, 0, 0, 0, 0, 2, 0, 1, 0, 0] [0, 1, 2, 3, 4, 5, 6, 7, 8, 9, 10, 11, 12, 13, 15, 16, 14, 17, 18] (by kernel_rfl) (by kernel_rfl) ?_ ?_
    case refine_1 => exact belowA
    (iterate 4 (first | (refine plan_held rfl (by decide) (by rfl) (fun w1 hS => by (try (obtain ⟨_, _⟩ := bcell (hS rfl))); go_simp; rfl) ?_; simp only [Act.put, List.setIfInBounds_toArray, List.set_cons_zero, List.set_cons_succ]) | (refine plan_skip rfl (by decide) (by rfl) ?_; simp only [Act.put, List.setIfInBounds_toArray, List.set_cons_zero, List.set_cons_succ])))
    (refine plan_keep rfl rfl (by rfl) (fun K hK => ?_); go_simp)
    refine (checkJ_any l _ _ (HV.out.below'' belowA) HL.out).mono ?_
    rw [HC.out]
    rintro e wc27 ⟨rfl, hbc27⟩
    (refine hK _ _ (by exact belowA) ?_; clear hK K; (try simp only [Act.put, List.setIfInBounds_toArray, List.set_cons_zero, List.set_cons_succ]))
    (iterate 4 (first | (refine plan_held rfl (by decide) (by rfl) (fun w1 hS => by (try (obtain ⟨_, _⟩ := bcell (hS rfl))); go_simp; rfl) ?_; simp only [Act.put, List.setIfInBounds_toArray, List.set_cons_zero, List.set_cons_succ]) | (refine plan_skip rfl (by decide) (by rfl) ?_; simp only [Act.put, List.setIfInBounds_toArray, List.set_cons_zero, List.set_cons_succ])))
    (refine plan_skipK rfl (by decide) (by rfl) belowA ?_; simp only [Act.put, List.setIfInBounds_toArray, List.set_cons_zero, List.set_cons_succ])
    (iterate 6 (first | (refine plan_held rfl (by decide) (by rfl) (fun w1 hS => by (try (obtain ⟨_, _⟩ := bcell (hS rfl))); go_simp; rfl) ?_; simp only [Act.put, List.setIfInBounds_toArray, List.set_cons_zero, List.set_cons_succ]) | (refine plan_skip rfl (by decide) (by rfl) ?_; simp only [Act.put, List.setIfInBounds_toArray, List.set_cons_zero, List.set_cons_succ])))
    (refine plan_skipK rfl (by decide) (by rfl) belowA ?_; simp only [Act.put, List.setIfInBounds_toArray, List.set_cons_zero, List.set_cons_succ])
    (iterate 2 (first | (refine plan_held rfl (by decide) (by rfl) (fun w1 hS => by (try (obtain ⟨_, _⟩ := bcell (hS rfl))); go_simp; rfl) ?_; simp only [Act.put, List.setIfInBounds_toArray, List.set_cons_zero, List.set_cons_succ]) | (refine plan_skip rfl (by decide) (by rfl) ?_; simp only [Act.put, List.setIfInBounds_toArray, List.set_cons_zero, List.set_cons_succ])))
    refine plan_done ?_
    go_wp2
    go_ret2
    exact ⟨_, rfl, rbuns_nil _ _, belowA⟩
  subst hC0
  obtain ⟨A, hA⟩ : ∃ q, decide (crtS l < endS l) = q := ⟨_, rfl⟩
  have HA := Lib.hid hA
  cases A with
  | false =>
    have HS2 : Hid (sepS b = ([], 11)) := Lib.hid (by rw [HS.out, if_pos (Or.inr (Or.inr (Or.inl (by simpa using hA))))])
    rw [HS2.out]
    clear hA
    go_enter Tryz.func9, Tryz.ntmps9
    simp only [bunC]
    go_wp2_with fail
    refine (check_any b _ _ (HR.out.below (C := w.heap.size) belowA (Nat.le_refl _) (by simp)) HF.out).mono ?_
    rintro e w1 ⟨rfl, hb1⟩
    rw [HE.out]
    have z1 : w.heap.size < w1.heap.size := by have := hb1.size; (try simp at this); omega
    have hB1 : Below w.heap.size w w1 := btrans0 (balloc0 (Below.refl _ _)) hb1
    have G1 : w1.heap[w.heap.size]? = some (.cells (bunC b (.slice ua b.blocks.length uc)).toArray 32 (0, 0)) := (hb1.block _ (by simp)).trans heap_new
    have ca := fun o => cellB G1 o
    simp only [bunC] at ca
    have HG1 := Lib.hid G1
    have HB1 := Lib.hid hB1
    clear G1 hb1
    go_wp2_with fail
    refine (joined_any b _ _ (HR.out.below HB1.out (Nat.le_refl _) HB1.out.size) HE.out).mono ?_
    rintro e w2 ⟨rfl, hb2⟩
    rw [HJ.out]
    have hB2 : Below w.heap.size w w2 := btrans0 HB1.out hb2
    have z2 : w.heap.size < w2.heap.size := by have := hb2.size; omega
    have G2 := (hb2.block _ z1).trans HG1.out
    clear ca
    have ca := fun o => cellB G2 o
    simp only [bunC] at ca
    have HG2 := Lib.hid G2
    clear G2 hb2
    go_wp2_with fail
    refine (read_any b.payload hpl _).mono ?_
    rw [HRD.out]
    unfold ReadPost
    rintro e w3 ⟨v, rfl, hrv, hb3⟩
    simp only at hrv
    have hB3 : Below w.heap.size w w3 := btrans0 hB2 hb3
    have z3 : w.heap.size < w3.heap.size := by have := hb3.size; omega
    have G3 := (hb3.block _ z2).trans HG2.out
    clear ca
    have ca := fun o => cellB G3 o
    simp only [bunC] at ca
    obtain ⟨va, vc, rfl, vx⟩ := id hrv
    have HV := Lib.hid hrv
    have HG3 := Lib.hid G3
    have HB3 := Lib.hid hB3
    clear G3 hb3 hrv hB2 vx
    go_upto_region 7 with fail
    refine wp_region_plan (fun V => Below (w3).heap.size (w3) V) [0, 0, 0, 0, 2, 0, 0, 0, 0, 2, 0, 0, 0, 0, 2, 0, 1, 0, 0] [0, 1, 2, 3, 4, 5, 6, 7, 8, 9, 10, 11, 12, 13, 15, 16, 14, 17, 18] (by kernel_rfl) (by kernel_rfl) ?_ ?_
    case refine_1 => exact belowA
    (iterate 4 (first | (refine plan_held rfl (by decide) (by rfl) (fun w1 hS => by (try (obtain ⟨_, _⟩ := bcell (hS rfl))); go_simp; rfl) ?_; simp only [Act.put, List.setIfInBounds_toArray, List.set_cons_zero, List.set_cons_succ]) | (refine plan_skip rfl (by decide) (by rfl) ?_; simp only [Act.put, List.setIfInBounds_toArray, List.set_cons_zero, List.set_cons_succ])))
    (refine plan_keep rfl rfl (by rfl) (fun K hK => ?_); go_simp)
    refine (checkJ_any l _ _ (HV.out.below'' belowA) HL.out).mono ?_
    rw [HC.out]
    rintro e wc27 ⟨rfl, hbc27⟩
    (refine hK _ _ (by exact belowA) ?_; clear hK K; (try simp only [Act.put, List.setIfInBounds_toArray, List.set_cons_zero, List.set_cons_succ]))
    (iterate 4 (first | (refine plan_held rfl (by decide) (by rfl) (fun w1 hS => by (try (obtain ⟨_, _⟩ := bcell (hS rfl))); go_simp; rfl) ?_; simp only [Act.put, List.setIfInBounds_toArray, List.set_cons_zero, List.set_cons_succ]) | (refine plan_skip rfl (by decide) (by rfl) ?_; simp only [Act.put, List.setIfInBounds_toArray, List.set_cons_zero, List.set_cons_succ])))
    (refine plan_keep rfl rfl (by rfl) (fun K hK => ?_); go_simp)
    refine (alive_any l _ _ (HV.out.below'' belowA) HL.out).mono ?_
    rw [HA.out]
    rintro e wc32 ⟨rfl, hbc32⟩
    (refine hK _ _ (by exact belowA) ?_; clear hK K; (try simp only [Act.put, List.setIfInBounds_toArray, List.set_cons_zero, List.set_cons_succ]))
    (iterate 6 (first | (refine plan_held rfl (by decide) (by rfl) (fun w1 hS => by (try (obtain ⟨_, _⟩ := bcell (hS rfl))); go_simp; rfl) ?_; simp only [Act.put, List.setIfInBounds_toArray, List.set_cons_zero, List.set_cons_succ]) | (refine plan_skip rfl (by decide) (by rfl) ?_; simp only [Act.put, List.setIfInBounds_toArray, List.set_cons_zero, List.set_cons_succ])))
    (refine plan_skipK rfl (by decide) (by rfl) belowA ?_; simp only [Act.put, List.setIfInBounds_toArray, List.set_cons_zero, List.set_cons_succ])
    (iterate 2 (first | (refine plan_held rfl (by decide) (by rfl) (fun w1 hS => by (try (obtain ⟨_, _⟩ := bcell (hS rfl))); go_simp; rfl) ?_; simp only [Act.put, List.setIfInBounds_toArray, List.set_cons_zero, List.set_cons_succ]) | (refine plan_skip rfl (by decide) (by rfl) ?_; simp only [Act.put, List.setIfInBounds_toArray, List.set_cons_zero, List.set_cons_succ])))
    refine plan_done ?_
    go_wp2
    go_ret2
    exact ⟨_, rfl, rbuns_nil _ _, belowA⟩
  | true =>
  have hA' : crtS l < endS l := by simpa using hA
  obtain ⟨y, r, hyr, _⟩ := chkJ_zero HC.out
  have hS3 : sepS b = if farB b y = true ∨ b.crt < crtS l ∨ endS l < expS b then (([], 11) : List Bun × Int) else (l, 0) := by
    rw [HS.out, if_neg (by simp [HC.out, hA', HP.out]), hyr]
    rfl
  have dP : (b.payload != b.payload) = false := by simp
  obtain ⟨T, hT⟩ : ∃ q, crtS l = q := ⟨_, rfl⟩
  obtain ⟨D, hD⟩ : ∃ q, endS l = q := ⟨_, rfl⟩
  obtain ⟨X, hX⟩ : ∃ q, expS b = q := ⟨_, rfl⟩
  have HT := Lib.hid hT
  have HD := Lib.hid hD
  have HX := Lib.hid hX
  obtain ⟨m1, hm1⟩ : ∃ q, (b.src != y.src) = q := ⟨_, rfl⟩
  obtain ⟨m2, hm2⟩ : ∃ q, (b.dk != y.dk || b.dn != y.dn) = q := ⟨_, rfl⟩
  obtain ⟨m3, hm3⟩ : ∃ q, (b.prio != y.prio) = q := ⟨_, rfl⟩
  obtain ⟨m4, hm4⟩ : ∃ q, decide (b.crt < T) = q := ⟨_, rfl⟩
  obtain ⟨m5, hm5⟩ : ∃ q, decide (X > D) = q := ⟨_, rfl⟩
  have HS3 : Hid (sepS b = if (m1 || m2 || m3 || m4 || m5) = true then (([], 11) : List Bun × Int) else (l, 0)) := Lib.hid (by
    rw [hS3, hT, hD, hX]
    unfold farB
    rw [hm1, hm2, hm3, ← hm4, ← hm5]
    simp only [Bool.or_eq_true, decide_eq_true_eq, gt_iff_lt, or_assoc])
  obtain ⟨n, hn⟩ : ∃ q, l.length = q := ⟨_, rfl⟩
  have hn0 : (0 : Int) < (n : Int) := by rw [← hn, hyr]; simp
  have hnN : 0 < n := by omega
  have HN := Lib.hid hn
  have HYR := Lib.hid hyr
  clear hA hA' hS3 hT hD hX HS hyr hn
  go_enter Tryz.func9, Tryz.ntmps9
  simp only [bunC]
  go_wp2_with fail
  refine (check_any b _ _ (HR.out.below (C := w.heap.size) belowA (Nat.le_refl _) (by simp)) HF.out).mono ?_
  rintro e w1 ⟨rfl, hb1⟩
  rw [HE.out]
  have z1 : w.heap.size < w1.heap.size := by have := hb1.size; (try simp at this); omega
  have hB1 : Below w.heap.size w w1 := btrans0 (balloc0 (Below.refl _ _)) hb1
  have G1 : w1.heap[w.heap.size]? = some (.cells (bunC b (.slice ua b.blocks.length uc)).toArray 32 (0, 0)) := (hb1.block _ (by simp)).trans heap_new
  have ca := fun o => cellB G1 o
  simp only [bunC] at ca
  have HG1 := Lib.hid G1
  have HB1 := Lib.hid hB1
  clear G1 hb1
  go_wp2_with fail
  refine (joined_any b _ _ (HR.out.below HB1.out (Nat.le_refl _) HB1.out.size) HE.out).mono ?_
  rintro e w2 ⟨rfl, hb2⟩
  rw [HJ.out]
  have hB2 : Below w.heap.size w w2 := btrans0 HB1.out hb2
  have z2 : w.heap.size < w2.heap.size := by have := hb2.size; omega
  have G2 := (hb2.block _ z1).trans HG1.out
  clear ca
  have ca := fun o => cellB G2 o
  simp only [bunC] at ca
  have HG2 := Lib.hid G2
  clear G2 hb2
  go_wp2_with fail
  refine (read_any b.payload hpl _).mono ?_
  rw [HRD.out]
  unfold ReadPost
  rintro e w3 ⟨v, rfl, hrv, hb3⟩
  simp only at hrv
  have hB3 : Below w.heap.size w w3 := btrans0 hB2 hb3
  have z3 : w.heap.size < w3.heap.size := by have := hb3.size; omega
  have G3 := (hb3.block _ z2).trans HG2.out
  clear ca
  have ca := fun o => cellB G3 o
  simp only [bunC] at ca
  obtain ⟨va, vc, rfl, vx⟩ := id hrv
  have HV := Lib.hid hrv
  have HG3 := Lib.hid G3
  have HB3 := Lib.hid hB3
  clear G3 hb3 hrv hB2 vx
  go_upto_region 7 with fail
  refine wp_region_plan (fun V => Below (w3).heap.size (w3) V) [0, 0, 0, 0, 2, 0, 0, 0, 0, 2, 0, 0, 0, 0, 2, 0, 1, 0, 0] [0, 1, 2, 3, 4, 5, 6, 7, 8, 9, 10, 11, 12, 13, 15, 16, 14, 17, 18] (by kernel_rfl) (by kernel_rfl) ?_ ?_
  case refine_1 => exact belowA
  (iterate 4 (first | (refine plan_held rfl (by decide) (by rfl) (fun w1 hS => by (try (obtain ⟨_, _⟩ := bcell (hS rfl))); go_simp; rfl) ?_; simp only [Act.put, List.setIfInBounds_toArray, List.set_cons_zero, List.set_cons_succ]) | (refine plan_skip rfl (by decide) (by rfl) ?_; simp only [Act.put, List.setIfInBounds_toArray, List.set_cons_zero, List.set_cons_succ])))
  (refine plan_keep rfl rfl (by rfl) (fun K hK => ?_); go_simp)
  refine (checkJ_any l _ _ (HV.out.below'' belowA) HL.out).mono ?_
  rw [HC.out]
  rintro e wc27 ⟨rfl, hbc27⟩
  (refine hK _ _ (by exact belowA) ?_; clear hK K; (try simp only [Act.put, List.setIfInBounds_toArray, List.set_cons_zero, List.set_cons_succ]))
  (iterate 4 (first | (refine plan_held rfl (by decide) (by rfl) (fun w1 hS => by (try (obtain ⟨_, _⟩ := bcell (hS rfl))); go_simp; rfl) ?_; simp only [Act.put, List.setIfInBounds_toArray, List.set_cons_zero, List.set_cons_succ]) | (refine plan_skip rfl (by decide) (by rfl) ?_; simp only [Act.put, List.setIfInBounds_toArray, List.set_cons_zero, List.set_cons_succ])))
  (refine plan_keep rfl rfl (by rfl) (fun K hK => ?_); go_simp)
  refine (alive_any l _ _ (HV.out.below'' belowA) HL.out).mono ?_
  rw [HA.out]
  rintro e wc32 ⟨rfl, hbc32⟩
  (refine hK _ _ (by exact belowA) ?_; clear hK K; (try simp only [Act.put, List.setIfInBounds_toArray, List.set_cons_zero, List.set_cons_succ]))
  (iterate 6 (first | (refine plan_held rfl (by decide) (by rfl) (fun w1 hS => by (try (obtain ⟨_, _⟩ := bcell (hS rfl))); go_simp; rfl) ?_; simp only [Act.put, List.setIfInBounds_toArray, List.set_cons_zero, List.set_cons_succ]) | (refine plan_skip rfl (by decide) (by rfl) ?_; simp only [Act.put, List.setIfInBounds_toArray, List.set_cons_zero, List.set_cons_succ])))
  (refine plan_keep rfl rfl (by rfl) (fun K hK => ?_); go_simp)
  refine (payload_any l _ _ (HV.out.below'' belowA) HL.out (by omega)).mono ?_
  rw [HP.out]
  rintro e wc37 ⟨rfl, hbc37⟩
  (refine hK _ _ (by exact belowA) ?_; clear hK K; (try simp only [Act.put, List.setIfInBounds_toArray, List.set_cons_zero, List.set_cons_succ]))
  (iterate 2 (first | (refine plan_held rfl (by decide) (by rfl) (fun w1 hS => by (try (obtain ⟨_, _⟩ := bcell (hS rfl))); go_simp; rfl) ?_; simp only [Act.put, List.setIfInBounds_toArray, List.set_cons_zero, List.set_cons_succ]) | (refine plan_skip rfl (by decide) (by rfl) ?_; simp only [Act.put, List.setIfInBounds_toArray, List.set_cons_zero, List.set_cons_succ])))
  refine plan_done ?_
  go_wp2_with fail
  refine (times_any l _ _ (HV.out.below'' belowA) HL.out).mono ?_
  rw [HT.out, HD.out]
  rintro e w4 ⟨rfl, hb4⟩
  have hB34 : Below w3.heap.size w3 w4 := belowA
  have hB4 : Below w.heap.size w w4 := btrans0 HB3.out hB34
  have G4 := (hB34.block _ z3).trans HG3.out
  clear ca
  have ca := fun o => cellB G4 o
  simp only [bunC] at ca
  have HG4 := Lib.hid G4
  have hv4 := HV.out.below'' hB34
  have HV4 := Lib.hid hv4
  obtain ⟨va', vc', hve, v1, v2, v3, v4⟩ := hv4
  simp only [Value.slice.injEq] at hve
  obtain ⟨rfl, _, rfl⟩ := hve
  obtain ⟨bb, o, rfl, hbn, hcell⟩ := v4 (by rw [HYR.out]; simp)
  obtain ⟨uy, hc, huy⟩ := hcell 0 y (by rw [HYR.out]; rfl)
  have q0 := hc 0 _ rfl
  have q5 := hc 5 _ rfl
  have q6 := hc 6 _ rfl
  have q8 := hc 8 _ rfl
  simp only [Nat.zero_mul, Nat.add_zero] at q0 q5 q6 q8
  have hz4 : w.heap.size < w4.heap.size := by have := hB34.size; omega
  rw [HN.out]
  clear hcell hc huy v1 v2 v3 v4 G4
  go_upto_region 10 with fail
  cases m1 with
  | true =>
    go_wp2
    go_quiet (fail)
    go_wp2
    go_ret2
    rw [HS3.out]
    exact ⟨_, rfl, rbuns_nil _ _, belowA⟩
  | false =>
  cases m2 with
  | true =>
    go_wp2
    go_quiet (fail)
    go_wp2
    go_ret2
    rw [HS3.out]
    exact ⟨_, rfl, rbuns_nil _ _, belowA⟩
  | false =>
  cases m3 with
  | true =>
    go_wp2
    go_quiet (fail)
    go_wp2
    go_ret2
    rw [HS3.out]
    exact ⟨_, rfl, rbuns_nil _ _, belowA⟩
  | false =>
  cases m4 with
  | true =>
    go_wp2
    go_quiet (fail)
    go_wp2
    go_ret2
    rw [HS3.out]
    exact ⟨_, rfl, rbuns_nil _ _, belowA⟩
  | false =>
  refine wp_region_plan (fun V => Below (w4).heap.size (w4) V) [0, 0, 1, 0, 0, 0, 0, 1, 0, 0, 0, 1, 0, 0, 0, 1, 0, 0, 0, 0, 1, 0, 0, 0, 1, 0, 0, 0, 0, 0, 1, 0, 0, 0, 0, 1, 3, 0, 0, 0] [0, 1, 2, 3, 4, 5, 6, 7, 8, 9, 10, 11, 12, 13, 14, 15, 16, 17, 18, 19, 20, 21, 22, 23, 24, 25, 26, 27, 28, 29, 30, 31, 32, 33, 34, 35, 37, 36, 38, 39] (by kernel_rfl) (by kernel_rfl) ?_ ?_
  case refine_1 => exact belowA
  (iterate 37 (first | (refine plan_held rfl (by decide) (by rfl) (fun w1 hS => by (try (obtain ⟨_, _⟩ := bcell (hS rfl))); go_simp; rfl) ?_; simp only [Act.put, List.setIfInBounds_toArray, List.set_cons_zero, List.set_cons_succ]) | (refine plan_skip rfl (by decide) (by rfl) ?_; simp only [Act.put, List.setIfInBounds_toArray, List.set_cons_zero, List.set_cons_succ])))
  (refine plan_late rfl rfl (by rfl) (fun K hK => ?_); go_simp)
  refine (expires_any b _ _ (HR.out.below' belowA) HF.out).mono ?_
  rw [HX.out]
  rintro e wc83 ⟨rfl, hbc83⟩
  (refine hK _ _ ?_; clear hK K; (try simp only [Act.put, List.setIfInBounds_toArray, List.set_cons_zero, List.set_cons_succ]))
  (iterate 2 (first | (refine plan_held rfl (by decide) (by rfl) (fun w1 hS => by (try (obtain ⟨_, _⟩ := bcell (hS rfl))); go_simp; rfl) ?_; simp only [Act.put, List.setIfInBounds_toArray, List.set_cons_zero, List.set_cons_succ]) | (refine plan_skip rfl (by decide) (by rfl) ?_; simp only [Act.put, List.setIfInBounds_toArray, List.set_cons_zero, List.set_cons_succ])))
  refine plan_done ?_
  cases m5 with
  | true =>
    go_wp2
    go_ret2
    rw [HS3.out]
    exact ⟨_, rfl, rbuns_nil _ _, belowA⟩
  | false =>
    go_wp2
    go_ret2
    rw [HS3.out]
    exact ⟨_, rfl, by rw [← HN.out]; exact HV4.out.below'' belowA, belowA⟩
set_option maxHeartbeats 1000000 in
theorem is_any (b : Bun) (u : Value) (w : World) (h : RBlks w w.heap.size u b.blocks) (hf : Fits b) :
    Calls Tryz.prog 11 #[.agg (bunC b u).toArray] w fun e w' => e = .returned (.bool (decide ((sepS b).2 = 0))) ∧ Below w.heap.size w w' := by
  obtain ⟨ua, uc, rfl, _⟩ := id h
  have HR := Lib.hid h
  have HF := Lib.hid hf
  obtain ⟨⟨l, e⟩, hs⟩ : ∃ q, sepS b = q := ⟨_, rfl⟩
  have HS := Lib.hid hs
  rw [hs]
  clear h hf hs
  simp only
  rw [show decide (e = 0) = (e == 0) from by rw [Bool.eq_iff_iff]; simp]
  go_enter Tryz.func11, Tryz.ntmps11
  simp only [bunC]
  go_wp2_with fail
  refine (sep_any b _ _ (HR.out.below (C := w.heap.size) belowA (Nat.le_refl _) (by simp)) HF.out).mono ?_
  rw [HS.out]
  unfold SepPost
  rintro e' w1 ⟨v, rfl, hv, hb1⟩
  obtain ⟨va, vc, rfl, _⟩ := id hv
  clear hv
  go_wp2
  go_ret
  exact ⟨rfl, belowA⟩
end Go.Proofs.YtmknchdciblfjaaGreat
