/- The examples of chapter 13. -/
import Derived.Test.YthedoidpapodgaaTi
import Derived.Test.YthedoidpapodgaaTg
import Derived.Test.YthedoidpapodgaaTd
import Derived.Test.YthedoidpapodgaaJn
set_option linter.unusedVariables false
set_option linter.unusedSimpArgs false
namespace Go.Proofs.Ythedoidpapodgaa
open Go Go.RowKit
attribute [local go_sem] B_getElem B_size B_app B_extract B_get B_toList

def exB : Bun := ⟨3, 100, 7, 0, 0, 1, 5, 50, 1, 0, [], [104, 105]⟩
def exF : Bun := ⟨3, 100, 8, 0, 0, 1, 5, 50, 2, 0, [], [104, 105]⟩
theorem ex_chk : chkE exB = 0 := by rfl
theorem ex_chkF : chkE exF = 0 := by rfl
theorem fit_ex : Fits exB := ⟨by simp [exB, maxLen], fun x hx => by simp [exB] at hx⟩
theorem fit_exF : Fits exF := ⟨by simp [exF, maxLen], fun x hx => by simp [exF] at hx⟩
theorem ex_exp : expS exB = 150 := by rfl
theorem ex_expd : expdS exB 150 = true := by rfl
theorem ex_expd2 : expdS exB 149 = false := by rfl
theorem ex_less : cmpL [3, 100, 7, 0, 0] [3, 100, 7, 0, 2] = -1 := by rfl
theorem ex_cmp : cmpS exF exB = -1 := by rfl
theorem ex_cmp2 : cmpS exB exF = 1 := by rfl
theorem ex_dec : decBS (bunR exB) = (exB, 0) := by rw [bunR_ok ex_chk]; exact decB_enc ex_chk
theorem bunE_pos (b : Bun) : b.payload.length < (bunE b).length := by
  have h1 := (textE_len b.payload).1
  have h2 := sealE_len (bodyE b)
  unfold bunE
  rw [h2]
  have h3 : (textE b.payload).length ≤ (bodyE b).length := by unfold bodyE; simp only [List.length_append]; omega
  omega
theorem RBlks.zero (w : World) (N : Nat) : RBlks w N (.slice none 0 0) exB.blocks := RBlks.nil w N
set_option maxHeartbeats 1000000 in
theorem example_any (w : World) : Calls Try.prog 32 #[] w fun e w' => e = .returned (.agg (bunC exB (.slice none 0 0)).toArray) ∧ Below w.heap.size w w' := by
  go_enter Try.func32, Try.ntmps32
  go_wp2
  refine bodyPost_ret (v := .agg (bunC exB (.slice none 0 0)).toArray) (by simp [results, Try.results32, go_sem, World.cell?_setCell_same', bunC, exB, B]) rfl ?_
  exact ⟨rfl, (by repeat' (first | with_reducible (first | refine bset ?_ ?_ | exact Below.refl _ _ | assumption | refine bdrewN ?_ _ | refine bdrew ?_ | refine balloc0 ?_ | refine balloc ?_ ?_ | (apply btrans0; rotate_left; assumption) | (apply btrans; rotate_left; assumption)) | exact Below.refl _ _ | assumption | (apply btrans0; rotate_left; assumption) | (apply btrans; rotate_left; assumption) | (simp; done) | omega | (simp; omega)))⟩
attribute [local go_sem] bunC exB exF idV
attribute [local go_sem ↓] eqIdI
set_option maxRecDepth 100000 in
set_option maxHeartbeats 4000000 in
theorem awake_any (w : World) : Calls Try.prog 12 #[] w (Says w) := by
  obtain ⟨S, hS⟩ : ∃ S, bunR exB = S := ⟨_, rfl⟩
  have hl := bunR_len exB
  have hp := bunE_pos exB
  rw [← bunR_ok ex_chk, hS] at hp
  rw [hS] at hl
  have hsz : sizS exB = (S.length : Int) := by unfold sizS; rw [hS]
  have hd := ex_dec
  rw [hS] at hd
  have HS := Lib.hid hS
  have HD := Lib.hid hd
  have HZ := Lib.hid hsz
  have hp0 : (0 : Int) < (S.length : Int) := by omega
  have hp1 : 0 < S.length := by omega
  have hp2 : ¬ S = [] := fun h => by rw [h] at hp1; simp at hp1
  clear hS hd hsz hp
  go_enter Try.func12, Try.ntmps12
  go_wp2_with fail
  refine (example_any _).mono ?_
  rintro e w1 ⟨rfl, hb1⟩
  go_wp2_with fail
  refine (example_any _).mono ?_
  rintro e w2 ⟨rfl, hb2⟩
  have hB2 : Below w.heap.size w w2 := (by repeat' (first | with_reducible (first | refine bset ?_ ?_ | exact Below.refl _ _ | assumption | refine bdrewN ?_ _ | refine bdrew ?_ | refine balloc0 ?_ | refine balloc ?_ ?_ | (apply btrans0; rotate_left; assumption) | (apply btrans; rotate_left; assumption)) | exact Below.refl _ _ | assumption | (apply btrans0; rotate_left; assumption) | (apply btrans; rotate_left; assumption) | (simp; done) | omega | (simp; omega)))
  clear hb1 hb2
  go_wp2_with fail
  refine (bunEncode_any exB (.slice none 0 0) _ (RBlks.zero _ _) fit_ex).mono ?_
  rw [HS.out, ex_chk]
  rintro e w3 ⟨rfl, hb3⟩
  have hB3 : Below w.heap.size w w3 := (by repeat' (first | with_reducible (first | refine bset ?_ ?_ | exact Below.refl _ _ | assumption | refine bdrewN ?_ _ | refine bdrew ?_ | refine balloc0 ?_ | refine balloc ?_ ?_ | (apply btrans0; rotate_left; assumption) | (apply btrans; rotate_left; assumption)) | exact Below.refl _ _ | assumption | (apply btrans0; rotate_left; assumption) | (apply btrans; rotate_left; assumption) | (simp; done) | omega | (simp; omega)))
  have z3 : w2.heap.size + 1 + 1 < w3.heap.size := by have := hb3.size; simp at this; omega
  have X1 : w3.heap[w2.heap.size]? = some (.cells (bunC exB (.slice none 0 0)).toArray 28 (0, 0)) := (hb3.block _ (by simp; omega)).trans (by repeat (first | exact heap_new' (by first | rfl | (simp; done)) | refine (Below.heap_alloc _ _ _ (by first | (simp; done) | (simp; omega))).trans ?_))
  have X2 : w3.heap[w2.heap.size + 1]? = some (.cells (bunC exF (.slice none 0 0)).toArray 28 (0, 0)) := (hb3.block _ (by simp)).trans (by repeat (first | exact heap_new' (by first | rfl | (simp; done)) | refine (Below.heap_alloc _ _ _ (by first | (simp; done) | (simp; omega))).trans ?_))
  have X3 : w3.heap[w2.heap.size + 1 + 1]? = some (.cells #[.int .i64 3, .int .i64 100, .int .i64 7, .int .i64 0, .int .i64 2] 23 (0, 0)) := (hb3.block _ (by simp)).trans (by repeat (first | exact heap_new' (by first | rfl | (simp; done)) | refine (Below.heap_alloc _ _ _ (by first | (simp; done) | (simp; omega))).trans ?_))
  clear hb3
  go_wp2_with fail
  refine (bunDecode_any S _ (by omega)).mono ?_
  rw [HD.out]
  rintro e w4 ⟨u, rfl, hu, fu, hb4⟩
  obtain ⟨ua, uc, rfl, _⟩ := id hu
  have hB4 : Below w.heap.size w w4 := (by repeat' (first | with_reducible (first | refine bset ?_ ?_ | exact Below.refl _ _ | assumption | refine bdrewN ?_ _ | refine bdrew ?_ | refine balloc0 ?_ | refine balloc ?_ ?_ | (apply btrans0; rotate_left; assumption) | (apply btrans; rotate_left; assumption)) | exact Below.refl _ _ | assumption | (apply btrans0; rotate_left; assumption) | (apply btrans; rotate_left; assumption) | (simp; done) | omega | (simp; omega)))
  have z4 : w2.heap.size + 1 + 1 < w4.heap.size := by have := hb4.size; omega
  have t4 : w2.heap.size < w4.heap.size := by omega
  have Y1 := (hb4.block _ (by omega)).trans X1
  have Y2 := (hb4.block _ (by omega)).trans X2
  have Y3 := (hb4.block _ z3).trans X3
  have HU := Lib.hid hu
  have c1 := fun o => cellB Y1 o
  simp only [bunC, exB] at c1
  clear X1 X2 X3 hb4 hu fu
  go_wp2_with fail
  refine (size_any exB _ _ (RBlks.zero _ _) fit_ex).mono ?_
  rw [HZ.out, ex_chk]
  rintro e w5 ⟨rfl, hb5⟩
  have hB5 : Below w.heap.size w w5 := (by repeat' (first | with_reducible (first | refine bset ?_ ?_ | exact Below.refl _ _ | assumption | refine bdrewN ?_ _ | refine bdrew ?_ | refine balloc0 ?_ | refine balloc ?_ ?_ | (apply btrans0; rotate_left; assumption) | (apply btrans; rotate_left; assumption)) | exact Below.refl _ _ | assumption | (apply btrans0; rotate_left; assumption) | (apply btrans; rotate_left; assumption) | (simp; done) | omega | (simp; omega)))
  have hB45 : Below w4.heap.size w4 w5 := btrans0 (balloc0 (Below.refl w4.heap.size w4)) hb5
  have z5 : w4.heap.size < w5.heap.size := by have := hb5.size; simp at this; omega
  have t5 : w2.heap.size < w5.heap.size := by omega
  have X1 := (hB45.block _ (by omega)).trans Y1
  have X2 := (hB45.block _ (by omega)).trans Y2
  have X3 := (hB45.block _ z4).trans Y3
  have X4 : w5.heap[w4.heap.size]? = some (.cells (bunC exB (.slice ua exB.blocks.length uc)).toArray 28 (0, 0)) := (hb5.block _ (by simp)).trans heap_new
  have c1 := fun o => cellB X1 o
  have c4 := fun o => cellB X4 o
  simp only [bunC, exB] at c1 c4
  clear Y1 Y2 Y3 hb5
  have HX2 := Lib.hid X2
  have HX3 := Lib.hid X3
  have HX1 := Lib.hid X1
  clear X1 X2 X3 X4
  go_wp2_with fail
  refine (bsame_any exB _ _ _ (RBlks.zero _ _) (HU.out.below hB45 (Nat.le_refl _) hB45.size)).mono ?_
  rintro e w6 ⟨rfl, hb6⟩
  have hB6 : Below w.heap.size w w6 := (by repeat' (first | with_reducible (first | refine bset ?_ ?_ | exact Below.refl _ _ | assumption | refine bdrewN ?_ _ | refine bdrew ?_ | refine balloc0 ?_ | refine balloc ?_ ?_ | (apply btrans0; rotate_left; assumption) | (apply btrans; rotate_left; assumption)) | exact Below.refl _ _ | assumption | (apply btrans0; rotate_left; assumption) | (apply btrans; rotate_left; assumption) | (simp; done) | omega | (simp; omega)))
  have c1 := fun o => cellB ((hb6.block _ (by omega)).trans HX1.out) o
  have c2 := fun o => cellB ((hb6.block _ (by omega)).trans HX2.out) o
  have c3 := fun o => cellB ((hb6.block _ (by omega)).trans HX3.out) o
  have z6 : w5.heap.size ≤ w6.heap.size := hb6.size
  have y1 : w2.heap.size < w6.heap.size := by omega
  have y2 : w2.heap.size + 1 < w6.heap.size := by omega
  have y3 : w2.heap.size + 1 + 1 < w6.heap.size := by omega
  simp only [bunC, exB, exF] at c1 c2
  clear hb6 c4
  go_wp2
  refine wp_region_plan (fun V => Below (w6).heap.size (w6) V) [0, 0, 1, 2, 0, 0, 0, 1, 2, 0, 0, 1, 2, 0, 0, 0, 0, 1, 1, 2, 0, 0, 1, 2, 0, 1, 0, 0, 0, 1, 1, 2, 0, 0, 0, 1, 1, 3, 0, 0, 0] [0, 1, 2, 3, 4, 5, 6, 7, 8, 9, 10, 11, 12, 13, 14, 15, 16, 17, 18, 19, 20, 21, 22, 24, 25, 23, 26, 27, 28, 29, 30, 31, 32, 33, 34, 35, 36, 37, 38, 39, 40] (by kernel_rfl) (by kernel_rfl) ?_ ?_
  case refine_1 => exact (by repeat' (first | with_reducible (first | refine bset ?_ ?_ | exact Below.refl _ _ | assumption | refine bdrewN ?_ _ | refine bdrew ?_ | refine balloc0 ?_ | refine balloc ?_ ?_ | (apply btrans0; rotate_left; assumption) | (apply btrans; rotate_left; assumption)) | exact Below.refl _ _ | assumption | (apply btrans0; rotate_left; assumption) | (apply btrans; rotate_left; assumption) | (simp; done) | omega | (simp; omega)))
  (iterate 3 (first | (refine plan_held rfl (by decide) (by rfl) (fun w1 hS => by (try (obtain ⟨_, _⟩ := bcell (hS rfl))); go_simp; rfl) ?_; simp only [Act.put, List.setIfInBounds_toArray, List.set_cons_zero, List.set_cons_succ]) | (refine plan_skip rfl (by decide) (by rfl) ?_; simp only [Act.put, List.setIfInBounds_toArray, List.set_cons_zero, List.set_cons_succ])))
  (refine plan_keep rfl rfl (by rfl) (fun K hK => ?_); go_simp)
  refine (expires_any exB _ _ (RBlks.zero _ _) fit_ex).mono ?_
  rw [ex_exp]
  rintro e wc60 ⟨rfl, hbc60⟩
  (refine hK _ _ (by exact (by repeat' (first | with_reducible (first | refine bset ?_ ?_ | exact Below.refl _ _ | assumption | refine bdrewN ?_ _ | refine bdrew ?_ | refine balloc0 ?_ | refine balloc ?_ ?_ | (apply btrans0; rotate_left; assumption) | (apply btrans; rotate_left; assumption)) | exact Below.refl _ _ | assumption | (apply btrans0; rotate_left; assumption) | (apply btrans; rotate_left; assumption) | (simp; done) | omega | (simp; omega)))) ?_; clear hK K; (try simp only [Act.put, List.setIfInBounds_toArray, List.set_cons_zero, List.set_cons_succ]))
  (iterate 4 (first | (refine plan_held rfl (by decide) (by rfl) (fun w1 hS => by (try (obtain ⟨_, _⟩ := bcell (hS rfl))); go_simp; rfl) ?_; simp only [Act.put, List.setIfInBounds_toArray, List.set_cons_zero, List.set_cons_succ]) | (refine plan_skip rfl (by decide) (by rfl) ?_; simp only [Act.put, List.setIfInBounds_toArray, List.set_cons_zero, List.set_cons_succ])))
  (refine plan_keep rfl rfl (by rfl) (fun K hK => ?_); go_simp)
  refine (expired_any exB _ 150 _ (RBlks.zero _ _) fit_ex).mono ?_
  rw [ex_expd]
  rintro e wc65 ⟨rfl, hbc65⟩
  (refine hK _ _ (by exact (by repeat' (first | with_reducible (first | refine bset ?_ ?_ | exact Below.refl _ _ | assumption | refine bdrewN ?_ _ | refine bdrew ?_ | refine balloc0 ?_ | refine balloc ?_ ?_ | (apply btrans0; rotate_left; assumption) | (apply btrans; rotate_left; assumption)) | exact Below.refl _ _ | assumption | (apply btrans0; rotate_left; assumption) | (apply btrans; rotate_left; assumption) | (simp; done) | omega | (simp; omega)))) ?_; clear hK K; (try simp only [Act.put, List.setIfInBounds_toArray, List.set_cons_zero, List.set_cons_succ]))
  (iterate 3 (first | (refine plan_held rfl (by decide) (by rfl) (fun w1 hS => by (try (obtain ⟨_, _⟩ := bcell (hS rfl))); go_simp; rfl) ?_; simp only [Act.put, List.setIfInBounds_toArray, List.set_cons_zero, List.set_cons_succ]) | (refine plan_skip rfl (by decide) (by rfl) ?_; simp only [Act.put, List.setIfInBounds_toArray, List.set_cons_zero, List.set_cons_succ])))
  (refine plan_keep rfl rfl (by rfl) (fun K hK => ?_); go_simp)
  refine (expired_any exB _ 149 _ (RBlks.zero _ _) fit_ex).mono ?_
  rw [ex_expd2]
  rintro e wc69 ⟨rfl, hbc69⟩
  (refine hK _ _ (by exact (by repeat' (first | with_reducible (first | refine bset ?_ ?_ | exact Below.refl _ _ | assumption | refine bdrewN ?_ _ | refine bdrew ?_ | refine balloc0 ?_ | refine balloc ?_ ?_ | (apply btrans0; rotate_left; assumption) | (apply btrans; rotate_left; assumption)) | exact Below.refl _ _ | assumption | (apply btrans0; rotate_left; assumption) | (apply btrans; rotate_left; assumption) | (simp; done) | omega | (simp; omega)))) ?_; clear hK K; (try simp only [Act.put, List.setIfInBounds_toArray, List.set_cons_zero, List.set_cons_succ]))
  (iterate 6 (first | (refine plan_held rfl (by decide) (by rfl) (fun w1 hS => by (try (obtain ⟨_, _⟩ := bcell (hS rfl))); go_simp; rfl) ?_; simp only [Act.put, List.setIfInBounds_toArray, List.set_cons_zero, List.set_cons_succ]) | (refine plan_skip rfl (by decide) (by rfl) ?_; simp only [Act.put, List.setIfInBounds_toArray, List.set_cons_zero, List.set_cons_succ])))
  (refine plan_keep rfl rfl (by rfl) (fun K hK => ?_); go_simp)
  refine (less_any 3 100 7 0 0 3 100 7 0 2 _).mono ?_
  rw [ex_less]
  rintro e wc76 ⟨rfl, hbc76⟩
  (refine hK _ _ (by exact (by repeat' (first | with_reducible (first | refine bset ?_ ?_ | exact Below.refl _ _ | assumption | refine bdrewN ?_ _ | refine bdrew ?_ | refine balloc0 ?_ | refine balloc ?_ ?_ | (apply btrans0; rotate_left; assumption) | (apply btrans; rotate_left; assumption)) | exact Below.refl _ _ | assumption | (apply btrans0; rotate_left; assumption) | (apply btrans; rotate_left; assumption) | (simp; done) | omega | (simp; omega)))) ?_; clear hK K; (try simp only [Act.put, List.setIfInBounds_toArray, List.set_cons_zero, List.set_cons_succ]))
  (iterate 5 (first | (refine plan_held rfl (by decide) (by rfl) (fun w1 hS => by (try (obtain ⟨_, _⟩ := bcell (hS rfl))); go_simp; rfl) ?_; simp only [Act.put, List.setIfInBounds_toArray, List.set_cons_zero, List.set_cons_succ]) | (refine plan_skip rfl (by decide) (by rfl) ?_; simp only [Act.put, List.setIfInBounds_toArray, List.set_cons_zero, List.set_cons_succ])))
  (refine plan_keep rfl rfl (by rfl) (fun K hK => ?_); go_simp)
  refine (parent_any 3 100 7 0 2 _).mono ?_
  rintro e wc80 ⟨rfl, hbc80⟩
  (refine hK _ _ (by exact (by repeat' (first | with_reducible (first | refine bset ?_ ?_ | exact Below.refl _ _ | assumption | refine bdrewN ?_ _ | refine bdrew ?_ | refine balloc0 ?_ | refine balloc ?_ ?_ | (apply btrans0; rotate_left; assumption) | (apply btrans; rotate_left; assumption)) | exact Below.refl _ _ | assumption | (apply btrans0; rotate_left; assumption) | (apply btrans; rotate_left; assumption) | (simp; done) | omega | (simp; omega)))) ?_; clear hK K; (try simp only [Act.put, List.setIfInBounds_toArray, List.set_cons_zero, List.set_cons_succ]))
  (iterate 5 (first | (refine plan_held rfl (by decide) (by rfl) (fun w1 hS => by (try (obtain ⟨_, _⟩ := bcell (hS rfl))); go_simp; rfl) ?_; simp only [Act.put, List.setIfInBounds_toArray, List.set_cons_zero, List.set_cons_succ]) | (refine plan_skip rfl (by decide) (by rfl) ?_; simp only [Act.put, List.setIfInBounds_toArray, List.set_cons_zero, List.set_cons_succ])))
  (refine plan_keep rfl rfl (by rfl) (fun K hK => ?_); go_simp)
  refine (compare_any exF exB _ _ _ (RBlks.nil _ _) fit_exF (RBlks.zero _ _) fit_ex).mono ?_
  rw [ex_cmp]
  rintro e wc88 ⟨rfl, hbc88⟩
  (refine hK _ _ (by exact (by repeat' (first | with_reducible (first | refine bset ?_ ?_ | exact Below.refl _ _ | assumption | refine bdrewN ?_ _ | refine bdrew ?_ | refine balloc0 ?_ | refine balloc ?_ ?_ | (apply btrans0; rotate_left; assumption) | (apply btrans; rotate_left; assumption)) | exact Below.refl _ _ | assumption | (apply btrans0; rotate_left; assumption) | (apply btrans; rotate_left; assumption) | (simp; done) | omega | (simp; omega)))) ?_; clear hK K; (try simp only [Act.put, List.setIfInBounds_toArray, List.set_cons_zero, List.set_cons_succ]))
  (iterate 5 (first | (refine plan_held rfl (by decide) (by rfl) (fun w1 hS => by (try (obtain ⟨_, _⟩ := bcell (hS rfl))); go_simp; rfl) ?_; simp only [Act.put, List.setIfInBounds_toArray, List.set_cons_zero, List.set_cons_succ]) | (refine plan_skip rfl (by decide) (by rfl) ?_; simp only [Act.put, List.setIfInBounds_toArray, List.set_cons_zero, List.set_cons_succ])))
  (refine plan_late rfl rfl (by rfl) (fun K hK => ?_); go_simp)
  refine (compare_any exB exF _ _ _ (RBlks.zero _ _) fit_ex (RBlks.nil _ _) fit_exF).mono ?_
  rw [ex_cmp2]
  rintro e wc94 ⟨rfl, hbc94⟩
  (refine hK _ _ ?_; clear hK K; (try simp only [Act.put, List.setIfInBounds_toArray, List.set_cons_zero, List.set_cons_succ]))
  (iterate 3 (first | (refine plan_held rfl (by decide) (by rfl) (fun w1 hS => by (try (obtain ⟨_, _⟩ := bcell (hS rfl))); go_simp; rfl) ?_; simp only [Act.put, List.setIfInBounds_toArray, List.set_cons_zero, List.set_cons_succ]) | (refine plan_skip rfl (by decide) (by rfl) ?_; simp only [Act.put, List.setIfInBounds_toArray, List.set_cons_zero, List.set_cons_succ])))
  refine plan_done ?_
  go_wp2
  go_ret
  exact ⟨rfl, (by repeat' (first | with_reducible (first | refine bset ?_ ?_ | exact Below.refl _ _ | assumption | refine bdrewN ?_ _ | refine bdrew ?_ | refine balloc0 ?_ | refine balloc ?_ ?_ | (apply btrans0; rotate_left; assumption) | (apply btrans; rotate_left; assumption)) | exact Below.refl _ _ | assumption | (apply btrans0; rotate_left; assumption) | (apply btrans; rotate_left; assumption) | (simp; done) | omega | (simp; omega)))⟩
end Go.Proofs.Ythedoidpapodgaa
