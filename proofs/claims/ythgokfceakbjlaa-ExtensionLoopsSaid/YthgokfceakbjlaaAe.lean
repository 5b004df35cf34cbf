/- Layer 14 (extension): the parser of the hops' data. -/
import Derived.Test.YthgokfceakbjlaaAd
set_option linter.unusedVariables false
set_option linter.unusedSimpArgs false
namespace Go.Proofs.Ythgokfceakbjlaa
open Go Go.RowKit
attribute [local go_sem] B_getElem B_size B_app B_extract B_get B_toList
set_option maxRecDepth 100000 in
set_option maxHeartbeats 8000000 in
theorem parse2_any (s : List UInt8) (w : World) (hs : s.length ≤ 1000000) :
    Calls Try.prog 79 #[.string (B s)] w (ParsePost (num2 s) w) := by
  obtain ⟨⟨n1, k1, e1⟩, hr1⟩ : ∃ r, readS s = r := ⟨_, rfl⟩
  obtain ⟨⟨N1, U1, Q1⟩, hn1⟩ : ∃ r, nmS s false n1 k1 e1 = r := ⟨_, rfl⟩
  have hl1 := nmS_len hn1
  obtain ⟨⟨n2, k2, e2⟩, hr2⟩ : ∃ r, readS U1 = r := ⟨_, rfl⟩
  obtain ⟨⟨N2, U2, Q2⟩, hn2⟩ : ∃ r, nmS U1 Q1 n2 k2 e2 = r := ⟨_, rfl⟩
  have hl2 := nmS_len hn2
  have hW := num2_W (rdW2 hr1 hn1 hr2 hn2)
  obtain ⟨R, hR⟩ : ∃ q, num2 s = q := ⟨_, rfl⟩
  rw [hR] at hW ⊢
  have HW := Lib.hid hW
  have HR1 := Lib.hid hr1
  have HN1 := Lib.hid hn1
  have HR2 := Lib.hid hr2
  have HN2 := Lib.hid hn2
  clear hW hR hr1 hn1 hr2 hn2
  cases Q2 with
  | true =>
    go_enter Try.func79, Try.ntmps79
    go_wp2_with fail
    refine (pnumber_any s false n1 k1 e1 w.heap.size _ (by exact heap_new) (by omega) HR1.out).mono ?_
    rw [HN1.out]
    rintro e w1 ⟨rfl, R1, K1, hb1⟩
    have z1 : w.heap.size < w1.heap.size := by have := K1.1; simp at this; omega
    have hB1 : Below w.heap.size w w1 := (by repeat' (first | with_reducible (first | refine bset ?_ ?_ | exact Below.refl _ _ | assumption | refine bdrewN ?_ _ | refine bdrew ?_ | refine balloc0 ?_ | refine balloc ?_ ?_ | (apply btrans0; rotate_left; assumption) | (apply btrans; rotate_left; assumption)) | exact Below.refl _ _ | assumption | (apply btrans0; rotate_left; assumption) | (apply btrans; rotate_left; assumption) | (simp; done) | omega | (simp; omega)))
    have HX1 := Lib.hid R1
    clear R1 K1 hb1
    go_wp2_with fail
    refine (pnumber_any U1 Q1 n2 k2 e2 w.heap.size _ HX1.out (by omega) HR2.out).mono ?_
    rw [HN2.out]
    rintro e w2 ⟨rfl, R2, K2, hb2⟩
    have z2 : w.heap.size < w2.heap.size := by have := K2.1; omega
    have hB2 : Below w.heap.size w w2 := (by repeat' (first | with_reducible (first | refine bset ?_ ?_ | exact Below.refl _ _ | assumption | refine bdrewN ?_ _ | refine bdrew ?_ | refine balloc0 ?_ | refine balloc ?_ ?_ | (apply btrans0; rotate_left; assumption) | (apply btrans; rotate_left; assumption)) | exact Below.refl _ _ | assumption | (apply btrans0; rotate_left; assumption) | (apply btrans; rotate_left; assumption) | (simp; done) | omega | (simp; omega)))
    have HX2 := Lib.hid R2
    clear R2 K2 hb2
    go_wp2
    have c6 : ∀ o, (w2.alloc (.cells #[.int .i64 N1, .int .i64 N2] 3)).cell? ⟨w.heap.size, o, none⟩ = (RdxC U2 true)[o]? := fun o => cellB ((Below.heap_alloc w2 (.cells #[.int .i64 N1, .int .i64 N2] 3) _ z2).trans HX2.out) o
    have d6 : ∀ o, (w2.alloc (.cells #[.int .i64 N1, .int .i64 N2] 3)).cell? ⟨w2.heap.size, o, none⟩ = #[.int .i64 N1, .int .i64 N2][o]? := fun o => cellB heap_new o
    have zb6 : w2.heap.size < (w2.alloc (.cells #[.int .i64 N1, .int .i64 N2] 3)).heap.size := by simp
    have za6 : w.heap.size < (w2.alloc (.cells #[.int .i64 N1, .int .i64 N2] 3)).heap.size := by simp; omega
    have hB6 : Below w.heap.size w (w2.alloc (.cells #[.int .i64 N1, .int .i64 N2] 3)) := (by repeat' (first | with_reducible (first | refine bset ?_ ?_ | exact Below.refl _ _ | assumption | refine bdrewN ?_ _ | refine bdrew ?_ | refine balloc0 ?_ | refine balloc ?_ ?_ | (apply btrans0; rotate_left; assumption) | (apply btrans; rotate_left; assumption)) | exact Below.refl _ _ | assumption | (apply btrans0; rotate_left; assumption) | (apply btrans; rotate_left; assumption) | (simp; done) | omega | (simp; omega)))
    have HRI : Hid (RInts (w2.alloc (.cells #[.int .i64 N1, .int .i64 N2] 3)) (w2.alloc (.cells #[.int .i64 N1, .int .i64 N2] 3)).heap.size (.slice (some ⟨w2.heap.size, 0, none⟩) 2 2) [N1, N2]) := Lib.hid ⟨some ⟨w2.heap.size, 0, none⟩, 2, rfl, Nat.le_refl _, by simp [maxLen], (fun h => by cases h), fun _ => ⟨w2.heap.size, 0, rfl, zb6, fun i x hx => by rw [d6]; rcases i with _ | _ | i <;> simp at hx <;> (try subst hx) <;> rfl⟩⟩
    simp only [RdxC] at c6
    generalize w2.alloc (.cells #[.int .i64 N1, .int .i64 N2] 3) = w6 at *
    refine wp_region_plan (fun V => Below (w6).heap.size (w6) V) [0, 0, 0, 0, 1, 0, 0, 0, 0, 0, 1, 0, 0, 0, 0, 0, 1, 0, 0, 0, 0, 0, 1, 0, 0, 0, 0, 0, 1, 0, 0, 0, 0, 0, 1, 0, 0, 1, 0, 0, 0, 0] [0, 1, 2, 3, 4, 5, 6, 7, 8, 9, 10, 11, 12, 13, 14, 15, 16, 17, 18, 19, 20, 21, 22, 23, 24, 25, 26, 27, 28, 29, 30, 31, 32, 33, 34, 35, 36, 37, 38, 39, 40, 41] (by kernel_rfl) (by kernel_rfl) ?_ ?_
    case refine_1 => exact (by repeat' (first | with_reducible (first | refine bset ?_ ?_ | exact Below.refl _ _ | assumption | refine bdrewN ?_ _ | refine bdrew ?_ | refine balloc0 ?_ | refine balloc ?_ ?_ | (apply btrans0; rotate_left; assumption) | (apply btrans; rotate_left; assumption)) | exact Below.refl _ _ | assumption | (apply btrans0; rotate_left; assumption) | (apply btrans; rotate_left; assumption) | (simp; done) | omega | (simp; omega)))
    (iterate 42 (first | (refine plan_held rfl (by decide) (by rfl) (fun w1 hS => by (try (obtain ⟨_, _⟩ := bcell (hS rfl))); go_simp; rfl) ?_; simp only [Act.put, List.setIfInBounds_toArray, List.set_cons_zero, List.set_cons_succ]) | (refine plan_skip rfl (by decide) (by rfl) ?_; simp only [Act.put, List.setIfInBounds_toArray, List.set_cons_zero, List.set_cons_succ])))
    refine plan_done ?_
    go_wp2
    go_ret2
    unfold ParsePost
    exact ⟨_, [N1, N2], false, rfl, (by repeat' (first | with_reducible (first | refine bset ?_ ?_ | exact Below.refl _ _ | assumption | refine bdrewN ?_ _ | refine bdrew ?_ | refine balloc0 ?_ | refine balloc ?_ ?_ | (apply btrans0; rotate_left; assumption) | (apply btrans; rotate_left; assumption)) | exact Below.refl _ _ | assumption | (apply btrans0; rotate_left; assumption) | (apply btrans; rotate_left; assumption) | (simp; done) | omega | (simp; omega))), HRI.out.below (C := w6.heap.size) (by repeat' (first | with_reducible (first | refine bset ?_ ?_ | exact Below.refl _ _ | assumption | refine bdrewN ?_ _ | refine bdrew ?_ | refine balloc0 ?_ | refine balloc ?_ ?_ | (apply btrans0; rotate_left; assumption) | (apply btrans; rotate_left; assumption)) | exact Below.refl _ _ | assumption | (apply btrans0; rotate_left; assumption) | (apply btrans; rotate_left; assumption) | (simp; done) | omega | (simp; omega))) (Nat.le_refl _) (by (have : Below w6.heap.size w6 _ := (by repeat' (first | with_reducible (first | refine bset ?_ ?_ | exact Below.refl _ _ | assumption | refine bdrewN ?_ _ | refine bdrew ?_ | refine balloc0 ?_ | refine balloc ?_ ?_ | (apply btrans0; rotate_left; assumption) | (apply btrans; rotate_left; assumption)) | exact Below.refl _ _ | assumption | (apply btrans0; rotate_left; assumption) | (apply btrans; rotate_left; assumption) | (simp; done) | omega | (simp; omega)))); exact this.size), HW.out.trans (if_neg (fun h => by cases h.1))⟩
  | false =>
    by_cases u : U2 = []
    case neg =>
      have u1 : U2.isEmpty = false := by cases U2 with | nil => exact absurd rfl u | cons _ _ => rfl
      have u2 : ¬ U2 = [] := u
      have u3 : (U2 == []) = false := beq_eq_false_iff_ne.2 u
      have HU := Lib.hid u
      go_enter Try.func79, Try.ntmps79
      go_wp2_with fail
      refine (pnumber_any s false n1 k1 e1 w.heap.size _ (by exact heap_new) (by omega) HR1.out).mono ?_
      rw [HN1.out]
      rintro e w1 ⟨rfl, R1, K1, hb1⟩
      have z1 : w.heap.size < w1.heap.size := by have := K1.1; simp at this; omega
      have hB1 : Below w.heap.size w w1 := (by repeat' (first | with_reducible (first | refine bset ?_ ?_ | exact Below.refl _ _ | assumption | refine bdrewN ?_ _ | refine bdrew ?_ | refine balloc0 ?_ | refine balloc ?_ ?_ | (apply btrans0; rotate_left; assumption) | (apply btrans; rotate_left; assumption)) | exact Below.refl _ _ | assumption | (apply btrans0; rotate_left; assumption) | (apply btrans; rotate_left; assumption) | (simp; done) | omega | (simp; omega)))
      have HX1 := Lib.hid R1
      clear R1 K1 hb1
      go_wp2_with fail
      refine (pnumber_any U1 Q1 n2 k2 e2 w.heap.size _ HX1.out (by omega) HR2.out).mono ?_
      rw [HN2.out]
      rintro e w2 ⟨rfl, R2, K2, hb2⟩
      have z2 : w.heap.size < w2.heap.size := by have := K2.1; omega
      have hB2 : Below w.heap.size w w2 := (by repeat' (first | with_reducible (first | refine bset ?_ ?_ | exact Below.refl _ _ | assumption | refine bdrewN ?_ _ | refine bdrew ?_ | refine balloc0 ?_ | refine balloc ?_ ?_ | (apply btrans0; rotate_left; assumption) | (apply btrans; rotate_left; assumption)) | exact Below.refl _ _ | assumption | (apply btrans0; rotate_left; assumption) | (apply btrans; rotate_left; assumption) | (simp; done) | omega | (simp; omega)))
      have HX2 := Lib.hid R2
      clear R2 K2 hb2
      go_wp2
      have c6 : ∀ o, (w2.alloc (.cells #[.int .i64 N1, .int .i64 N2] 3)).cell? ⟨w.heap.size, o, none⟩ = (RdxC U2 false)[o]? := fun o => cellB ((Below.heap_alloc w2 (.cells #[.int .i64 N1, .int .i64 N2] 3) _ z2).trans HX2.out) o
      have d6 : ∀ o, (w2.alloc (.cells #[.int .i64 N1, .int .i64 N2] 3)).cell? ⟨w2.heap.size, o, none⟩ = #[.int .i64 N1, .int .i64 N2][o]? := fun o => cellB heap_new o
      have zb6 : w2.heap.size < (w2.alloc (.cells #[.int .i64 N1, .int .i64 N2] 3)).heap.size := by simp
      have za6 : w.heap.size < (w2.alloc (.cells #[.int .i64 N1, .int .i64 N2] 3)).heap.size := by simp; omega
      have hB6 : Below w.heap.size w (w2.alloc (.cells #[.int .i64 N1, .int .i64 N2] 3)) := (by repeat' (first | with_reducible (first | refine bset ?_ ?_ | exact Below.refl _ _ | assumption | refine bdrewN ?_ _ | refine bdrew ?_ | refine balloc0 ?_ | refine balloc ?_ ?_ | (apply btrans0; rotate_left; assumption) | (apply btrans; rotate_left; assumption)) | exact Below.refl _ _ | assumption | (apply btrans0; rotate_left; assumption) | (apply btrans; rotate_left; assumption) | (simp; done) | omega | (simp; omega)))
      have HRI : Hid (RInts (w2.alloc (.cells #[.int .i64 N1, .int .i64 N2] 3)) (w2.alloc (.cells #[.int .i64 N1, .int .i64 N2] 3)).heap.size (.slice (some ⟨w2.heap.size, 0, none⟩) 2 2) [N1, N2]) := Lib.hid ⟨some ⟨w2.heap.size, 0, none⟩, 2, rfl, Nat.le_refl _, by simp [maxLen], (fun h => by cases h), fun _ => ⟨w2.heap.size, 0, rfl, zb6, fun i x hx => by rw [d6]; rcases i with _ | _ | i <;> simp at hx <;> (try subst hx) <;> rfl⟩⟩
      simp only [RdxC] at c6
      generalize w2.alloc (.cells #[.int .i64 N1, .int .i64 N2] 3) = w6 at *
      refine wp_region_plan (fun V => Below (w6).heap.size (w6) V) [0, 0, 0, 0, 1, 0, 0, 0, 0, 0, 1, 0, 0, 0, 0, 0, 1, 0, 0, 0, 0, 0, 1, 0, 0, 0, 0, 0, 1, 0, 0, 0, 0, 0, 1, 0, 0, 1, 0, 0, 0, 0] [0, 1, 2, 3, 4, 5, 6, 7, 8, 9, 10, 11, 12, 13, 14, 15, 16, 17, 18, 19, 20, 21, 22, 23, 24, 25, 26, 27, 28, 29, 30, 31, 32, 33, 34, 35, 36, 37, 38, 39, 40, 41] (by kernel_rfl) (by kernel_rfl) ?_ ?_
      case refine_1 => exact (by repeat' (first | with_reducible (first | refine bset ?_ ?_ | exact Below.refl _ _ | assumption | refine bdrewN ?_ _ | refine bdrew ?_ | refine balloc0 ?_ | refine balloc ?_ ?_ | (apply btrans0; rotate_left; assumption) | (apply btrans; rotate_left; assumption)) | exact Below.refl _ _ | assumption | (apply btrans0; rotate_left; assumption) | (apply btrans; rotate_left; assumption) | (simp; done) | omega | (simp; omega)))
      (iterate 42 (first | (refine plan_held rfl (by decide) (by rfl) (fun w1 hS => by (try (obtain ⟨_, _⟩ := bcell (hS rfl))); go_simp; rfl) ?_; simp only [Act.put, List.setIfInBounds_toArray, List.set_cons_zero, List.set_cons_succ]) | (refine plan_skip rfl (by decide) (by rfl) ?_; simp only [Act.put, List.setIfInBounds_toArray, List.set_cons_zero, List.set_cons_succ])))
      refine plan_done ?_
      go_wp2
      go_ret2
      unfold ParsePost
      exact ⟨_, [N1, N2], false, rfl, (by repeat' (first | with_reducible (first | refine bset ?_ ?_ | exact Below.refl _ _ | assumption | refine bdrewN ?_ _ | refine bdrew ?_ | refine balloc0 ?_ | refine balloc ?_ ?_ | (apply btrans0; rotate_left; assumption) | (apply btrans; rotate_left; assumption)) | exact Below.refl _ _ | assumption | (apply btrans0; rotate_left; assumption) | (apply btrans; rotate_left; assumption) | (simp; done) | omega | (simp; omega))), HRI.out.below (C := w6.heap.size) (by repeat' (first | with_reducible (first | refine bset ?_ ?_ | exact Below.refl _ _ | assumption | refine bdrewN ?_ _ | refine bdrew ?_ | refine balloc0 ?_ | refine balloc ?_ ?_ | (apply btrans0; rotate_left; assumption) | (apply btrans; rotate_left; assumption)) | exact Below.refl _ _ | assumption | (apply btrans0; rotate_left; assumption) | (apply btrans; rotate_left; assumption) | (simp; done) | omega | (simp; omega))) (Nat.le_refl _) (by (have : Below w6.heap.size w6 _ := (by repeat' (first | with_reducible (first | refine bset ?_ ?_ | exact Below.refl _ _ | assumption | refine bdrewN ?_ _ | refine bdrew ?_ | refine balloc0 ?_ | refine balloc ?_ ?_ | (apply btrans0; rotate_left; assumption) | (apply btrans; rotate_left; assumption)) | exact Below.refl _ _ | assumption | (apply btrans0; rotate_left; assumption) | (apply btrans; rotate_left; assumption) | (simp; done) | omega | (simp; omega)))); exact this.size), HW.out.trans (if_neg (fun h => HU.out h.2.1))⟩
    subst u
    by_cases q0 : 1 ≤ N1
    case neg =>
      have r0 : N1 < 1 := by omega
      have HQ0 := Lib.hid q0
      have de0 : decide (1 ≤ N1) = false := decide_eq_false q0
      clear q0
      go_enter Try.func79, Try.ntmps79
      go_wp2_with fail
      refine (pnumber_any s false n1 k1 e1 w.heap.size _ (by exact heap_new) (by omega) HR1.out).mono ?_
      rw [HN1.out]
      rintro e w1 ⟨rfl, R1, K1, hb1⟩
      have z1 : w.heap.size < w1.heap.size := by have := K1.1; simp at this; omega
      have hB1 : Below w.heap.size w w1 := (by repeat' (first | with_reducible (first | refine bset ?_ ?_ | exact Below.refl _ _ | assumption | refine bdrewN ?_ _ | refine bdrew ?_ | refine balloc0 ?_ | refine balloc ?_ ?_ | (apply btrans0; rotate_left; assumption) | (apply btrans; rotate_left; assumption)) | exact Below.refl _ _ | assumption | (apply btrans0; rotate_left; assumption) | (apply btrans; rotate_left; assumption) | (simp; done) | omega | (simp; omega)))
      have HX1 := Lib.hid R1
      clear R1 K1 hb1
      go_wp2_with fail
      refine (pnumber_any U1 Q1 n2 k2 e2 w.heap.size _ HX1.out (by omega) HR2.out).mono ?_
      rw [HN2.out]
      rintro e w2 ⟨rfl, R2, K2, hb2⟩
      have z2 : w.heap.size < w2.heap.size := by have := K2.1; omega
      have hB2 : Below w.heap.size w w2 := (by repeat' (first | with_reducible (first | refine bset ?_ ?_ | exact Below.refl _ _ | assumption | refine bdrewN ?_ _ | refine bdrew ?_ | refine balloc0 ?_ | refine balloc ?_ ?_ | (apply btrans0; rotate_left; assumption) | (apply btrans; rotate_left; assumption)) | exact Below.refl _ _ | assumption | (apply btrans0; rotate_left; assumption) | (apply btrans; rotate_left; assumption) | (simp; done) | omega | (simp; omega)))
      have HX2 := Lib.hid R2
      clear R2 K2 hb2
      go_wp2
      have c6 : ∀ o, (w2.alloc (.cells #[.int .i64 N1, .int .i64 N2] 3)).cell? ⟨w.heap.size, o, none⟩ = (RdxC [] false)[o]? := fun o => cellB ((Below.heap_alloc w2 (.cells #[.int .i64 N1, .int .i64 N2] 3) _ z2).trans HX2.out) o
      have d6 : ∀ o, (w2.alloc (.cells #[.int .i64 N1, .int .i64 N2] 3)).cell? ⟨w2.heap.size, o, none⟩ = #[.int .i64 N1, .int .i64 N2][o]? := fun o => cellB heap_new o
      have zb6 : w2.heap.size < (w2.alloc (.cells #[.int .i64 N1, .int .i64 N2] 3)).heap.size := by simp
      have za6 : w.heap.size < (w2.alloc (.cells #[.int .i64 N1, .int .i64 N2] 3)).heap.size := by simp; omega
      have hB6 : Below w.heap.size w (w2.alloc (.cells #[.int .i64 N1, .int .i64 N2] 3)) := (by repeat' (first | with_reducible (first | refine bset ?_ ?_ | exact Below.refl _ _ | assumption | refine bdrewN ?_ _ | refine bdrew ?_ | refine balloc0 ?_ | refine balloc ?_ ?_ | (apply btrans0; rotate_left; assumption) | (apply btrans; rotate_left; assumption)) | exact Below.refl _ _ | assumption | (apply btrans0; rotate_left; assumption) | (apply btrans; rotate_left; assumption) | (simp; done) | omega | (simp; omega)))
      have HRI : Hid (RInts (w2.alloc (.cells #[.int .i64 N1, .int .i64 N2] 3)) (w2.alloc (.cells #[.int .i64 N1, .int .i64 N2] 3)).heap.size (.slice (some ⟨w2.heap.size, 0, none⟩) 2 2) [N1, N2]) := Lib.hid ⟨some ⟨w2.heap.size, 0, none⟩, 2, rfl, Nat.le_refl _, by simp [maxLen], (fun h => by cases h), fun _ => ⟨w2.heap.size, 0, rfl, zb6, fun i x hx => by rw [d6]; rcases i with _ | _ | i <;> simp at hx <;> (try subst hx) <;> rfl⟩⟩
      simp only [RdxC] at c6
      generalize w2.alloc (.cells #[.int .i64 N1, .int .i64 N2] 3) = w6 at *
      refine wp_region_plan (fun V => Below (w6).heap.size (w6) V) [0, 0, 0, 0, 1, 0, 0, 0, 0, 0, 1, 0, 0, 0, 0, 0, 1, 0, 0, 0, 0, 0, 1, 0, 0, 0, 0, 0, 1, 0, 0, 0, 0, 0, 1, 0, 0, 1, 0, 0, 0, 0] [0, 1, 2, 3, 4, 5, 6, 7, 8, 9, 10, 11, 12, 13, 14, 15, 16, 17, 18, 19, 20, 21, 22, 23, 24, 25, 26, 27, 28, 29, 30, 31, 32, 33, 34, 35, 36, 37, 38, 39, 40, 41] (by kernel_rfl) (by kernel_rfl) ?_ ?_
      case refine_1 => exact (by repeat' (first | with_reducible (first | refine bset ?_ ?_ | exact Below.refl _ _ | assumption | refine bdrewN ?_ _ | refine bdrew ?_ | refine balloc0 ?_ | refine balloc ?_ ?_ | (apply btrans0; rotate_left; assumption) | (apply btrans; rotate_left; assumption)) | exact Below.refl _ _ | assumption | (apply btrans0; rotate_left; assumption) | (apply btrans; rotate_left; assumption) | (simp; done) | omega | (simp; omega)))
      (iterate 42 (first | (refine plan_held rfl (by decide) (by rfl) (fun w1 hS => by (try (obtain ⟨_, _⟩ := bcell (hS rfl))); go_simp; rfl) ?_; simp only [Act.put, List.setIfInBounds_toArray, List.set_cons_zero, List.set_cons_succ]) | (refine plan_skip rfl (by decide) (by rfl) ?_; simp only [Act.put, List.setIfInBounds_toArray, List.set_cons_zero, List.set_cons_succ])))
      refine plan_done ?_
      go_wp2
      go_ret2
      unfold ParsePost
      exact ⟨_, [N1, N2], false, rfl, (by repeat' (first | with_reducible (first | refine bset ?_ ?_ | exact Below.refl _ _ | assumption | refine bdrewN ?_ _ | refine bdrew ?_ | refine balloc0 ?_ | refine balloc ?_ ?_ | (apply btrans0; rotate_left; assumption) | (apply btrans; rotate_left; assumption)) | exact Below.refl _ _ | assumption | (apply btrans0; rotate_left; assumption) | (apply btrans; rotate_left; assumption) | (simp; done) | omega | (simp; omega))), HRI.out.below (C := w6.heap.size) (by repeat' (first | with_reducible (first | refine bset ?_ ?_ | exact Below.refl _ _ | assumption | refine bdrewN ?_ _ | refine bdrew ?_ | refine balloc0 ?_ | refine balloc ?_ ?_ | (apply btrans0; rotate_left; assumption) | (apply btrans; rotate_left; assumption)) | exact Below.refl _ _ | assumption | (apply btrans0; rotate_left; assumption) | (apply btrans; rotate_left; assumption) | (simp; done) | omega | (simp; omega))) (Nat.le_refl _) (by (have : Below w6.heap.size w6 _ := (by repeat' (first | with_reducible (first | refine bset ?_ ?_ | exact Below.refl _ _ | assumption | refine bdrewN ?_ _ | refine bdrew ?_ | refine balloc0 ?_ | refine balloc ?_ ?_ | (apply btrans0; rotate_left; assumption) | (apply btrans; rotate_left; assumption)) | exact Below.refl _ _ | assumption | (apply btrans0; rotate_left; assumption) | (apply btrans; rotate_left; assumption) | (simp; done) | omega | (simp; omega)))); exact this.size), HW.out.trans (if_neg (fun h => by have := HQ0.out; have := h.2.2; omega))⟩
    have de0 : decide (1 ≤ N1) = true := decide_eq_true q0
    by_cases q1 : N1 ≤ 255
    case neg =>
      have r1 : 255 < N1 := by omega
      have HQ1 := Lib.hid q1
      have de1 : decide (N1 ≤ 255) = false := decide_eq_false q1
      clear q1
      go_enter Try.func79, Try.ntmps79
      go_wp2_with fail
      refine (pnumber_any s false n1 k1 e1 w.heap.size _ (by exact heap_new) (by omega) HR1.out).mono ?_
      rw [HN1.out]
      rintro e w1 ⟨rfl, R1, K1, hb1⟩
      have z1 : w.heap.size < w1.heap.size := by have := K1.1; simp at this; omega
      have hB1 : Below w.heap.size w w1 := (by repeat' (first | with_reducible (first | refine bset ?_ ?_ | exact Below.refl _ _ | assumption | refine bdrewN ?_ _ | refine bdrew ?_ | refine balloc0 ?_ | refine balloc ?_ ?_ | (apply btrans0; rotate_left; assumption) | (apply btrans; rotate_left; assumption)) | exact Below.refl _ _ | assumption | (apply btrans0; rotate_left; assumption) | (apply btrans; rotate_left; assumption) | (simp; done) | omega | (simp; omega)))
      have HX1 := Lib.hid R1
      clear R1 K1 hb1
      go_wp2_with fail
      refine (pnumber_any U1 Q1 n2 k2 e2 w.heap.size _ HX1.out (by omega) HR2.out).mono ?_
      rw [HN2.out]
      rintro e w2 ⟨rfl, R2, K2, hb2⟩
      have z2 : w.heap.size < w2.heap.size := by have := K2.1; omega
      have hB2 : Below w.heap.size w w2 := (by repeat' (first | with_reducible (first | refine bset ?_ ?_ | exact Below.refl _ _ | assumption | refine bdrewN ?_ _ | refine bdrew ?_ | refine balloc0 ?_ | refine balloc ?_ ?_ | (apply btrans0; rotate_left; assumption) | (apply btrans; rotate_left; assumption)) | exact Below.refl _ _ | assumption | (apply btrans0; rotate_left; assumption) | (apply btrans; rotate_left; assumption) | (simp; done) | omega | (simp; omega)))
      have HX2 := Lib.hid R2
      clear R2 K2 hb2
      go_wp2
      have c6 : ∀ o, (w2.alloc (.cells #[.int .i64 N1, .int .i64 N2] 3)).cell? ⟨w.heap.size, o, none⟩ = (RdxC [] false)[o]? := fun o => cellB ((Below.heap_alloc w2 (.cells #[.int .i64 N1, .int .i64 N2] 3) _ z2).trans HX2.out) o
      have d6 : ∀ o, (w2.alloc (.cells #[.int .i64 N1, .int .i64 N2] 3)).cell? ⟨w2.heap.size, o, none⟩ = #[.int .i64 N1, .int .i64 N2][o]? := fun o => cellB heap_new o
      have zb6 : w2.heap.size < (w2.alloc (.cells #[.int .i64 N1, .int .i64 N2] 3)).heap.size := by simp
      have za6 : w.heap.size < (w2.alloc (.cells #[.int .i64 N1, .int .i64 N2] 3)).heap.size := by simp; omega
      have hB6 : Below w.heap.size w (w2.alloc (.cells #[.int .i64 N1, .int .i64 N2] 3)) := (by repeat' (first | with_reducible (first | refine bset ?_ ?_ | exact Below.refl _ _ | assumption | refine bdrewN ?_ _ | refine bdrew ?_ | refine balloc0 ?_ | refine balloc ?_ ?_ | (apply btrans0; rotate_left; assumption) | (apply btrans; rotate_left; assumption)) | exact Below.refl _ _ | assumption | (apply btrans0; rotate_left; assumption) | (apply btrans; rotate_left; assumption) | (simp; done) | omega | (simp; omega)))
      have HRI : Hid (RInts (w2.alloc (.cells #[.int .i64 N1, .int .i64 N2] 3)) (w2.alloc (.cells #[.int .i64 N1, .int .i64 N2] 3)).heap.size (.slice (some ⟨w2.heap.size, 0, none⟩) 2 2) [N1, N2]) := Lib.hid ⟨some ⟨w2.heap.size, 0, none⟩, 2, rfl, Nat.le_refl _, by simp [maxLen], (fun h => by cases h), fun _ => ⟨w2.heap.size, 0, rfl, zb6, fun i x hx => by rw [d6]; rcases i with _ | _ | i <;> simp at hx <;> (try subst hx) <;> rfl⟩⟩
      simp only [RdxC] at c6
      generalize w2.alloc (.cells #[.int .i64 N1, .int .i64 N2] 3) = w6 at *
      refine wp_region_plan (fun V => Below (w6).heap.size (w6) V) [0, 0, 0, 0, 1, 0, 0, 0, 0, 0, 1, 0, 0, 0, 0, 0, 1, 0, 0, 0, 0, 0, 1, 0, 0, 0, 0, 0, 1, 0, 0, 0, 0, 0, 1, 0, 0, 1, 0, 0, 0, 0] [0, 1, 2, 3, 4, 5, 6, 7, 8, 9, 10, 11, 12, 13, 14, 15, 16, 17, 18, 19, 20, 21, 22, 23, 24, 25, 26, 27, 28, 29, 30, 31, 32, 33, 34, 35, 36, 37, 38, 39, 40, 41] (by kernel_rfl) (by kernel_rfl) ?_ ?_
      case refine_1 => exact (by repeat' (first | with_reducible (first | refine bset ?_ ?_ | exact Below.refl _ _ | assumption | refine bdrewN ?_ _ | refine bdrew ?_ | refine balloc0 ?_ | refine balloc ?_ ?_ | (apply btrans0; rotate_left; assumption) | (apply btrans; rotate_left; assumption)) | exact Below.refl _ _ | assumption | (apply btrans0; rotate_left; assumption) | (apply btrans; rotate_left; assumption) | (simp; done) | omega | (simp; omega)))
      (iterate 42 (first | (refine plan_held rfl (by decide) (by rfl) (fun w1 hS => by (try (obtain ⟨_, _⟩ := bcell (hS rfl))); go_simp; rfl) ?_; simp only [Act.put, List.setIfInBounds_toArray, List.set_cons_zero, List.set_cons_succ]) | (refine plan_skip rfl (by decide) (by rfl) ?_; simp only [Act.put, List.setIfInBounds_toArray, List.set_cons_zero, List.set_cons_succ])))
      refine plan_done ?_
      go_wp2
      go_ret2
      unfold ParsePost
      exact ⟨_, [N1, N2], false, rfl, (by repeat' (first | with_reducible (first | refine bset ?_ ?_ | exact Below.refl _ _ | assumption | refine bdrewN ?_ _ | refine bdrew ?_ | refine balloc0 ?_ | refine balloc ?_ ?_ | (apply btrans0; rotate_left; assumption) | (apply btrans; rotate_left; assumption)) | exact Below.refl _ _ | assumption | (apply btrans0; rotate_left; assumption) | (apply btrans; rotate_left; assumption) | (simp; done) | omega | (simp; omega))), HRI.out.below (C := w6.heap.size) (by repeat' (first | with_reducible (first | refine bset ?_ ?_ | exact Below.refl _ _ | assumption | refine bdrewN ?_ _ | refine bdrew ?_ | refine balloc0 ?_ | refine balloc ?_ ?_ | (apply btrans0; rotate_left; assumption) | (apply btrans; rotate_left; assumption)) | exact Below.refl _ _ | assumption | (apply btrans0; rotate_left; assumption) | (apply btrans; rotate_left; assumption) | (simp; done) | omega | (simp; omega))) (Nat.le_refl _) (by (have : Below w6.heap.size w6 _ := (by repeat' (first | with_reducible (first | refine bset ?_ ?_ | exact Below.refl _ _ | assumption | refine bdrewN ?_ _ | refine bdrew ?_ | refine balloc0 ?_ | refine balloc ?_ ?_ | (apply btrans0; rotate_left; assumption) | (apply btrans; rotate_left; assumption)) | exact Below.refl _ _ | assumption | (apply btrans0; rotate_left; assumption) | (apply btrans; rotate_left; assumption) | (simp; done) | omega | (simp; omega)))); exact this.size), HW.out.trans (if_neg (fun h => by have := HQ1.out; have := h.2.2; omega))⟩
    have de1 : decide (N1 ≤ 255) = true := decide_eq_true q1
    by_cases q2 : 0 ≤ N2
    case neg =>
      have r2 : N2 < 0 := by omega
      have HQ2 := Lib.hid q2
      have de2 : decide (0 ≤ N2) = false := decide_eq_false q2
      clear q2
      go_enter Try.func79, Try.ntmps79
      go_wp2_with fail
      refine (pnumber_any s false n1 k1 e1 w.heap.size _ (by exact heap_new) (by omega) HR1.out).mono ?_
      rw [HN1.out]
      rintro e w1 ⟨rfl, R1, K1, hb1⟩
      have z1 : w.heap.size < w1.heap.size := by have := K1.1; simp at this; omega
      have hB1 : Below w.heap.size w w1 := (by repeat' (first | with_reducible (first | refine bset ?_ ?_ | exact Below.refl _ _ | assumption | refine bdrewN ?_ _ | refine bdrew ?_ | refine balloc0 ?_ | refine balloc ?_ ?_ | (apply btrans0; rotate_left; assumption) | (apply btrans; rotate_left; assumption)) | exact Below.refl _ _ | assumption | (apply btrans0; rotate_left; assumption) | (apply btrans; rotate_left; assumption) | (simp; done) | omega | (simp; omega)))
      have HX1 := Lib.hid R1
      clear R1 K1 hb1
      go_wp2_with fail
      refine (pnumber_any U1 Q1 n2 k2 e2 w.heap.size _ HX1.out (by omega) HR2.out).mono ?_
      rw [HN2.out]
      rintro e w2 ⟨rfl, R2, K2, hb2⟩
      have z2 : w.heap.size < w2.heap.size := by have := K2.1; omega
      have hB2 : Below w.heap.size w w2 := (by repeat' (first | with_reducible (first | refine bset ?_ ?_ | exact Below.refl _ _ | assumption | refine bdrewN ?_ _ | refine bdrew ?_ | refine balloc0 ?_ | refine balloc ?_ ?_ | (apply btrans0; rotate_left; assumption) | (apply btrans; rotate_left; assumption)) | exact Below.refl _ _ | assumption | (apply btrans0; rotate_left; assumption) | (apply btrans; rotate_left; assumption) | (simp; done) | omega | (simp; omega)))
      have HX2 := Lib.hid R2
      clear R2 K2 hb2
      go_wp2
      have c6 : ∀ o, (w2.alloc (.cells #[.int .i64 N1, .int .i64 N2] 3)).cell? ⟨w.heap.size, o, none⟩ = (RdxC [] false)[o]? := fun o => cellB ((Below.heap_alloc w2 (.cells #[.int .i64 N1, .int .i64 N2] 3) _ z2).trans HX2.out) o
      have d6 : ∀ o, (w2.alloc (.cells #[.int .i64 N1, .int .i64 N2] 3)).cell? ⟨w2.heap.size, o, none⟩ = #[.int .i64 N1, .int .i64 N2][o]? := fun o => cellB heap_new o
      have zb6 : w2.heap.size < (w2.alloc (.cells #[.int .i64 N1, .int .i64 N2] 3)).heap.size := by simp
      have za6 : w.heap.size < (w2.alloc (.cells #[.int .i64 N1, .int .i64 N2] 3)).heap.size := by simp; omega
      have hB6 : Below w.heap.size w (w2.alloc (.cells #[.int .i64 N1, .int .i64 N2] 3)) := (by repeat' (first | with_reducible (first | refine bset ?_ ?_ | exact Below.refl _ _ | assumption | refine bdrewN ?_ _ | refine bdrew ?_ | refine balloc0 ?_ | refine balloc ?_ ?_ | (apply btrans0; rotate_left; assumption) | (apply btrans; rotate_left; assumption)) | exact Below.refl _ _ | assumption | (apply btrans0; rotate_left; assumption) | (apply btrans; rotate_left; assumption) | (simp; done) | omega | (simp; omega)))
      have HRI : Hid (RInts (w2.alloc (.cells #[.int .i64 N1, .int .i64 N2] 3)) (w2.alloc (.cells #[.int .i64 N1, .int .i64 N2] 3)).heap.size (.slice (some ⟨w2.heap.size, 0, none⟩) 2 2) [N1, N2]) := Lib.hid ⟨some ⟨w2.heap.size, 0, none⟩, 2, rfl, Nat.le_refl _, by simp [maxLen], (fun h => by cases h), fun _ => ⟨w2.heap.size, 0, rfl, zb6, fun i x hx => by rw [d6]; rcases i with _ | _ | i <;> simp at hx <;> (try subst hx) <;> rfl⟩⟩
      simp only [RdxC] at c6
      generalize w2.alloc (.cells #[.int .i64 N1, .int .i64 N2] 3) = w6 at *
      refine wp_region_plan (fun V => Below (w6).heap.size (w6) V) [0, 0, 0, 0, 1, 0, 0, 0, 0, 0, 1, 0, 0, 0, 0, 0, 1, 0, 0, 0, 0, 0, 1, 0, 0, 0, 0, 0, 1, 0, 0, 0, 0, 0, 1, 0, 0, 1, 0, 0, 0, 0] [0, 1, 2, 3, 4, 5, 6, 7, 8, 9, 10, 11, 12, 13, 14, 15, 16, 17, 18, 19, 20, 21, 22, 23, 24, 25, 26, 27, 28, 29, 30, 31, 32, 33, 34, 35, 36, 37, 38, 39, 40, 41] (by kernel_rfl) (by kernel_rfl) ?_ ?_
      case refine_1 => exact (by repeat' (first | with_reducible (first | refine bset ?_ ?_ | exact Below.refl _ _ | assumption | refine bdrewN ?_ _ | refine bdrew ?_ | refine balloc0 ?_ | refine balloc ?_ ?_ | (apply btrans0; rotate_left; assumption) | (apply btrans; rotate_left; assumption)) | exact Below.refl _ _ | assumption | (apply btrans0; rotate_left; assumption) | (apply btrans; rotate_left; assumption) | (simp; done) | omega | (simp; omega)))
      (iterate 42 (first | (refine plan_held rfl (by decide) (by rfl) (fun w1 hS => by (try (obtain ⟨_, _⟩ := bcell (hS rfl))); go_simp; rfl) ?_; simp only [Act.put, List.setIfInBounds_toArray, List.set_cons_zero, List.set_cons_succ]) | (refine plan_skip rfl (by decide) (by rfl) ?_; simp only [Act.put, List.setIfInBounds_toArray, List.set_cons_zero, List.set_cons_succ])))
      refine plan_done ?_
      go_wp2
      go_ret2
      unfold ParsePost
      exact ⟨_, [N1, N2], false, rfl, (by repeat' (first | with_reducible (first | refine bset ?_ ?_ | exact Below.refl _ _ | assumption | refine bdrewN ?_ _ | refine bdrew ?_ | refine balloc0 ?_ | refine balloc ?_ ?_ | (apply btrans0; rotate_left; assumption) | (apply btrans; rotate_left; assumption)) | exact Below.refl _ _ | assumption | (apply btrans0; rotate_left; assumption) | (apply btrans; rotate_left; assumption) | (simp; done) | omega | (simp; omega))), HRI.out.below (C := w6.heap.size) (by repeat' (first | with_reducible (first | refine bset ?_ ?_ | exact Below.refl _ _ | assumption | refine bdrewN ?_ _ | refine bdrew ?_ | refine balloc0 ?_ | refine balloc ?_ ?_ | (apply btrans0; rotate_left; assumption) | (apply btrans; rotate_left; assumption)) | exact Below.refl _ _ | assumption | (apply btrans0; rotate_left; assumption) | (apply btrans; rotate_left; assumption) | (simp; done) | omega | (simp; omega))) (Nat.le_refl _) (by (have : Below w6.heap.size w6 _ := (by repeat' (first | with_reducible (first | refine bset ?_ ?_ | exact Below.refl _ _ | assumption | refine bdrewN ?_ _ | refine bdrew ?_ | refine balloc0 ?_ | refine balloc ?_ ?_ | (apply btrans0; rotate_left; assumption) | (apply btrans; rotate_left; assumption)) | exact Below.refl _ _ | assumption | (apply btrans0; rotate_left; assumption) | (apply btrans; rotate_left; assumption) | (simp; done) | omega | (simp; omega)))); exact this.size), HW.out.trans (if_neg (fun h => by have := HQ2.out; have := h.2.2; omega))⟩
    have de2 : decide (0 ≤ N2) = true := decide_eq_true q2
    by_cases q3 : N2 ≤ N1
    case neg =>
      have r3 : N1 < N2 := by omega
      have HQ3 := Lib.hid q3
      have de3 : decide (N2 ≤ N1) = false := decide_eq_false q3
      clear q3
      go_enter Try.func79, Try.ntmps79
      go_wp2_with fail
      refine (pnumber_any s false n1 k1 e1 w.heap.size _ (by exact heap_new) (by omega) HR1.out).mono ?_
      rw [HN1.out]
      rintro e w1 ⟨rfl, R1, K1, hb1⟩
      have z1 : w.heap.size < w1.heap.size := by have := K1.1; simp at this; omega
      have hB1 : Below w.heap.size w w1 := (by repeat' (first | with_reducible (first | refine bset ?_ ?_ | exact Below.refl _ _ | assumption | refine bdrewN ?_ _ | refine bdrew ?_ | refine balloc0 ?_ | refine balloc ?_ ?_ | (apply btrans0; rotate_left; assumption) | (apply btrans; rotate_left; assumption)) | exact Below.refl _ _ | assumption | (apply btrans0; rotate_left; assumption) | (apply btrans; rotate_left; assumption) | (simp; done) | omega | (simp; omega)))
      have HX1 := Lib.hid R1
      clear R1 K1 hb1
      go_wp2_with fail
      refine (pnumber_any U1 Q1 n2 k2 e2 w.heap.size _ HX1.out (by omega) HR2.out).mono ?_
      rw [HN2.out]
      rintro e w2 ⟨rfl, R2, K2, hb2⟩
      have z2 : w.heap.size < w2.heap.size := by have := K2.1; omega
      have hB2 : Below w.heap.size w w2 := (by repeat' (first | with_reducible (first | refine bset ?_ ?_ | exact Below.refl _ _ | assumption | refine bdrewN ?_ _ | refine bdrew ?_ | refine balloc0 ?_ | refine balloc ?_ ?_ | (apply btrans0; rotate_left; assumption) | (apply btrans; rotate_left; assumption)) | exact Below.refl _ _ | assumption | (apply btrans0; rotate_left; assumption) | (apply btrans; rotate_left; assumption) | (simp; done) | omega | (simp; omega)))
      have HX2 := Lib.hid R2
      clear R2 K2 hb2
      go_wp2
      have c6 : ∀ o, (w2.alloc (.cells #[.int .i64 N1, .int .i64 N2] 3)).cell? ⟨w.heap.size, o, none⟩ = (RdxC [] false)[o]? := fun o => cellB ((Below.heap_alloc w2 (.cells #[.int .i64 N1, .int .i64 N2] 3) _ z2).trans HX2.out) o
      have d6 : ∀ o, (w2.alloc (.cells #[.int .i64 N1, .int .i64 N2] 3)).cell? ⟨w2.heap.size, o, none⟩ = #[.int .i64 N1, .int .i64 N2][o]? := fun o => cellB heap_new o
      have zb6 : w2.heap.size < (w2.alloc (.cells #[.int .i64 N1, .int .i64 N2] 3)).heap.size := by simp
      have za6 : w.heap.size < (w2.alloc (.cells #[.int .i64 N1, .int .i64 N2] 3)).heap.size := by simp; omega
      have hB6 : Below w.heap.size w (w2.alloc (.cells #[.int .i64 N1, .int .i64 N2] 3)) := (by repeat' (first | with_reducible (first | refine bset ?_ ?_ | exact Below.refl _ _ | assumption | refine bdrewN ?_ _ | refine bdrew ?_ | refine balloc0 ?_ | refine balloc ?_ ?_ | (apply btrans0; rotate_left; assumption) | (apply btrans; rotate_left; assumption)) | exact Below.refl _ _ | assumption | (apply btrans0; rotate_left; assumption) | (apply btrans; rotate_left; assumption) | (simp; done) | omega | (simp; omega)))
      have HRI : Hid (RInts (w2.alloc (.cells #[.int .i64 N1, .int .i64 N2] 3)) (w2.alloc (.cells #[.int .i64 N1, .int .i64 N2] 3)).heap.size (.slice (some ⟨w2.heap.size, 0, none⟩) 2 2) [N1, N2]) := Lib.hid ⟨some ⟨w2.heap.size, 0, none⟩, 2, rfl, Nat.le_refl _, by simp [maxLen], (fun h => by cases h), fun _ => ⟨w2.heap.size, 0, rfl, zb6, fun i x hx => by rw [d6]; rcases i with _ | _ | i <;> simp at hx <;> (try subst hx) <;> rfl⟩⟩
      simp only [RdxC] at c6
      generalize w2.alloc (.cells #[.int .i64 N1, .int .i64 N2] 3) = w6 at *
      refine wp_region_plan (fun V => Below (w6).heap.size (w6) V) [0, 0, 0, 0, 1, 0, 0, 0, 0, 0, 1, 0, 0, 0, 0, 0, 1, 0, 0, 0, 0, 0, 1, 0, 0, 0, 0, 0, 1, 0, 0, 0, 0, 0, 1, 0, 0, 1, 0, 0, 0, 0] [0, 1, 2, 3, 4, 5, 6, 7, 8, 9, 10, 11, 12, 13, 14, 15, 16, 17, 18, 19, 20, 21, 22, 23, 24, 25, 26, 27, 28, 29, 30, 31, 32, 33, 34, 35, 36, 37, 38, 39, 40, 41] (by kernel_rfl) (by kernel_rfl) ?_ ?_
      case refine_1 => exact (by repeat' (first | with_reducible (first | refine bset ?_ ?_ | exact Below.refl _ _ | assumption | refine bdrewN ?_ _ | refine bdrew ?_ | refine balloc0 ?_ | refine balloc ?_ ?_ | (apply btrans0; rotate_left; assumption) | (apply btrans; rotate_left; assumption)) | exact Below.refl _ _ | assumption | (apply btrans0; rotate_left; assumption) | (apply btrans; rotate_left; assumption) | (simp; done) | omega | (simp; omega)))
      (iterate 42 (first | (refine plan_held rfl (by decide) (by rfl) (fun w1 hS => by (try (obtain ⟨_, _⟩ := bcell (hS rfl))); go_simp; rfl) ?_; simp only [Act.put, List.setIfInBounds_toArray, List.set_cons_zero, List.set_cons_succ]) | (refine plan_skip rfl (by decide) (by rfl) ?_; simp only [Act.put, List.setIfInBounds_toArray, List.set_cons_zero, List.set_cons_succ])))
      refine plan_done ?_
      go_wp2
      go_ret2
      unfold ParsePost
      exact ⟨_, [N1, N2], false, rfl, (by repeat' (first | with_reducible (first | refine bset ?_ ?_ | exact Below.refl _ _ | assumption | refine bdrewN ?_ _ | refine bdrew ?_ | refine balloc0 ?_ | refine balloc ?_ ?_ | (apply btrans0; rotate_left; assumption) | (apply btrans; rotate_left; assumption)) | exact Below.refl _ _ | assumption | (apply btrans0; rotate_left; assumption) | (apply btrans; rotate_left; assumption) | (simp; done) | omega | (simp; omega))), HRI.out.below (C := w6.heap.size) (by repeat' (first | with_reducible (first | refine bset ?_ ?_ | exact Below.refl _ _ | assumption | refine bdrewN ?_ _ | refine bdrew ?_ | refine balloc0 ?_ | refine balloc ?_ ?_ | (apply btrans0; rotate_left; assumption) | (apply btrans; rotate_left; assumption)) | exact Below.refl _ _ | assumption | (apply btrans0; rotate_left; assumption) | (apply btrans; rotate_left; assumption) | (simp; done) | omega | (simp; omega))) (Nat.le_refl _) (by (have : Below w6.heap.size w6 _ := (by repeat' (first | with_reducible (first | refine bset ?_ ?_ | exact Below.refl _ _ | assumption | refine bdrewN ?_ _ | refine bdrew ?_ | refine balloc0 ?_ | refine balloc ?_ ?_ | (apply btrans0; rotate_left; assumption) | (apply btrans; rotate_left; assumption)) | exact Below.refl _ _ | assumption | (apply btrans0; rotate_left; assumption) | (apply btrans; rotate_left; assumption) | (simp; done) | omega | (simp; omega)))); exact this.size), HW.out.trans (if_neg (fun h => by have := HQ3.out; have := h.2.2; omega))⟩
    have de3 : decide (N2 ≤ N1) = true := decide_eq_true q3
    have HQ : Hid (1 ≤ N1 ∧ N1 ≤ 255 ∧ 0 ≤ N2 ∧ N2 ≤ N1) := Lib.hid ⟨q0, q1, q2, q3⟩
    go_enter Try.func79, Try.ntmps79
    go_wp2_with fail
    refine (pnumber_any s false n1 k1 e1 w.heap.size _ (by exact heap_new) (by omega) HR1.out).mono ?_
    rw [HN1.out]
    rintro e w1 ⟨rfl, R1, K1, hb1⟩
    have z1 : w.heap.size < w1.heap.size := by have := K1.1; simp at this; omega
    have hB1 : Below w.heap.size w w1 := (by repeat' (first | with_reducible (first | refine bset ?_ ?_ | exact Below.refl _ _ | assumption | refine bdrewN ?_ _ | refine bdrew ?_ | refine balloc0 ?_ | refine balloc ?_ ?_ | (apply btrans0; rotate_left; assumption) | (apply btrans; rotate_left; assumption)) | exact Below.refl _ _ | assumption | (apply btrans0; rotate_left; assumption) | (apply btrans; rotate_left; assumption) | (simp; done) | omega | (simp; omega)))
    have HX1 := Lib.hid R1
    clear R1 K1 hb1
    go_wp2_with fail
    refine (pnumber_any U1 Q1 n2 k2 e2 w.heap.size _ HX1.out (by omega) HR2.out).mono ?_
    rw [HN2.out]
    rintro e w2 ⟨rfl, R2, K2, hb2⟩
    have z2 : w.heap.size < w2.heap.size := by have := K2.1; omega
    have hB2 : Below w.heap.size w w2 := (by repeat' (first | with_reducible (first | refine bset ?_ ?_ | exact Below.refl _ _ | assumption | refine bdrewN ?_ _ | refine bdrew ?_ | refine balloc0 ?_ | refine balloc ?_ ?_ | (apply btrans0; rotate_left; assumption) | (apply btrans; rotate_left; assumption)) | exact Below.refl _ _ | assumption | (apply btrans0; rotate_left; assumption) | (apply btrans; rotate_left; assumption) | (simp; done) | omega | (simp; omega)))
    have HX2 := Lib.hid R2
    clear R2 K2 hb2
    go_wp2
    have c6 : ∀ o, (w2.alloc (.cells #[.int .i64 N1, .int .i64 N2] 3)).cell? ⟨w.heap.size, o, none⟩ = (RdxC [] false)[o]? := fun o => cellB ((Below.heap_alloc w2 (.cells #[.int .i64 N1, .int .i64 N2] 3) _ z2).trans HX2.out) o
    have d6 : ∀ o, (w2.alloc (.cells #[.int .i64 N1, .int .i64 N2] 3)).cell? ⟨w2.heap.size, o, none⟩ = #[.int .i64 N1, .int .i64 N2][o]? := fun o => cellB heap_new o
    have zb6 : w2.heap.size < (w2.alloc (.cells #[.int .i64 N1, .int .i64 N2] 3)).heap.size := by simp
    have za6 : w.heap.size < (w2.alloc (.cells #[.int .i64 N1, .int .i64 N2] 3)).heap.size := by simp; omega
    have hB6 : Below w.heap.size w (w2.alloc (.cells #[.int .i64 N1, .int .i64 N2] 3)) := (by repeat' (first | with_reducible (first | refine bset ?_ ?_ | exact Below.refl _ _ | assumption | refine bdrewN ?_ _ | refine bdrew ?_ | refine balloc0 ?_ | refine balloc ?_ ?_ | (apply btrans0; rotate_left; assumption) | (apply btrans; rotate_left; assumption)) | exact Below.refl _ _ | assumption | (apply btrans0; rotate_left; assumption) | (apply btrans; rotate_left; assumption) | (simp; done) | omega | (simp; omega)))
    have HRI : Hid (RInts (w2.alloc (.cells #[.int .i64 N1, .int .i64 N2] 3)) (w2.alloc (.cells #[.int .i64 N1, .int .i64 N2] 3)).heap.size (.slice (some ⟨w2.heap.size, 0, none⟩) 2 2) [N1, N2]) := Lib.hid ⟨some ⟨w2.heap.size, 0, none⟩, 2, rfl, Nat.le_refl _, by simp [maxLen], (fun h => by cases h), fun _ => ⟨w2.heap.size, 0, rfl, zb6, fun i x hx => by rw [d6]; rcases i with _ | _ | i <;> simp at hx <;> (try subst hx) <;> rfl⟩⟩
    simp only [RdxC] at c6
    generalize w2.alloc (.cells #[.int .i64 N1, .int .i64 N2] 3) = w6 at *
    refine wp_region_plan (fun V => Below (w6).heap.size (w6) V) [0, 0, 0, 0, 1, 0, 0, 0, 0, 0, 1, 0, 0, 0, 0, 0, 1, 0, 0, 0, 0, 0, 1, 0, 0, 0, 0, 0, 1, 0, 0, 0, 0, 0, 1, 0, 0, 1, 0, 0, 0, 0] [0, 1, 2, 3, 4, 5, 6, 7, 8, 9, 10, 11, 12, 13, 14, 15, 16, 17, 18, 19, 20, 21, 22, 23, 24, 25, 26, 27, 28, 29, 30, 31, 32, 33, 34, 35, 36, 37, 38, 39, 40, 41] (by kernel_rfl) (by kernel_rfl) ?_ ?_
    case refine_1 => exact (by repeat' (first | with_reducible (first | refine bset ?_ ?_ | exact Below.refl _ _ | assumption | refine bdrewN ?_ _ | refine bdrew ?_ | refine balloc0 ?_ | refine balloc ?_ ?_ | (apply btrans0; rotate_left; assumption) | (apply btrans; rotate_left; assumption)) | exact Below.refl _ _ | assumption | (apply btrans0; rotate_left; assumption) | (apply btrans; rotate_left; assumption) | (simp; done) | omega | (simp; omega)))
    (iterate 42 (first | (refine plan_held rfl (by decide) (by rfl) (fun w1 hS => by (try (obtain ⟨_, _⟩ := bcell (hS rfl))); go_simp; rfl) ?_; simp only [Act.put, List.setIfInBounds_toArray, List.set_cons_zero, List.set_cons_succ]) | (refine plan_skip rfl (by decide) (by rfl) ?_; simp only [Act.put, List.setIfInBounds_toArray, List.set_cons_zero, List.set_cons_succ])))
    refine plan_done ?_
    go_wp2
    go_ret2
    unfold ParsePost
    exact ⟨_, [N1, N2], true, rfl, (by repeat' (first | with_reducible (first | refine bset ?_ ?_ | exact Below.refl _ _ | assumption | refine bdrewN ?_ _ | refine bdrew ?_ | refine balloc0 ?_ | refine balloc ?_ ?_ | (apply btrans0; rotate_left; assumption) | (apply btrans; rotate_left; assumption)) | exact Below.refl _ _ | assumption | (apply btrans0; rotate_left; assumption) | (apply btrans; rotate_left; assumption) | (simp; done) | omega | (simp; omega))), HRI.out.below (C := w6.heap.size) (by repeat' (first | with_reducible (first | refine bset ?_ ?_ | exact Below.refl _ _ | assumption | refine bdrewN ?_ _ | refine bdrew ?_ | refine balloc0 ?_ | refine balloc ?_ ?_ | (apply btrans0; rotate_left; assumption) | (apply btrans; rotate_left; assumption)) | exact Below.refl _ _ | assumption | (apply btrans0; rotate_left; assumption) | (apply btrans; rotate_left; assumption) | (simp; done) | omega | (simp; omega))) (Nat.le_refl _) (by (have : Below w6.heap.size w6 _ := (by repeat' (first | with_reducible (first | refine bset ?_ ?_ | exact Below.refl _ _ | assumption | refine bdrewN ?_ _ | refine bdrew ?_ | refine balloc0 ?_ | refine balloc ?_ ?_ | (apply btrans0; rotate_left; assumption) | (apply btrans; rotate_left; assumption)) | exact Below.refl _ _ | assumption | (apply btrans0; rotate_left; assumption) | (apply btrans; rotate_left; assumption) | (simp; done) | omega | (simp; omega)))); exact this.size), HW.out.trans (if_pos (by have := HQ.out; first | exact ⟨rfl, rfl, this⟩ | (simp; omega)))⟩
end Go.Proofs.Ythgokfceakbjlaa
