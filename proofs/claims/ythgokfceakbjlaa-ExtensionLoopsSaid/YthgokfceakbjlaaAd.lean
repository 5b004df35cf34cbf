/- Layer 14 (extension): the parsers of the age's and of the hops' data. -/
import Derived.Test.YthgokfceakbjlaaAc
set_option linter.unusedVariables false
set_option linter.unusedSimpArgs false
namespace Go.Proofs.Ythgokfceakbjlaa
open Go Go.RowKit
attribute [local go_sem] B_getElem B_size B_app B_extract B_get B_toList

/-- what a parser answers -/
def ParsePost (r : Option (List Int)) (w : World) (e : Ending) (w' : World) : Prop :=
  ∃ (v : Value) (l : List Int) (ok : Bool), e = .returned (.tuple #[v, .bool ok]) ∧ Below w.heap.size w w' ∧ RInts w' w'.heap.size v l ∧ (if ok = true then r = some l else r = none)
theorem rdW1 {s : List UInt8} {n k e N : Int} {U : List UInt8} {Q : Bool} (h : readS s = (n, k, e)) (h2 : nmS s false n k e = (N, U, Q)) : rdW 1 s false = ([N], U, Q) := by rw [rdW_step h h2]; rfl
theorem rdW2 {s U1 U2 : List UInt8} {n1 k1 e1 N1 n2 k2 e2 N2 : Int} {Q1 Q2 : Bool} (h : readS s = (n1, k1, e1)) (h2 : nmS s false n1 k1 e1 = (N1, U1, Q1)) (h3 : readS U1 = (n2, k2, e2)) (h4 : nmS U1 Q1 n2 k2 e2 = (N2, U2, Q2)) :
    rdW 2 s false = ([N1, N2], U2, Q2) := by rw [rdW_step h h2, rdW_step h3 h4]; rfl
theorem rdNs_W {f : Nat} {s U : List UInt8} {L : List Int} {Q : Bool} (h : rdW f s false = (L, U, Q)) : (Q = true → rdNs f s = none) ∧ (Q = false → ∃ m, rdNs f s = some (L, m) ∧ (m = s.length ↔ U = [])) := by
  obtain ⟨g1, g2, g3, g4⟩ := rdW_spec f _ _ _ _ _ h
  refine ⟨fun hq => (g4 hq).resolve_left (by simp), fun hq => ?_⟩
  obtain ⟨_, m, h1, h2⟩ := g3 hq
  refine ⟨m, h1, fun e => List.length_eq_zero_iff.1 (by omega), fun e => by subst e; simp at h2; omega⟩
theorem num1_W {s U : List UInt8} {N : Int} {Q : Bool} (h : rdW 1 s false = ([N], U, Q)) : num1 s = if Q = false ∧ U = [] ∧ 0 ≤ N ∧ N ≤ 1099511627776 then some [N] else none := by
  obtain ⟨g1, g2⟩ := rdNs_W h
  unfold num1
  cases Q with
  | true => rw [g1 rfl]; rfl
  | false =>
    obtain ⟨m, h1, h2⟩ := g2 rfl
    rw [h1]
    simp only [List.getD_cons_zero, true_and, h2]
theorem num2_W {s U : List UInt8} {N M : Int} {Q : Bool} (h : rdW 2 s false = ([N, M], U, Q)) : num2 s = if Q = false ∧ U = [] ∧ 1 ≤ N ∧ N ≤ 255 ∧ 0 ≤ M ∧ M ≤ N then some [N, M] else none := by
  obtain ⟨g1, g2⟩ := rdNs_W h
  unfold num2
  cases Q with
  | true => rw [g1 rfl]; rfl
  | false =>
    obtain ⟨m, h1, h2⟩ := g2 rfl
    rw [h1]
    simp only [List.getD_cons_zero, List.getD_cons_succ, true_and, h2]
theorem nmS_len {u U : List UInt8} {q Q : Bool} {n k e N : Int} (h : nmS u q n k e = (N, U, Q)) : U.length ≤ u.length := by
  unfold nmS at h
  split at h
  · obtain ⟨_, rfl, _⟩ := trip h; exact Nat.le_refl _
  · obtain ⟨_, rfl, _⟩ := trip h; rw [List.length_drop]; omega
set_option maxRecDepth 100000 in
set_option maxHeartbeats 8000000 in
theorem parse1_any (s : List UInt8) (w : World) (hs : s.length ≤ 1000000) :
    Calls Try.prog 77 #[.string (B s)] w (ParsePost (num1 s) w) := by
  obtain ⟨⟨n1, k1, e1⟩, hr1⟩ : ∃ r, readS s = r := ⟨_, rfl⟩
  obtain ⟨⟨N1, U1, Q1⟩, hn1⟩ : ∃ r, nmS s false n1 k1 e1 = r := ⟨_, rfl⟩
  have hl1 := nmS_len hn1
  have hW := num1_W (rdW1 hr1 hn1)
  obtain ⟨R, hR⟩ : ∃ q, num1 s = q := ⟨_, rfl⟩
  rw [hR] at hW ⊢
  have HW := Lib.hid hW
  have HR1 := Lib.hid hr1
  have HN1 := Lib.hid hn1
  clear hW hR hr1 hn1
  cases Q1 with
  | true =>
    go_enter Try.func77, Try.ntmps77
    go_wp2_with fail
    refine (pnumber_any s false n1 k1 e1 w.heap.size _ (by exact heap_new) (by omega) HR1.out).mono ?_
    rw [HN1.out]
    rintro e w1 ⟨rfl, R1, K1, hb1⟩
    have z1 : w.heap.size < w1.heap.size := by have := K1.1; simp at this; omega
    have hB1 : Below w.heap.size w w1 := (by repeat' (first | with_reducible (first | refine bset ?_ ?_ | exact Below.refl _ _ | assumption | refine bdrewN ?_ _ | refine bdrew ?_ | refine balloc0 ?_ | refine balloc ?_ ?_ | (apply btrans0; rotate_left; assumption) | (apply btrans; rotate_left; assumption)) | exact Below.refl _ _ | assumption | (apply btrans0; rotate_left; assumption) | (apply btrans; rotate_left; assumption) | (simp; done) | omega | (simp; omega)))
    have HX1 := Lib.hid R1
    clear R1 K1 hb1
    go_wp2
    have c6 : ∀ o, (w1.alloc (.cells #[.int .i64 N1] 3)).cell? ⟨w.heap.size, o, none⟩ = (RdxC U1 true)[o]? := fun o => cellB ((Below.heap_alloc w1 (.cells #[.int .i64 N1] 3) _ z1).trans HX1.out) o
    have d6 : ∀ o, (w1.alloc (.cells #[.int .i64 N1] 3)).cell? ⟨w1.heap.size, o, none⟩ = #[.int .i64 N1][o]? := fun o => cellB heap_new o
    have zb6 : w1.heap.size < (w1.alloc (.cells #[.int .i64 N1] 3)).heap.size := by simp
    have za6 : w.heap.size < (w1.alloc (.cells #[.int .i64 N1] 3)).heap.size := by simp; omega
    have hB6 : Below w.heap.size w (w1.alloc (.cells #[.int .i64 N1] 3)) := (by repeat' (first | with_reducible (first | refine bset ?_ ?_ | exact Below.refl _ _ | assumption | refine bdrewN ?_ _ | refine bdrew ?_ | refine balloc0 ?_ | refine balloc ?_ ?_ | (apply btrans0; rotate_left; assumption) | (apply btrans; rotate_left; assumption)) | exact Below.refl _ _ | assumption | (apply btrans0; rotate_left; assumption) | (apply btrans; rotate_left; assumption) | (simp; done) | omega | (simp; omega)))
    have HRI : Hid (RInts (w1.alloc (.cells #[.int .i64 N1] 3)) (w1.alloc (.cells #[.int .i64 N1] 3)).heap.size (.slice (some ⟨w1.heap.size, 0, none⟩) 1 1) [N1]) := Lib.hid ⟨some ⟨w1.heap.size, 0, none⟩, 1, rfl, Nat.le_refl _, by simp [maxLen], (fun h => by cases h), fun _ => ⟨w1.heap.size, 0, rfl, zb6, fun i x hx => by rw [d6]; rcases i with _ | i <;> simp at hx <;> (try subst hx) <;> rfl⟩⟩
    simp only [RdxC] at c6
    generalize w1.alloc (.cells #[.int .i64 N1] 3) = w6 at *
    refine wp_region_plan (fun V => Below (w6).heap.size (w6) V) [0, 0, 0, 0, 1, 0, 0, 0, 0, 0, 1, 0, 0, 0, 0, 0, 1, 0, 0, 0, 0, 0, 1, 0, 0, 0, 0] [0, 1, 2, 3, 4, 5, 6, 7, 8, 9, 10, 11, 12, 13, 14, 15, 16, 17, 18, 19, 20, 21, 22, 23, 24, 25, 26] (by kernel_rfl) (by kernel_rfl) ?_ ?_
    case refine_1 => exact (by repeat' (first | with_reducible (first | refine bset ?_ ?_ | exact Below.refl _ _ | assumption | refine bdrewN ?_ _ | refine bdrew ?_ | refine balloc0 ?_ | refine balloc ?_ ?_ | (apply btrans0; rotate_left; assumption) | (apply btrans; rotate_left; assumption)) | exact Below.refl _ _ | assumption | (apply btrans0; rotate_left; assumption) | (apply btrans; rotate_left; assumption) | (simp; done) | omega | (simp; omega)))
    (iterate 27 (first | (refine plan_held rfl (by decide) (by rfl) (fun w1 hS => by (try (obtain ⟨_, _⟩ := bcell (hS rfl))); go_simp; rfl) ?_; simp only [Act.put, List.setIfInBounds_toArray, List.set_cons_zero, List.set_cons_succ]) | (refine plan_skip rfl (by decide) (by rfl) ?_; simp only [Act.put, List.setIfInBounds_toArray, List.set_cons_zero, List.set_cons_succ])))
    refine plan_done ?_
    go_wp2
    go_ret2
    unfold ParsePost
    exact ⟨_, [N1], false, rfl, (by repeat' (first | with_reducible (first | refine bset ?_ ?_ | exact Below.refl _ _ | assumption | refine bdrewN ?_ _ | refine bdrew ?_ | refine balloc0 ?_ | refine balloc ?_ ?_ | (apply btrans0; rotate_left; assumption) | (apply btrans; rotate_left; assumption)) | exact Below.refl _ _ | assumption | (apply btrans0; rotate_left; assumption) | (apply btrans; rotate_left; assumption) | (simp; done) | omega | (simp; omega))), HRI.out.below (C := w6.heap.size) (by repeat' (first | with_reducible (first | refine bset ?_ ?_ | exact Below.refl _ _ | assumption | refine bdrewN ?_ _ | refine bdrew ?_ | refine balloc0 ?_ | refine balloc ?_ ?_ | (apply btrans0; rotate_left; assumption) | (apply btrans; rotate_left; assumption)) | exact Below.refl _ _ | assumption | (apply btrans0; rotate_left; assumption) | (apply btrans; rotate_left; assumption) | (simp; done) | omega | (simp; omega))) (Nat.le_refl _) (by (have : Below w6.heap.size w6 _ := (by repeat' (first | with_reducible (first | refine bset ?_ ?_ | exact Below.refl _ _ | assumption | refine bdrewN ?_ _ | refine bdrew ?_ | refine balloc0 ?_ | refine balloc ?_ ?_ | (apply btrans0; rotate_left; assumption) | (apply btrans; rotate_left; assumption)) | exact Below.refl _ _ | assumption | (apply btrans0; rotate_left; assumption) | (apply btrans; rotate_left; assumption) | (simp; done) | omega | (simp; omega)))); exact this.size), HW.out.trans (if_neg (fun h => by cases h.1))⟩
  | false =>
    by_cases u : U1 = []
    case neg =>
      have u1 : U1.isEmpty = false := by cases U1 with | nil => exact absurd rfl u | cons _ _ => rfl
      have u2 : ¬ U1 = [] := u
      have u3 : (U1 == []) = false := beq_eq_false_iff_ne.2 u
      have HU := Lib.hid u
      go_enter Try.func77, Try.ntmps77
      go_wp2_with fail
      refine (pnumber_any s false n1 k1 e1 w.heap.size _ (by exact heap_new) (by omega) HR1.out).mono ?_
      rw [HN1.out]
      rintro e w1 ⟨rfl, R1, K1, hb1⟩
      have z1 : w.heap.size < w1.heap.size := by have := K1.1; simp at this; omega
      have hB1 : Below w.heap.size w w1 := (by repeat' (first | with_reducible (first | refine bset ?_ ?_ | exact Below.refl _ _ | assumption | refine bdrewN ?_ _ | refine bdrew ?_ | refine balloc0 ?_ | refine balloc ?_ ?_ | (apply btrans0; rotate_left; assumption) | (apply btrans; rotate_left; assumption)) | exact Below.refl _ _ | assumption | (apply btrans0; rotate_left; assumption) | (apply btrans; rotate_left; assumption) | (simp; done) | omega | (simp; omega)))
      have HX1 := Lib.hid R1
      clear R1 K1 hb1
      go_wp2
      have c6 : ∀ o, (w1.alloc (.cells #[.int .i64 N1] 3)).cell? ⟨w.heap.size, o, none⟩ = (RdxC U1 false)[o]? := fun o => cellB ((Below.heap_alloc w1 (.cells #[.int .i64 N1] 3) _ z1).trans HX1.out) o
      have d6 : ∀ o, (w1.alloc (.cells #[.int .i64 N1] 3)).cell? ⟨w1.heap.size, o, none⟩ = #[.int .i64 N1][o]? := fun o => cellB heap_new o
      have zb6 : w1.heap.size < (w1.alloc (.cells #[.int .i64 N1] 3)).heap.size := by simp
      have za6 : w.heap.size < (w1.alloc (.cells #[.int .i64 N1] 3)).heap.size := by simp; omega
      have hB6 : Below w.heap.size w (w1.alloc (.cells #[.int .i64 N1] 3)) := (by repeat' (first | with_reducible (first | refine bset ?_ ?_ | exact Below.refl _ _ | assumption | refine bdrewN ?_ _ | refine bdrew ?_ | refine balloc0 ?_ | refine balloc ?_ ?_ | (apply btrans0; rotate_left; assumption) | (apply btrans; rotate_left; assumption)) | exact Below.refl _ _ | assumption | (apply btrans0; rotate_left; assumption) | (apply btrans; rotate_left; assumption) | (simp; done) | omega | (simp; omega)))
      have HRI : Hid (RInts (w1.alloc (.cells #[.int .i64 N1] 3)) (w1.alloc (.cells #[.int .i64 N1] 3)).heap.size (.slice (some ⟨w1.heap.size, 0, none⟩) 1 1) [N1]) := Lib.hid ⟨some ⟨w1.heap.size, 0, none⟩, 1, rfl, Nat.le_refl _, by simp [maxLen], (fun h => by cases h), fun _ => ⟨w1.heap.size, 0, rfl, zb6, fun i x hx => by rw [d6]; rcases i with _ | i <;> simp at hx <;> (try subst hx) <;> rfl⟩⟩
      simp only [RdxC] at c6
      generalize w1.alloc (.cells #[.int .i64 N1] 3) = w6 at *
      refine wp_region_plan (fun V => Below (w6).heap.size (w6) V) [0, 0, 0, 0, 1, 0, 0, 0, 0, 0, 1, 0, 0, 0, 0, 0, 1, 0, 0, 0, 0, 0, 1, 0, 0, 0, 0] [0, 1, 2, 3, 4, 5, 6, 7, 8, 9, 10, 11, 12, 13, 14, 15, 16, 17, 18, 19, 20, 21, 22, 23, 24, 25, 26] (by kernel_rfl) (by kernel_rfl) ?_ ?_
      case refine_1 => exact (by repeat' (first | with_reducible (first | refine bset ?_ ?_ | exact Below.refl _ _ | assumption | refine bdrewN ?_ _ | refine bdrew ?_ | refine balloc0 ?_ | refine balloc ?_ ?_ | (apply btrans0; rotate_left; assumption) | (apply btrans; rotate_left; assumption)) | exact Below.refl _ _ | assumption | (apply btrans0; rotate_left; assumption) | (apply btrans; rotate_left; assumption) | (simp; done) | omega | (simp; omega)))
      (iterate 27 (first | (refine plan_held rfl (by decide) (by rfl) (fun w1 hS => by (try (obtain ⟨_, _⟩ := bcell (hS rfl))); go_simp; rfl) ?_; simp only [Act.put, List.setIfInBounds_toArray, List.set_cons_zero, List.set_cons_succ]) | (refine plan_skip rfl (by decide) (by rfl) ?_; simp only [Act.put, List.setIfInBounds_toArray, List.set_cons_zero, List.set_cons_succ])))
      refine plan_done ?_
      go_wp2
      go_ret2
      unfold ParsePost
      exact ⟨_, [N1], false, rfl, (by repeat' (first | with_reducible (first | refine bset ?_ ?_ | exact Below.refl _ _ | assumption | refine bdrewN ?_ _ | refine bdrew ?_ | refine balloc0 ?_ | refine balloc ?_ ?_ | (apply btrans0; rotate_left; assumption) | (apply btrans; rotate_left; assumption)) | exact Below.refl _ _ | assumption | (apply btrans0; rotate_left; assumption) | (apply btrans; rotate_left; assumption) | (simp; done) | omega | (simp; omega))), HRI.out.below (C := w6.heap.size) (by repeat' (first | with_reducible (first | refine bset ?_ ?_ | exact Below.refl _ _ | assumption | refine bdrewN ?_ _ | refine bdrew ?_ | refine balloc0 ?_ | refine balloc ?_ ?_ | (apply btrans0; rotate_left; assumption) | (apply btrans; rotate_left; assumption)) | exact Below.refl _ _ | assumption | (apply btrans0; rotate_left; assumption) | (apply btrans; rotate_left; assumption) | (simp; done) | omega | (simp; omega))) (Nat.le_refl _) (by (have : Below w6.heap.size w6 _ := (by repeat' (first | with_reducible (first | refine bset ?_ ?_ | exact Below.refl _ _ | assumption | refine bdrewN ?_ _ | refine bdrew ?_ | refine balloc0 ?_ | refine balloc ?_ ?_ | (apply btrans0; rotate_left; assumption) | (apply btrans; rotate_left; assumption)) | exact Below.refl _ _ | assumption | (apply btrans0; rotate_left; assumption) | (apply btrans; rotate_left; assumption) | (simp; done) | omega | (simp; omega)))); exact this.size), HW.out.trans (if_neg (fun h => HU.out h.2.1))⟩
    subst u
    by_cases q0 : 0 ≤ N1
    case neg =>
      have r0 : N1 < 0 := by omega
      have HQ0 := Lib.hid q0
      have de0 : decide (0 ≤ N1) = false := decide_eq_false q0
      clear q0
      go_enter Try.func77, Try.ntmps77
      go_wp2_with fail
      refine (pnumber_any s false n1 k1 e1 w.heap.size _ (by exact heap_new) (by omega) HR1.out).mono ?_
      rw [HN1.out]
      rintro e w1 ⟨rfl, R1, K1, hb1⟩
      have z1 : w.heap.size < w1.heap.size := by have := K1.1; simp at this; omega
      have hB1 : Below w.heap.size w w1 := (by repeat' (first | with_reducible (first | refine bset ?_ ?_ | exact Below.refl _ _ | assumption | refine bdrewN ?_ _ | refine bdrew ?_ | refine balloc0 ?_ | refine balloc ?_ ?_ | (apply btrans0; rotate_left; assumption) | (apply btrans; rotate_left; assumption)) | exact Below.refl _ _ | assumption | (apply btrans0; rotate_left; assumption) | (apply btrans; rotate_left; assumption) | (simp; done) | omega | (simp; omega)))
      have HX1 := Lib.hid R1
      clear R1 K1 hb1
      go_wp2
      have c6 : ∀ o, (w1.alloc (.cells #[.int .i64 N1] 3)).cell? ⟨w.heap.size, o, none⟩ = (RdxC [] false)[o]? := fun o => cellB ((Below.heap_alloc w1 (.cells #[.int .i64 N1] 3) _ z1).trans HX1.out) o
      have d6 : ∀ o, (w1.alloc (.cells #[.int .i64 N1] 3)).cell? ⟨w1.heap.size, o, none⟩ = #[.int .i64 N1][o]? := fun o => cellB heap_new o
      have zb6 : w1.heap.size < (w1.alloc (.cells #[.int .i64 N1] 3)).heap.size := by simp
      have za6 : w.heap.size < (w1.alloc (.cells #[.int .i64 N1] 3)).heap.size := by simp; omega
      have hB6 : Below w.heap.size w (w1.alloc (.cells #[.int .i64 N1] 3)) := (by repeat' (first | with_reducible (first | refine bset ?_ ?_ | exact Below.refl _ _ | assumption | refine bdrewN ?_ _ | refine bdrew ?_ | refine balloc0 ?_ | refine balloc ?_ ?_ | (apply btrans0; rotate_left; assumption) | (apply btrans; rotate_left; assumption)) | exact Below.refl _ _ | assumption | (apply btrans0; rotate_left; assumption) | (apply btrans; rotate_left; assumption) | (simp; done) | omega | (simp; omega)))
      have HRI : Hid (RInts (w1.alloc (.cells #[.int .i64 N1] 3)) (w1.alloc (.cells #[.int .i64 N1] 3)).heap.size (.slice (some ⟨w1.heap.size, 0, none⟩) 1 1) [N1]) := Lib.hid ⟨some ⟨w1.heap.size, 0, none⟩, 1, rfl, Nat.le_refl _, by simp [maxLen], (fun h => by cases h), fun _ => ⟨w1.heap.size, 0, rfl, zb6, fun i x hx => by rw [d6]; rcases i with _ | i <;> simp at hx <;> (try subst hx) <;> rfl⟩⟩
      simp only [RdxC] at c6
      generalize w1.alloc (.cells #[.int .i64 N1] 3) = w6 at *
      refine wp_region_plan (fun V => Below (w6).heap.size (w6) V) [0, 0, 0, 0, 1, 0, 0, 0, 0, 0, 1, 0, 0, 0, 0, 0, 1, 0, 0, 0, 0, 0, 1, 0, 0, 0, 0] [0, 1, 2, 3, 4, 5, 6, 7, 8, 9, 10, 11, 12, 13, 14, 15, 16, 17, 18, 19, 20, 21, 22, 23, 24, 25, 26] (by kernel_rfl) (by kernel_rfl) ?_ ?_
      case refine_1 => exact (by repeat' (first | with_reducible (first | refine bset ?_ ?_ | exact Below.refl _ _ | assumption | refine bdrewN ?_ _ | refine bdrew ?_ | refine balloc0 ?_ | refine balloc ?_ ?_ | (apply btrans0; rotate_left; assumption) | (apply btrans; rotate_left; assumption)) | exact Below.refl _ _ | assumption | (apply btrans0; rotate_left; assumption) | (apply btrans; rotate_left; assumption) | (simp; done) | omega | (simp; omega)))
      (iterate 27 (first | (refine plan_held rfl (by decide) (by rfl) (fun w1 hS => by (try (obtain ⟨_, _⟩ := bcell (hS rfl))); go_simp; rfl) ?_; simp only [Act.put, List.setIfInBounds_toArray, List.set_cons_zero, List.set_cons_succ]) | (refine plan_skip rfl (by decide) (by rfl) ?_; simp only [Act.put, List.setIfInBounds_toArray, List.set_cons_zero, List.set_cons_succ])))
      refine plan_done ?_
      go_wp2
      go_ret2
      unfold ParsePost
      exact ⟨_, [N1], false, rfl, (by repeat' (first | with_reducible (first | refine bset ?_ ?_ | exact Below.refl _ _ | assumption | refine bdrewN ?_ _ | refine bdrew ?_ | refine balloc0 ?_ | refine balloc ?_ ?_ | (apply btrans0; rotate_left; assumption) | (apply btrans; rotate_left; assumption)) | exact Below.refl _ _ | assumption | (apply btrans0; rotate_left; assumption) | (apply btrans; rotate_left; assumption) | (simp; done) | omega | (simp; omega))), HRI.out.below (C := w6.heap.size) (by repeat' (first | with_reducible (first | refine bset ?_ ?_ | exact Below.refl _ _ | assumption | refine bdrewN ?_ _ | refine bdrew ?_ | refine balloc0 ?_ | refine balloc ?_ ?_ | (apply btrans0; rotate_left; assumption) | (apply btrans; rotate_left; assumption)) | exact Below.refl _ _ | assumption | (apply btrans0; rotate_left; assumption) | (apply btrans; rotate_left; assumption) | (simp; done) | omega | (simp; omega))) (Nat.le_refl _) (by (have : Below w6.heap.size w6 _ := (by repeat' (first | with_reducible (first | refine bset ?_ ?_ | exact Below.refl _ _ | assumption | refine bdrewN ?_ _ | refine bdrew ?_ | refine balloc0 ?_ | refine balloc ?_ ?_ | (apply btrans0; rotate_left; assumption) | (apply btrans; rotate_left; assumption)) | exact Below.refl _ _ | assumption | (apply btrans0; rotate_left; assumption) | (apply btrans; rotate_left; assumption) | (simp; done) | omega | (simp; omega)))); exact this.size), HW.out.trans (if_neg (fun h => by have := HQ0.out; have := h.2.2; omega))⟩
    have de0 : decide (0 ≤ N1) = true := decide_eq_true q0
    by_cases q1 : N1 ≤ 1099511627776
    case neg =>
      have r1 : 1099511627776 < N1 := by omega
      have HQ1 := Lib.hid q1
      have de1 : decide (N1 ≤ 1099511627776) = false := decide_eq_false q1
      clear q1
      go_enter Try.func77, Try.ntmps77
      go_wp2_with fail
      refine (pnumber_any s false n1 k1 e1 w.heap.size _ (by exact heap_new) (by omega) HR1.out).mono ?_
      rw [HN1.out]
      rintro e w1 ⟨rfl, R1, K1, hb1⟩
      have z1 : w.heap.size < w1.heap.size := by have := K1.1; simp at this; omega
      have hB1 : Below w.heap.size w w1 := (by repeat' (first | with_reducible (first | refine bset ?_ ?_ | exact Below.refl _ _ | assumption | refine bdrewN ?_ _ | refine bdrew ?_ | refine balloc0 ?_ | refine balloc ?_ ?_ | (apply btrans0; rotate_left; assumption) | (apply btrans; rotate_left; assumption)) | exact Below.refl _ _ | assumption | (apply btrans0; rotate_left; assumption) | (apply btrans; rotate_left; assumption) | (simp; done) | omega | (simp; omega)))
      have HX1 := Lib.hid R1
      clear R1 K1 hb1
      go_wp2
      have c6 : ∀ o, (w1.alloc (.cells #[.int .i64 N1] 3)).cell? ⟨w.heap.size, o, none⟩ = (RdxC [] false)[o]? := fun o => cellB ((Below.heap_alloc w1 (.cells #[.int .i64 N1] 3) _ z1).trans HX1.out) o
      have d6 : ∀ o, (w1.alloc (.cells #[.int .i64 N1] 3)).cell? ⟨w1.heap.size, o, none⟩ = #[.int .i64 N1][o]? := fun o => cellB heap_new o
      have zb6 : w1.heap.size < (w1.alloc (.cells #[.int .i64 N1] 3)).heap.size := by simp
      have za6 : w.heap.size < (w1.alloc (.cells #[.int .i64 N1] 3)).heap.size := by simp; omega
      have hB6 : Below w.heap.size w (w1.alloc (.cells #[.int .i64 N1] 3)) := (by repeat' (first | with_reducible (first | refine bset ?_ ?_ | exact Below.refl _ _ | assumption | refine bdrewN ?_ _ | refine bdrew ?_ | refine balloc0 ?_ | refine balloc ?_ ?_ | (apply btrans0; rotate_left; assumption) | (apply btrans; rotate_left; assumption)) | exact Below.refl _ _ | assumption | (apply btrans0; rotate_left; assumption) | (apply btrans; rotate_left; assumption) | (simp; done) | omega | (simp; omega)))
      have HRI : Hid (RInts (w1.alloc (.cells #[.int .i64 N1] 3)) (w1.alloc (.cells #[.int .i64 N1] 3)).heap.size (.slice (some ⟨w1.heap.size, 0, none⟩) 1 1) [N1]) := Lib.hid ⟨some ⟨w1.heap.size, 0, none⟩, 1, rfl, Nat.le_refl _, by simp [maxLen], (fun h => by cases h), fun _ => ⟨w1.heap.size, 0, rfl, zb6, fun i x hx => by rw [d6]; rcases i with _ | i <;> simp at hx <;> (try subst hx) <;> rfl⟩⟩
      simp only [RdxC] at c6
      generalize w1.alloc (.cells #[.int .i64 N1] 3) = w6 at *
      refine wp_region_plan (fun V => Below (w6).heap.size (w6) V) [0, 0, 0, 0, 1, 0, 0, 0, 0, 0, 1, 0, 0, 0, 0, 0, 1, 0, 0, 0, 0, 0, 1, 0, 0, 0, 0] [0, 1, 2, 3, 4, 5, 6, 7, 8, 9, 10, 11, 12, 13, 14, 15, 16, 17, 18, 19, 20, 21, 22, 23, 24, 25, 26] (by kernel_rfl) (by kernel_rfl) ?_ ?_
      case refine_1 => exact (by repeat' (first | with_reducible (first | refine bset ?_ ?_ | exact Below.refl _ _ | assumption | refine bdrewN ?_ _ | refine bdrew ?_ | refine balloc0 ?_ | refine balloc ?_ ?_ | (apply btrans0; rotate_left; assumption) | (apply btrans; rotate_left; assumption)) | exact Below.refl _ _ | assumption | (apply btrans0; rotate_left; assumption) | (apply btrans; rotate_left; assumption) | (simp; done) | omega | (simp; omega)))
      (iterate 27 (first | (refine plan_held rfl (by decide) (by rfl) (fun w1 hS => by (try (obtain ⟨_, _⟩ := bcell (hS rfl))); go_simp; rfl) ?_; simp only [Act.put, List.setIfInBounds_toArray, List.set_cons_zero, List.set_cons_succ]) | (refine plan_skip rfl (by decide) (by rfl) ?_; simp only [Act.put, List.setIfInBounds_toArray, List.set_cons_zero, List.set_cons_succ])))
      refine plan_done ?_
      go_wp2
      go_ret2
      unfold ParsePost
      exact ⟨_, [N1], false, rfl, (by repeat' (first | with_reducible (first | refine bset ?_ ?_ | exact Below.refl _ _ | assumption | refine bdrewN ?_ _ | refine bdrew ?_ | refine balloc0 ?_ | refine balloc ?_ ?_ | (apply btrans0; rotate_left; assumption) | (apply btrans; rotate_left; assumption)) | exact Below.refl _ _ | assumption | (apply btrans0; rotate_left; assumption) | (apply btrans; rotate_left; assumption) | (simp; done) | omega | (simp; omega))), HRI.out.below (C := w6.heap.size) (by repeat' (first | with_reducible (first | refine bset ?_ ?_ | exact Below.refl _ _ | assumption | refine bdrewN ?_ _ | refine bdrew ?_ | refine balloc0 ?_ | refine balloc ?_ ?_ | (apply btrans0; rotate_left; assumption) | (apply btrans; rotate_left; assumption)) | exact Below.refl _ _ | assumption | (apply btrans0; rotate_left; assumption) | (apply btrans; rotate_left; assumption) | (simp; done) | omega | (simp; omega))) (Nat.le_refl _) (by (have : Below w6.heap.size w6 _ := (by repeat' (first | with_reducible (first | refine bset ?_ ?_ | exact Below.refl _ _ | assumption | refine bdrewN ?_ _ | refine bdrew ?_ | refine balloc0 ?_ | refine balloc ?_ ?_ | (apply btrans0; rotate_left; assumption) | (apply btrans; rotate_left; assumption)) | exact Below.refl _ _ | assumption | (apply btrans0; rotate_left; assumption) | (apply btrans; rotate_left; assumption) | (simp; done) | omega | (simp; omega)))); exact this.size), HW.out.trans (if_neg (fun h => by have := HQ1.out; have := h.2.2; omega))⟩
    have de1 : decide (N1 ≤ 1099511627776) = true := decide_eq_true q1
    have HQ : Hid (0 ≤ N1 ∧ N1 ≤ 1099511627776) := Lib.hid ⟨q0, q1⟩
    go_enter Try.func77, Try.ntmps77
    go_wp2_with fail
    refine (pnumber_any s false n1 k1 e1 w.heap.size _ (by exact heap_new) (by omega) HR1.out).mono ?_
    rw [HN1.out]
    rintro e w1 ⟨rfl, R1, K1, hb1⟩
    have z1 : w.heap.size < w1.heap.size := by have := K1.1; simp at this; omega
    have hB1 : Below w.heap.size w w1 := (by repeat' (first | with_reducible (first | refine bset ?_ ?_ | exact Below.refl _ _ | assumption | refine bdrewN ?_ _ | refine bdrew ?_ | refine balloc0 ?_ | refine balloc ?_ ?_ | (apply btrans0; rotate_left; assumption) | (apply btrans; rotate_left; assumption)) | exact Below.refl _ _ | assumption | (apply btrans0; rotate_left; assumption) | (apply btrans; rotate_left; assumption) | (simp; done) | omega | (simp; omega)))
    have HX1 := Lib.hid R1
    clear R1 K1 hb1
    go_wp2
    have c6 : ∀ o, (w1.alloc (.cells #[.int .i64 N1] 3)).cell? ⟨w.heap.size, o, none⟩ = (RdxC [] false)[o]? := fun o => cellB ((Below.heap_alloc w1 (.cells #[.int .i64 N1] 3) _ z1).trans HX1.out) o
    have d6 : ∀ o, (w1.alloc (.cells #[.int .i64 N1] 3)).cell? ⟨w1.heap.size, o, none⟩ = #[.int .i64 N1][o]? := fun o => cellB heap_new o
    have zb6 : w1.heap.size < (w1.alloc (.cells #[.int .i64 N1] 3)).heap.size := by simp
    have za6 : w.heap.size < (w1.alloc (.cells #[.int .i64 N1] 3)).heap.size := by simp; omega
    have hB6 : Below w.heap.size w (w1.alloc (.cells #[.int .i64 N1] 3)) := (by repeat' (first | with_reducible (first | refine bset ?_ ?_ | exact Below.refl _ _ | assumption | refine bdrewN ?_ _ | refine bdrew ?_ | refine balloc0 ?_ | refine balloc ?_ ?_ | (apply btrans0; rotate_left; assumption) | (apply btrans; rotate_left; assumption)) | exact Below.refl _ _ | assumption | (apply btrans0; rotate_left; assumption) | (apply btrans; rotate_left; assumption) | (simp; done) | omega | (simp; omega)))
    have HRI : Hid (RInts (w1.alloc (.cells #[.int .i64 N1] 3)) (w1.alloc (.cells #[.int .i64 N1] 3)).heap.size (.slice (some ⟨w1.heap.size, 0, none⟩) 1 1) [N1]) := Lib.hid ⟨some ⟨w1.heap.size, 0, none⟩, 1, rfl, Nat.le_refl _, by simp [maxLen], (fun h => by cases h), fun _ => ⟨w1.heap.size, 0, rfl, zb6, fun i x hx => by rw [d6]; rcases i with _ | i <;> simp at hx <;> (try subst hx) <;> rfl⟩⟩
    simp only [RdxC] at c6
    generalize w1.alloc (.cells #[.int .i64 N1] 3) = w6 at *
    refine wp_region_plan (fun V => Below (w6).heap.size (w6) V) [0, 0, 0, 0, 1, 0, 0, 0, 0, 0, 1, 0, 0, 0, 0, 0, 1, 0, 0, 0, 0, 0, 1, 0, 0, 0, 0] [0, 1, 2, 3, 4, 5, 6, 7, 8, 9, 10, 11, 12, 13, 14, 15, 16, 17, 18, 19, 20, 21, 22, 23, 24, 25, 26] (by kernel_rfl) (by kernel_rfl) ?_ ?_
    case refine_1 => exact (by repeat' (first | with_reducible (first | refine bset ?_ ?_ | exact Below.refl _ _ | assumption | refine bdrewN ?_ _ | refine bdrew ?_ | refine balloc0 ?_ | refine balloc ?_ ?_ | (apply btrans0; rotate_left; assumption) | (apply btrans; rotate_left; assumption)) | exact Below.refl _ _ | assumption | (apply btrans0; rotate_left; assumption) | (apply btrans; rotate_left; assumption) | (simp; done) | omega | (simp; omega)))
    (iterate 27 (first | (refine plan_held rfl (by decide) (by rfl) (fun w1 hS => by (try (obtain ⟨_, _⟩ := bcell (hS rfl))); go_simp; rfl) ?_; simp only [Act.put, List.setIfInBounds_toArray, List.set_cons_zero, List.set_cons_succ]) | (refine plan_skip rfl (by decide) (by rfl) ?_; simp only [Act.put, List.setIfInBounds_toArray, List.set_cons_zero, List.set_cons_succ])))
    refine plan_done ?_
    go_wp2
    go_ret2
    unfold ParsePost
    exact ⟨_, [N1], true, rfl, (by repeat' (first | with_reducible (first | refine bset ?_ ?_ | exact Below.refl _ _ | assumption | refine bdrewN ?_ _ | refine bdrew ?_ | refine balloc0 ?_ | refine balloc ?_ ?_ | (apply btrans0; rotate_left; assumption) | (apply btrans; rotate_left; assumption)) | exact Below.refl _ _ | assumption | (apply btrans0; rotate_left; assumption) | (apply btrans; rotate_left; assumption) | (simp; done) | omega | (simp; omega))), HRI.out.below (C := w6.heap.size) (by repeat' (first | with_reducible (first | refine bset ?_ ?_ | exact Below.refl _ _ | assumption | refine bdrewN ?_ _ | refine bdrew ?_ | refine balloc0 ?_ | refine balloc ?_ ?_ | (apply btrans0; rotate_left; assumption) | (apply btrans; rotate_left; assumption)) | exact Below.refl _ _ | assumption | (apply btrans0; rotate_left; assumption) | (apply btrans; rotate_left; assumption) | (simp; done) | omega | (simp; omega))) (Nat.le_refl _) (by (have : Below w6.heap.size w6 _ := (by repeat' (first | with_reducible (first | refine bset ?_ ?_ | exact Below.refl _ _ | assumption | refine bdrewN ?_ _ | refine bdrew ?_ | refine balloc0 ?_ | refine balloc ?_ ?_ | (apply btrans0; rotate_left; assumption) | (apply btrans; rotate_left; assumption)) | exact Below.refl _ _ | assumption | (apply btrans0; rotate_left; assumption) | (apply btrans; rotate_left; assumption) | (simp; done) | omega | (simp; omega)))); exact this.size), HW.out.trans (if_pos (by have := HQ.out; first | exact ⟨rfl, rfl, this⟩ | (simp; omega)))⟩
end Go.Proofs.Ythgokfceakbjlaa
