/- Layer 1 (varint), the program: length, ReadInt, ReadText. -/
import Derived.Test.YtdnbegcebloodaaDf
set_option linter.unusedVariables false
set_option linter.unusedSimpArgs false
namespace Go.Proofs.Ytdnbegcebloodaa
open Go Go.RowKit
attribute [local go_sem] B_getElem B_size B_app B_extract B_get B_toList

theorem readS_err {l : List UInt8} {n k e : Int} (h : readS l = (n, k, e)) (he : e ≠ 0) : n = 0 ∧ k = 0 := (readS_ok h).2.2 he

set_option maxRecDepth 100000 in
set_option maxHeartbeats 1000000 in
theorem readint_any (s : List UInt8) (n k e : Int) (w : World) (hs : s.length ≤ 1000000000) (hr : readS s = (n, k, e)) :
    Calls Try.prog 68 #[.string (B s)] w fun e' w' => e' = .returned (.tuple #[.int .i64 n, .int .i64 k, .int .i64 e]) ∧ Below w.heap.size w w' := by
  have HR := Lib.hid hr
  clear hr
  go_enter Try.func68, Try.ntmps68
  go_wp2_with fail
  refine (integer_any s 0 n k e w.heap.size _ (by exact heap_new) (by omega) hs (by simpa using HR.out)).mono ?_
  rintro e' w1 ⟨rfl, hb1, hs1, hz1⟩
  have z1 : w.heap.size < w1.heap.size := by simp at hs1; omega
  have hB1 : Below w.heap.size w w1 := ((Below.refl _ _).alloc (Nat.le_refl _) _).trans hb1
  simp only [Int.ofNat_zero, Int.natCast_zero, Int.zero_add, Int.cast_ofNat_Int] at hz1
  have ca := fun o => cellB hz1 o
  simp only [RdrC] at ca
  clear hb1 hs1 hz1
  by_cases he : e = 0
  · have he' : (e == 0) = true := beq_iff_eq.2 he
    subst he
    go_wp2
    refine wp_region_plan (fun V => ∀ o, V.cell? ⟨w.heap.size, o, none⟩ = #[Value.string (B s), .int .i64 k, .int .i64 0][o]?) [0, 0, 0, 0, 0, 1, 0, 0, 0] [0, 1, 2, 3, 4, 5, 6, 7, 8] (by kernel_rfl) (by kernel_rfl) ?_ ?_
    case refine_1 => exact ca
    (iterate 9 (refine plan_held rfl (by decide) (by rfl) (fun w1 hS => by (try (have hS := hS rfl; obtain hS := hS; repeat (obtain ⟨_, hS⟩ := hS))); go_simp; rfl) ?_; simp only [Act.put, List.setIfInBounds_toArray, List.set_cons_zero, List.set_cons_succ]))
    refine plan_done ?_
    go_wp2
    go_ret3
    exact ⟨rfl, bdrew hB1⟩
  · have he' : (e == 0) = false := beq_eq_false_iff_ne.2 he
    obtain ⟨rfl, rfl⟩ := readS_err HR.out he
    clear he
    go_wp2
    refine wp_region_plan (fun V => ∀ o, V.cell? ⟨w.heap.size, o, none⟩ = #[Value.string (B s), .int .i64 0, .int .i64 e][o]?) [0, 0, 0, 1, 0, 0, 0] [0, 1, 2, 3, 4, 5, 6] (by kernel_rfl) (by kernel_rfl) ?_ ?_
    case refine_1 => exact ca
    (iterate 7 (refine plan_held rfl (by decide) (by rfl) (fun w1 hS => by (try (have hS := hS rfl; obtain hS := hS; repeat (obtain ⟨_, hS⟩ := hS))); go_simp; rfl) ?_; simp only [Act.put, List.setIfInBounds_toArray, List.set_cons_zero, List.set_cons_succ]))
    refine plan_done ?_
    go_wp2
    go_ret3
    exact ⟨rfl, bdrew hB1⟩

set_option maxRecDepth 100000 in
set_option maxHeartbeats 1000000 in
theorem length_any (s : List UInt8) (a : Nat) (n k e : Int) (rb : Nat) (w : World) (h : w.heap[rb]? = some (.cells (RdrC s a 0) 90 (0, 0))) (ha : a ≤ s.length) (hs : s.length ≤ 1000000000) (hr : lenS (s.drop a) = (n, k, e)) :
    Calls Try.prog 83 #[.pointer (some ⟨rb, 0, none⟩)] w fun e' w' => e' = .returned (.int .i64 n) ∧ Below rb w w' ∧ w'.heap.size = w.heap.size ∧ ∃ a', w'.heap[rb]? = some (.cells (RdrC s a' e) 90 (0, 0)) ∧ 0 ≤ a' ∧ a' ≤ s.length ∧ (e = 0 → a' = a + k) := by
  obtain ⟨⟨n1, k1, e1⟩, h1⟩ : ∃ x, readS (s.drop a) = x := ⟨_, rfl⟩
  have H1 := Lib.hid h1
  have HL := hr
  unfold lenS at HL
  rw [h1] at HL
  simp only at HL
  have hk1 : 0 ≤ k1 ∧ (a : Int) + k1 ≤ s.length := by
    by_cases he : e1 = 0
    · have := (readS_ok h1).1 he
      rw [List.length_drop] at this
      omega
    · obtain ⟨_, h⟩ := readS_err h1 he
      omega
  obtain ⟨hk1a, hk1b⟩ := hk1
  have H := Lib.hid h
  clear h h1 hr
  go_enter Try.func83, Try.ntmps83
  go_wp2_with fail
  refine (integer_any s a n1 k1 e1 rb _ H.out ha hs H1.out).mono ?_
  rintro e' w1 ⟨rfl, hb1, hs1, hz1⟩
  by_cases he : e1 = 0
  · rw [if_neg (by simp [he])] at HL
    by_cases hb : n1 < 0 ∨ 65536 < n1
    · rw [if_pos hb] at HL
      injection HL with q1 q2
      injection q2 with q2 q3
      subst q1 q2 q3 he
      rcases hb with hb | hb
      all_goals
        go_wp2_with fail
        refine (fail_any s (a + k1) 11 rb _ hz1).mono ?_
        rintro e' w2 ⟨⟨v, rfl⟩, hb2, hs2, hz2⟩
        go_wp2
        go_ret
        exact ⟨rfl, hb1.trans hb2, by omega, _, hz2, by omega, by omega, fun h => by cases h⟩
    · rw [if_neg hb] at HL
      injection HL with q1 q2
      injection q2 with q2 q3
      subst q1 q2 q3 he
      have hb1' : ¬ n1 < 0 := by omega
      have hb2' : ¬ 65536 < n1 := by omega
      have HZ := Lib.hid hz1
      clear hz1 hb
      go_wp2
      go_ret
      exact ⟨rfl, hb1, hs1, _, HZ.out, by omega, by omega, by simp⟩
  · rw [if_pos he] at HL
    injection HL with q1 q2
    injection q2 with q2 q3
    obtain ⟨rfl, rfl⟩ := readS_err H1.out he
    subst q1 q2 q3
    have HZ := Lib.hid hz1
    have HE := Lib.hid he
    clear hz1 he
    go_wp2
    go_ret
    exact ⟨rfl, hb1, hs1, _, HZ.out, by omega, by omega, fun h => absurd h HE.out⟩

set_option maxRecDepth 100000 in
set_option maxHeartbeats 1000000 in
theorem readtext_any (s t : List UInt8) (k e : Int) (w : World) (hs : s.length ≤ 1000000000) (hr : textS s = (t, k, e)) :
    Calls Try.prog 77 #[.string (B s)] w fun e' w' => e' = .returned (.tuple #[.string (B t), .int .i64 k, .int .i64 e]) ∧ Below w.heap.size w w' := by
  obtain ⟨⟨n1, k1, e1⟩, h1⟩ : ∃ x, lenS s = x := ⟨_, rfl⟩
  have H1 := Lib.hid h1
  have HL := hr
  unfold textS at HL
  rw [h1] at HL
  simp only at HL
  have hok := lenS_ok h1
  clear h1 hr
  go_enter Try.func77, Try.ntmps77
  go_wp2_with fail
  refine (length_any s 0 n1 k1 e1 w.heap.size _ (by exact heap_new) (by omega) hs (by simpa using H1.out)).mono ?_
  rintro e' w1 ⟨rfl, hb1, hs1, a', hz1, ha0, ha1, hak⟩
  have z1 : w.heap.size < w1.heap.size := by simp at hs1; omega
  have hB1 : Below w.heap.size w w1 := ((Below.refl _ _).alloc (Nat.le_refl _) _).trans hb1
  clear hb1 hs1
  go_wp2_with fail
  refine (rest_any s a' e1 w.heap.size _ hz1 ha0 ha1 hs).mono ?_
  obtain ⟨d, hd⟩ : ∃ d : Int, (s.length : Int) - a' = d := ⟨_, rfl⟩
  rw [hd]
  rintro e' w2 ⟨rfl, hb2, hs2⟩
  have hz2 : w2.heap[w.heap.size]? = some (.cells (RdrC s a' e1) 90 (0, 0)) := by rw [hs2]; exact hz1
  have z2 : w.heap.size < w2.heap.size := by rw [hs2]; exact z1
  have hB2 : Below w.heap.size w w2 := (by repeat' (first | (with_reducible refine bset ?_ ?_) | (with_reducible exact Below.refl _ _) | (with_reducible assumption) | (with_reducible refine bdrewN ?_ _) | (with_reducible refine bdrew ?_) | (with_reducible refine balloc0 ?_) | (with_reducible refine balloc ?_ ?_) | (with_reducible apply btrans0; rotate_left; with_reducible assumption) | (with_reducible apply btrans; rotate_left; with_reducible assumption) | exact Below.refl _ _ | assumption | (apply btrans0; rotate_left; assumption) | (apply btrans; rotate_left; assumption) | (simp; done) | omega | (simp; omega)))
  clear hb2 hs2 hz1 hB1
  by_cases he : e1 = 0
  · subst he
    rw [if_neg (by simp)] at HL
    obtain ⟨g1, g2, g3, g4, g5⟩ := hok.1 rfl
    have hak' : a' = k1 := by have := hak rfl; simpa using this
    subst hak'
    rw [hd] at HL
    by_cases hlt : d < n1
    · rw [if_pos hlt] at HL
      injection HL with q1 q2
      injection q2 with q2 q3
      subst q1 q2 q3
      go_wp2_with fail
      refine (fail_any s a' 12 w.heap.size _ hz2).mono ?_
      rintro e' w3 ⟨⟨v, rfl⟩, hb3, hs3, hz3⟩
      have ca := fun o => cellB hz3 o
      simp only [RdrC] at ca
      have hB3 := hB2.trans hb3
      clear hb3 hz2 hz3 hs3 hak hok
      go_wp2
      refine wp_region_plan (fun V => ∀ o, V.cell? ⟨w.heap.size, o, none⟩ = #[Value.string (B s), .int .i64 a', .int .i64 12][o]?) [0, 0, 0, 1, 0, 0, 0] [0, 1, 2, 3, 4, 5, 6] (by kernel_rfl) (by kernel_rfl) ?_ ?_
      case refine_1 => exact ca
      (iterate 7 (refine plan_held rfl (by decide) (by rfl) (fun w1 hS => by (try (have hS := hS rfl; obtain hS := hS; repeat (obtain ⟨_, hS⟩ := hS))); go_simp; rfl) ?_; simp only [Act.put, List.setIfInBounds_toArray, List.set_cons_zero, List.set_cons_succ]))
      refine plan_done ?_
      go_wp2
      go_ret3
      exact ⟨rfl, bdrew hB3⟩
    · rw [if_neg hlt] at HL
      injection HL with q1 q2
      injection q2 with q2 q3
      obtain ⟨i, hi⟩ : ∃ i : Nat, a' = i := ⟨a'.toNat, by omega⟩
      obtain ⟨m, hm⟩ : ∃ m : Nat, n1 = m := ⟨n1.toNat, by omega⟩
      subst hi hm q2 q3
      have hij : (i : Int) + (m : Int) = ((i + m : Nat) : Int) := by omega
      obtain ⟨j, hj⟩ : ∃ j, i + m = j := ⟨_, rfl⟩
      rw [hj] at hij
      have hp : (s.drop i).take (j - i) = t := by rw [← q1]; simp only [Int.toNat_natCast]; congr 1; omega
      have i3 : (0 : Int) ≤ (i : Int) := by omega
      have i4 : (i : Int) ≤ (j : Int) := by omega
      have i5 : (j : Int) ≤ (s.length : Int) := by omega
      have i6 : (0 : Int) ≤ (j : Int) := by omega
      have hwi : IntKind.i64.wrap (i : Int) = (i : Int) := by rw [IntKind.wrap_i64]; omega
      have hwj : IntKind.i64.wrap (j : Int) = (j : Int) := by rw [IntKind.wrap_i64]; omega
      have HIJ := Lib.hid hij
      have ca := fun o => cellB hz2 o
      simp only [RdrC] at ca
      clear q1 hak hj hok hz2
      go_wp2
      refine wp_region_plan (fun V => ∀ o, V.cell? ⟨w.heap.size, o, none⟩ = #[Value.string (B s), .int .i64 i, .int .i64 0][o]?) [0, 0, 0, 0, 0, 1, 0, 0, 0, 0, 1, 0, 0, 0, 0, 0, 0, 0, 1, 0, 0, 0, 0, 0] [0, 1, 2, 3, 4, 5, 6, 7, 8, 9, 10, 11, 12, 13, 14, 15, 16, 17, 18, 19, 20, 21, 22, 23] (by kernel_rfl) (by kernel_rfl) ?_ ?_
      case refine_1 => exact ca
      (iterate 24 (refine plan_held rfl (by decide) (by rfl) (fun w1 hS => by (try (have hS := hS rfl; obtain hS := hS; repeat (obtain ⟨_, hS⟩ := hS))); go_simp; rfl) ?_; simp only [Act.put, List.setIfInBounds_toArray, List.set_cons_zero, List.set_cons_succ]))
      refine plan_done ?_
      go_wp2
      go_ret3
      exact ⟨by rw [HIJ.out]; rfl, bdrew hB2⟩
  · rw [if_pos he] at HL
    injection HL with q1 q2
    injection q2 with q2 q3
    have hn1 : n1 = 0 := by
      have h := H1.out
      unfold lenS at h
      split at h
      · injection h with h _; exact h.symm
      · split at h
        · injection h with h _; exact h.symm
        · rename_i hz _
          exact absurd (by rw [h] at hz; simpa using hz) he
    subst q1 q2 q3 hn1
    have hnl : ¬ d < 0 := by omega
    have he' : (e1 == 0) = false := beq_eq_false_iff_ne.2 he
    have ca := fun o => cellB hz2 o
    simp only [RdrC] at ca
    clear he hok hak hz2
    go_wp2
    refine wp_region_plan (fun V => ∀ o, V.cell? ⟨w.heap.size, o, none⟩ = #[Value.string (B s), .int .i64 a', .int .i64 e1][o]?) [0, 0, 0, 1, 0, 0, 0] [0, 1, 2, 3, 4, 5, 6] (by kernel_rfl) (by kernel_rfl) ?_ ?_
    case refine_1 => exact ca
    (iterate 7 (refine plan_held rfl (by decide) (by rfl) (fun w1 hS => by (try (have hS := hS rfl; obtain hS := hS; repeat (obtain ⟨_, hS⟩ := hS))); go_simp; rfl) ?_; simp only [Act.put, List.setIfInBounds_toArray, List.set_cons_zero, List.set_cons_succ]))
    refine plan_done ?_
    go_wp2
    go_ret3
    exact ⟨rfl, bdrew hB2⟩
end Go.Proofs.Ytdnbegcebloodaa
