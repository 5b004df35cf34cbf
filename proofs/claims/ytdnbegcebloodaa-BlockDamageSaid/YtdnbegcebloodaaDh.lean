/- Layer 2 (crc), the program: Open. -/
import Derived.Test.YtdnbegcebloodaaDg
set_option linter.unusedVariables false
set_option linter.unusedSimpArgs false
namespace Go.Proofs.Ytdnbegcebloodaa
open Go Go.RowKit
attribute [local go_sem] B_getElem B_size B_app B_extract B_get B_toList

/-- what Open answers, by the checksum T -/
def openS (T : List UInt8 → List UInt8) (s : List UInt8) : List UInt8 × Int × Int :=
  if (readS s).2.2 ≠ 0 then ([], 0, (readS s).2.2)
  else if (readS s).1 < 0 ∨ 65536 < (readS s).1 then ([], 0, 2)
  else if (s.length : Int) < (readS s).2.1 + (readS s).1 + 4 then ([], 0, 12)
  else if T (s.take ((readS s).2.1 + (readS s).1).toNat) ≠ (s.drop ((readS s).2.1 + (readS s).1).toNat).take 4 then ([], 0, 13)
  else ((s.drop (readS s).2.1.toNat).take (readS s).1.toNat, (readS s).2.1 + (readS s).1 + 4, 0)

theorem trip {α β γ : Type} {a a' : α} {b b' : β} {c c' : γ} (h : (a, b, c) = (a', b', c')) : a = a' ∧ b = b' ∧ c = c' := by
  injection h with h1 h2
  injection h2 with h2 h3
  exact ⟨h1, h2, h3⟩

set_option maxRecDepth 100000 in
set_option maxHeartbeats 2000000 in
theorem open_any (s t : List UInt8) (k e : Int) (w : World) (hs : s.length ≤ 1000000000) (hr : openS tailB s = (t, k, e)) :
    Calls Try.prog 62 #[.string (B s)] w fun e' w' => e' = .returned (.tuple #[.string (B t), .int .i64 k, .int .i64 e]) ∧ Below w.heap.size w w' := by
  obtain ⟨⟨n1, k1, e1⟩, h1⟩ : ∃ x, readS s = x := ⟨_, rfl⟩
  have H1 := Lib.hid h1
  have hok := readS_ok h1
  have HL := hr
  unfold openS at HL
  rw [h1] at HL
  simp only at HL
  clear h1 hr
  by_cases he : e1 = 0
  case neg =>
    rw [if_pos he] at HL
    obtain ⟨rfl, rfl, rfl⟩ := trip HL
    have he' : (e1 == 0) = false := beq_eq_false_iff_ne.2 he
    clear he hok HL
    go_enter Try.func62, Try.ntmps62
    go_wp2_with fail
    refine (readint_any s n1 k1 e1 _ hs H1.out).mono ?_
    rintro e' w1 ⟨rfl, hb1⟩
    go_wp2
    go_ret3
    exact ⟨rfl, (by repeat' (first | (with_reducible refine bset ?_ ?_) | (with_reducible exact Below.refl _ _) | (with_reducible assumption) | (with_reducible refine bdrewN ?_ _) | (with_reducible refine bdrew ?_) | (with_reducible refine balloc0 ?_) | (with_reducible refine balloc ?_ ?_) | (with_reducible apply btrans0; rotate_left; with_reducible assumption) | (with_reducible apply btrans; rotate_left; with_reducible assumption) | exact Below.refl _ _ | assumption | (apply btrans0; rotate_left; assumption) | (apply btrans; rotate_left; assumption) | (simp; done) | omega | (simp; omega)))⟩
  subst he
  rw [if_neg (by simp)] at HL
  obtain ⟨g1, g2, g3, g4, g5⟩ := hok.1 rfl
  clear hok
  by_cases hb : n1 < 0 ∨ 65536 < n1
  · rw [if_pos hb] at HL
    obtain ⟨rfl, rfl, rfl⟩ := trip HL
    clear HL
    rcases hb with hb | hb
    all_goals
      go_enter Try.func62, Try.ntmps62
      go_wp2_with fail
      refine (readint_any s n1 k1 0 _ hs H1.out).mono ?_
      rintro e' w1 ⟨rfl, hb1⟩
      go_wp2
      go_ret3
      exact ⟨rfl, (by repeat' (first | (with_reducible refine bset ?_ ?_) | (with_reducible exact Below.refl _ _) | (with_reducible assumption) | (with_reducible refine bdrewN ?_ _) | (with_reducible refine bdrew ?_) | (with_reducible refine balloc0 ?_) | (with_reducible refine balloc ?_ ?_) | (with_reducible apply btrans0; rotate_left; with_reducible assumption) | (with_reducible apply btrans; rotate_left; with_reducible assumption) | exact Below.refl _ _ | assumption | (apply btrans0; rotate_left; assumption) | (apply btrans; rotate_left; assumption) | (simp; done) | omega | (simp; omega)))⟩
  rw [if_neg hb] at HL
  have hb1' : ¬ n1 < 0 := by omega
  have hb2' : ¬ 65536 < n1 := by omega
  clear hb
  obtain ⟨n, rfl⟩ : ∃ n : Nat, n1 = n := ⟨n1.toNat, by omega⟩
  obtain ⟨c, rfl⟩ : ∃ c : Nat, k1 = c := ⟨k1.toNat, by omega⟩
  obtain ⟨p, hp⟩ : ∃ p, c + n = p := ⟨_, rfl⟩
  have hp1 : (c : Int) + (n : Int) = (p : Int) := by omega
  rw [hp1] at HL
  simp only [Int.toNat_natCast] at HL
  by_cases hl : (s.length : Int) < (p : Int) + 4
  · rw [if_pos hl] at HL
    obtain ⟨rfl, rfl, rfl⟩ := trip HL
    clear HL
    go_enter Try.func62, Try.ntmps62
    go_wp2_with fail
    refine (readint_any s n c 0 _ hs H1.out).mono ?_
    rintro e' w1 ⟨rfl, hb1⟩
    go_wp2
    go_ret3
    exact ⟨rfl, (by repeat' (first | (with_reducible refine bset ?_ ?_) | (with_reducible exact Below.refl _ _) | (with_reducible assumption) | (with_reducible refine bdrewN ?_ _) | (with_reducible refine bdrew ?_) | (with_reducible refine balloc0 ?_) | (with_reducible refine balloc ?_ ?_) | (with_reducible apply btrans0; rotate_left; with_reducible assumption) | (with_reducible apply btrans; rotate_left; with_reducible assumption) | exact Below.refl _ _ | assumption | (apply btrans0; rotate_left; assumption) | (apply btrans; rotate_left; assumption) | (simp; done) | omega | (simp; omega)))⟩
  rw [if_neg hl] at HL
  obtain ⟨x, hx⟩ : ∃ x, s.take p = x := ⟨_, rfl⟩
  have hxl : x.length ≤ 1000000000 := by rw [← hx, List.length_take]; omega
  obtain ⟨y, hy⟩ : ∃ y, tailB x = y := ⟨_, rfl⟩
  obtain ⟨z, hz⟩ : ∃ z, (s.drop p).take 4 = z := ⟨_, rfl⟩
  rw [hx, hy, hz] at HL
  have HY := Lib.hid hy
  have hz' : (s.drop p).take (p + 4 - p) = z := by rw [show p + 4 - p = 4 by omega]; exact hz
  have q0 : (0 : Int) ≤ (p : Int) := by omega
  have q1 : (p : Int) ≤ (s.length : Int) := by omega
  have q2 : (p : Int) + 4 = ((p + 4 : Nat) : Int) := by omega
  obtain ⟨p4, hp4⟩ : ∃ p4, p + 4 = p4 := ⟨_, rfl⟩
  rw [hp4] at q2 hz'
  have q3 : (p4 : Int) ≤ (s.length : Int) := by omega
  have q4 : (p : Int) ≤ (p4 : Int) := by omega
  have q5 : (0 : Int) ≤ (p4 : Int) := by omega
  have q6 : IntKind.i64.wrap (p : Int) = (p : Int) := by rw [IntKind.wrap_i64]; omega
  have q7 : IntKind.i64.wrap (p4 : Int) = (p4 : Int) := by rw [IntKind.wrap_i64]; omega
  have q8 : ¬ (s.length : Int) < (p4 : Int) := by omega
  have q9 : s.take (p - 0) = x := by rw [Nat.sub_zero]; exact hx
  obtain ⟨d, hd⟩ : ∃ d, (s.drop c).take (p - c) = d := ⟨_, rfl⟩
  have hdt : (s.drop c).take n = d := by rw [← hd]; congr 1; omega
  have q10 : (c : Int) ≤ (p : Int) := by omega
  have q11 : (0 : Int) ≤ (c : Int) := by omega
  rw [hdt, q2] at HL
  by_cases hyz : y = z
  · rw [if_neg (by simp [hyz])] at HL
    obtain ⟨rfl, rfl, rfl⟩ := trip HL
    subst hyz
    clear hy hz hdt HL hp hp4 hl
    go_enter Try.func62, Try.ntmps62
    go_wp2_with fail
    refine (readint_any s n c 0 _ hs H1.out).mono ?_
    rintro e' w1 ⟨rfl, hb1⟩
    go_wp2
    refine wp_region_plan (fun V => True) [0, 0, 0, 0, 0, 3, 0, 0, 0, 0, 0, 0, 0, 0, 0, 0, 0] [0, 1, 2, 3, 4, 6, 7, 8, 9, 10, 11, 12, 13, 14, 5, 15, 16] (by kernel_rfl) (by kernel_rfl) ?_ ?_
    case refine_1 => exact trivial
    (iterate 14 (refine plan_held rfl (by decide) (by rfl) (fun w1 hS => by (try (have hS := hS rfl; obtain hS := hS; repeat (obtain ⟨_, hS⟩ := hS))); go_simp; rfl) ?_; simp only [Act.put, List.setIfInBounds_toArray, List.set_cons_zero, List.set_cons_succ]))
    (refine plan_late rfl rfl (by rfl) (fun K hK => ?_); go_simp)
    refine (tail_any x _ hxl).mono ?_
    rw [HY.out]
    rintro e' w2 ⟨rfl, hb2⟩
    (refine hK _ _ ?_; clear hK K; (try simp only [Act.put, List.setIfInBounds_toArray, List.set_cons_zero, List.set_cons_succ]))
    (iterate 2 (refine plan_held rfl (by decide) (by rfl) (fun w1 hS => by (try (have hS := hS rfl; obtain hS := hS; repeat (obtain ⟨_, hS⟩ := hS))); go_simp; rfl) ?_; simp only [Act.put, List.setIfInBounds_toArray, List.set_cons_zero, List.set_cons_succ]))
    refine plan_done ?_
    go_wp2
    go_ret3
    exact ⟨rfl, (by repeat' (first | (with_reducible refine bset ?_ ?_) | (with_reducible exact Below.refl _ _) | (with_reducible assumption) | (with_reducible refine bdrewN ?_ _) | (with_reducible refine bdrew ?_) | (with_reducible refine balloc0 ?_) | (with_reducible refine balloc ?_ ?_) | (with_reducible apply btrans0; rotate_left; with_reducible assumption) | (with_reducible apply btrans; rotate_left; with_reducible assumption) | exact Below.refl _ _ | assumption | (apply btrans0; rotate_left; assumption) | (apply btrans; rotate_left; assumption) | (simp; done) | omega | (simp; omega)))⟩
  · rw [if_pos hyz] at HL
    obtain ⟨rfl, rfl, rfl⟩ := trip HL
    have hne : ¬ B y = B z := fun e => hyz (B_inj e)
    have hne3 : (y == z) = false := beq_eq_false_iff_ne.2 hyz
    clear hy hz hdt HL hp hp4 hl hyz
    go_enter Try.func62, Try.ntmps62
    go_wp2_with fail
    refine (readint_any s n c 0 _ hs H1.out).mono ?_
    rintro e' w1 ⟨rfl, hb1⟩
    go_wp2
    refine wp_region_plan (fun V => True) [0, 0, 0, 0, 0, 3, 0, 0, 0, 0, 0, 0, 0, 0, 0, 0, 0] [0, 1, 2, 3, 4, 6, 7, 8, 9, 10, 11, 12, 13, 14, 5, 15, 16] (by kernel_rfl) (by kernel_rfl) ?_ ?_
    case refine_1 => exact trivial
    (iterate 14 (refine plan_held rfl (by decide) (by rfl) (fun w1 hS => by (try (have hS := hS rfl; obtain hS := hS; repeat (obtain ⟨_, hS⟩ := hS))); go_simp; rfl) ?_; simp only [Act.put, List.setIfInBounds_toArray, List.set_cons_zero, List.set_cons_succ]))
    (refine plan_late rfl rfl (by rfl) (fun K hK => ?_); go_simp)
    refine (tail_any x _ hxl).mono ?_
    rw [HY.out]
    rintro e' w2 ⟨rfl, hb2⟩
    (refine hK _ _ ?_; clear hK K; (try simp only [Act.put, List.setIfInBounds_toArray, List.set_cons_zero, List.set_cons_succ]))
    (iterate 2 (refine plan_held rfl (by decide) (by rfl) (fun w1 hS => by (try (have hS := hS rfl; obtain hS := hS; repeat (obtain ⟨_, hS⟩ := hS))); go_simp; rfl) ?_; simp only [Act.put, List.setIfInBounds_toArray, List.set_cons_zero, List.set_cons_succ]))
    refine plan_done ?_
    go_wp2
    go_ret3
    exact ⟨rfl, (by repeat' (first | (with_reducible refine bset ?_ ?_) | (with_reducible exact Below.refl _ _) | (with_reducible assumption) | (with_reducible refine bdrewN ?_ _) | (with_reducible refine bdrew ?_) | (with_reducible refine balloc0 ?_) | (with_reducible refine balloc ?_ ?_) | (with_reducible apply btrans0; rotate_left; with_reducible assumption) | (with_reducible apply btrans; rotate_left; with_reducible assumption) | exact Below.refl _ _ | assumption | (apply btrans0; rotate_left; assumption) | (apply btrans; rotate_left; assumption) | (simp; done) | omega | (simp; omega)))⟩
end Go.Proofs.Ytdnbegcebloodaa
