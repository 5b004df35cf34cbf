/- Walks of layer 4 (rational): the closures of Add, Sub, Mul and Div. -/
import Derived.Test.YtfkdhcfedjbkfaaWd
import Derived.Test.YtfkdhcfedjbkfaaR
namespace Go.Proofs.Ytfkdhcfedjbkfaa
open Go.RowKit

theorem mul_bd (a d : Int) (a1 : -1099511627776 ≤ a) (a2 : a ≤ 1099511627776) (d1 : 1 ≤ d) (d2 : d ≤ 1048576) : -1152921504606846976 ≤ a * d ∧ a * d ≤ 1152921504606846976 := by
  constructor
  · have h1 : -1099511627776 * d ≤ a * d := Int.mul_le_mul_of_nonneg_right a1 (by omega)
    omega
  · have h1 : a * d ≤ 1099511627776 * d := Int.mul_le_mul_of_nonneg_right a2 (by omega)
    omega
theorem den_bd (b d : Int) (b1 : 1 ≤ b) (b2 : b ≤ 1048576) (d1 : 1 ≤ d) (d2 : d ≤ 1048576) : 1 ≤ b * d ∧ b * d ≤ 1099511627776 := by
  constructor
  · have h1 : 1 * d ≤ b * d := Int.mul_le_mul_of_nonneg_right b1 (by omega)
    omega
  · have h1 : b * d ≤ 1048576 * d := Int.mul_le_mul_of_nonneg_right b2 (by omega)
    omega

set_option maxHeartbeats 400000 in
theorem addc_any (x y : Nat) (a b c d p q r : Int) (w : World) (hx0 : w.cell? ⟨x, 0, none⟩ = some (.int .i64 a)) (hx1 : w.cell? ⟨x, 1, none⟩ = some (.int .i64 b))
    (hy0 : w.cell? ⟨y, 0, none⟩ = some (.int .i64 c)) (hy1 : w.cell? ⟨y, 1, none⟩ = some (.int .i64 d))
    (a1 : -1099511627776 ≤ a) (a2 : a ≤ 1099511627776) (b1 : 1 ≤ b) (b2 : b ≤ 1048576) (c1 : -1099511627776 ≤ c) (c2 : c ≤ 1099511627776) (d1 : 1 ≤ d) (d2 : d ≤ 1048576)
    (hr : newS (a * d + c * b) (b * d) = ((p, q), r)) :
    Calls Try.prog 37 #[.pointer (some ⟨x, 0, none⟩), .pointer (some ⟨y, 0, none⟩)] w fun e w' => e = .returned (.tuple #[.agg #[.int .i64 p, .int .i64 q], .int .i64 r]) ∧ Below w.heap.size w w' := by
  have lx := World.block_lt_of_cell? w _ hx0
  have ly := World.block_lt_of_cell? w _ hy0
  simp only at lx ly
  obtain ⟨m1, m2⟩ := mul_bd a d a1 a2 d1 d2
  obtain ⟨m3, m4⟩ := mul_bd c b c1 c2 b1 b2
  obtain ⟨m5, m6⟩ := den_bd b d b1 b2 d1 d2
  have HR := Lib.hid hr
  clear hr
  go_enter Try.func37, Try.ntmps37
  go_wp2_with fail
  refine (new_any _ _ p q r _ (by omega) (by omega) (by omega) (by omega) HR.out).mono ?_
  rintro e w1 ⟨rfl, hb⟩
  obtain ⟨hc1, hf1⟩ := bcell hb
  have hz := hb.size
  simp at hz
  go_wp2
  refine bodyPost_ret (v := .tuple #[.agg #[.int .i64 p, .int .i64 q], .int .i64 r]) (by simp [results, Try.results37, go_sem, hc1]) rfl ⟨rfl, ?_⟩
  exact (by repeat' (first | exact Below.refl _ _ | assumption | (with_reducible refine bdrewN ?_ _) | (with_reducible refine bdrew ?_) | (with_reducible refine bset ?_ ?_) | (with_reducible refine balloc0 ?_) | (with_reducible refine balloc ?_ ?_) | (apply btrans0; rotate_left; assumption) | (apply btrans; rotate_left; assumption) | (simp; done) | omega | (simp; omega)))

set_option maxHeartbeats 400000 in
theorem subc_any (x y : Nat) (a b c d p q r : Int) (w : World) (hx0 : w.cell? ⟨x, 0, none⟩ = some (.int .i64 a)) (hx1 : w.cell? ⟨x, 1, none⟩ = some (.int .i64 b))
    (hy0 : w.cell? ⟨y, 0, none⟩ = some (.int .i64 c)) (hy1 : w.cell? ⟨y, 1, none⟩ = some (.int .i64 d))
    (a1 : -1099511627776 ≤ a) (a2 : a ≤ 1099511627776) (b1 : 1 ≤ b) (b2 : b ≤ 1048576) (c1 : -1099511627776 ≤ c) (c2 : c ≤ 1099511627776) (d1 : 1 ≤ d) (d2 : d ≤ 1048576)
    (hr : newS (a * d - c * b) (b * d) = ((p, q), r)) :
    Calls Try.prog 36 #[.pointer (some ⟨x, 0, none⟩), .pointer (some ⟨y, 0, none⟩)] w fun e w' => e = .returned (.tuple #[.agg #[.int .i64 p, .int .i64 q], .int .i64 r]) ∧ Below w.heap.size w w' := by
  have lx := World.block_lt_of_cell? w _ hx0
  have ly := World.block_lt_of_cell? w _ hy0
  simp only at lx ly
  obtain ⟨m1, m2⟩ := mul_bd a d a1 a2 d1 d2
  obtain ⟨m3, m4⟩ := mul_bd c b c1 c2 b1 b2
  obtain ⟨m5, m6⟩ := den_bd b d b1 b2 d1 d2
  have HR := Lib.hid hr
  clear hr
  go_enter Try.func36, Try.ntmps36
  go_wp2_with fail
  refine (new_any _ _ p q r _ (by omega) (by omega) (by omega) (by omega) HR.out).mono ?_
  rintro e w1 ⟨rfl, hb⟩
  obtain ⟨hc1, hf1⟩ := bcell hb
  have hz := hb.size
  simp at hz
  go_wp2
  refine bodyPost_ret (v := .tuple #[.agg #[.int .i64 p, .int .i64 q], .int .i64 r]) (by simp [results, Try.results36, go_sem, hc1]) rfl ⟨rfl, ?_⟩
  exact (by repeat' (first | exact Below.refl _ _ | assumption | (with_reducible refine bdrewN ?_ _) | (with_reducible refine bdrew ?_) | (with_reducible refine bset ?_ ?_) | (with_reducible refine balloc0 ?_) | (with_reducible refine balloc ?_ ?_) | (apply btrans0; rotate_left; assumption) | (apply btrans; rotate_left; assumption) | (simp; done) | omega | (simp; omega)))

set_option maxHeartbeats 400000 in
theorem mulc_any (x y : Nat) (a b c d p q r : Int) (w : World) (hx0 : w.cell? ⟨x, 0, none⟩ = some (.int .i64 a)) (hx1 : w.cell? ⟨x, 1, none⟩ = some (.int .i64 b))
    (hy0 : w.cell? ⟨y, 0, none⟩ = some (.int .i64 c)) (hy1 : w.cell? ⟨y, 1, none⟩ = some (.int .i64 d))
    (a1 : -1099511627776 ≤ a) (a2 : a ≤ 1099511627776) (b1 : 1 ≤ b) (b2 : b ≤ 1048576) (c1 : -1099511627776 ≤ c) (c2 : c ≤ 1099511627776) (d1 : 1 ≤ d) (d2 : d ≤ 1048576)
    (hr : mul0 (a, b) (c, d) = ((p, q), r)) :
    Calls Try.prog 38 #[.pointer (some ⟨x, 0, none⟩), .pointer (some ⟨y, 0, none⟩)] w fun e w' => e = .returned (.tuple #[.agg #[.int .i64 p, .int .i64 q], .int .i64 r]) ∧ Below w.heap.size w w' := by
  obtain ⟨b, rfl⟩ := Int.eq_ofNat_of_zero_le (show 0 ≤ b by omega)
  obtain ⟨d, rfl⟩ := Int.eq_ofNat_of_zero_le (show 0 ≤ d by omega)
  unfold mul0 at hr
  simp only [Int.natAbs_natCast] at hr
  have HR := Lib.hid hr
  clear hr
  have lx := World.block_lt_of_cell? w _ hx0
  have ly := World.block_lt_of_cell? w _ hy0
  simp only at lx ly
  have u1 : IntKind.u64.wrap (b : Int) = (b : Int) := by rw [IntKind.wrap_u64]; omega
  have u2 : IntKind.u64.wrap (d : Int) = (d : Int) := by rw [IntKind.wrap_u64]; omega
  go_enter Try.func38, Try.ntmps38
  go_wp2_with fail
  refine wp_region_plan (fun w' => w'.cell? ⟨x, 0, none⟩ = some (.int .i64 a) ∧ w'.cell? ⟨x, 1, none⟩ = some (.int .i64 b) ∧ w'.cell? ⟨y, 0, none⟩ = some (.int .i64 c) ∧ w'.cell? ⟨y, 1, none⟩ = some (.int .i64 d))
    [0, 1, 0, 0, 1, 0, 0, 0, 1, 2, 0, 1, 0, 0, 1, 2, 0, 1, 0, 3, 0, 0, 3, 0] [0, 1, 2, 3, 4, 5, 6, 7, 8, 10, 11, 12, 13, 14, 16, 17, 18, 9, 15, 19, 20, 21, 22, 23] (by kernel_rfl) (by kernel_rfl) ?_ ?_
  · go_simp
  (iterate 17 (refine plan_held rfl (by decide) (by rfl) (fun w1 hS => by (try (have hS := hS rfl; obtain hS := hS; repeat (obtain ⟨_, hS⟩ := hS))); go_simp; rfl) ?_; simp only [Act.put, List.setIfInBounds_toArray, List.set_cons_zero, List.set_cons_succ]))
  (refine plan_keep rfl rfl (by rfl) (fun K hK => ?_); go_simp)
  refine (mag_any _ _ (by omega) (by omega)).mono ?_; rintro e w' ⟨rfl, rfl⟩
  (refine hK _ _ (by go_simp) ?_; clear hK K; (try simp only [Act.put, List.setIfInBounds_toArray, List.set_cons_zero, List.set_cons_succ]))
  (refine plan_keep rfl rfl (by rfl) (fun K hK => ?_); go_simp)
  refine (mag_any _ _ (by omega) (by omega)).mono ?_; rintro e w' ⟨rfl, rfl⟩
  (refine hK _ _ (by go_simp) ?_; clear hK K; (try simp only [Act.put, List.setIfInBounds_toArray, List.set_cons_zero, List.set_cons_succ]))
  (refine plan_late rfl rfl (by rfl) (fun K hK => ?_); go_simp)
  refine (prod_any _ _ _ _ _ p q r _ (by omega) (by omega) (by omega) (by omega) (by omega) (by omega) HR.out).mono ?_
  rintro e w1 ⟨rfl, hb⟩
  obtain ⟨hc1, hf1⟩ := bcell hb
  have hz := hb.size
  simp at hz
  (refine hK _ _ ?_; clear hK K; (try simp only [Act.put, List.setIfInBounds_toArray, List.set_cons_zero, List.set_cons_succ]))
  (iterate 2 (refine plan_held rfl (by decide) (by rfl) (fun w1 hS => by (try (have hS := hS rfl; obtain hS := hS; repeat (obtain ⟨_, hS⟩ := hS))); go_simp; rfl) ?_; simp only [Act.put, List.setIfInBounds_toArray, List.set_cons_zero, List.set_cons_succ]))
  (refine plan_late rfl rfl (by rfl) (fun K hK => ?_); go_simp)
  (refine hK _ _ ?_; clear hK K; (try simp only [Act.put, List.setIfInBounds_toArray, List.set_cons_zero, List.set_cons_succ]))
  (iterate 1 (refine plan_held rfl (by decide) (by rfl) (fun w1 hS => by (try (have hS := hS rfl; obtain hS := hS; repeat (obtain ⟨_, hS⟩ := hS))); go_simp; rfl) ?_; simp only [Act.put, List.setIfInBounds_toArray, List.set_cons_zero, List.set_cons_succ]))
  refine plan_done ?_
  go_wp2
  refine bodyPost_ret (v := .tuple #[.agg #[.int .i64 p, .int .i64 q], .int .i64 r]) (by simp [results, Try.results38, go_sem, hc1]) rfl ⟨rfl, ?_⟩
  exact (by repeat' (first | exact Below.refl _ _ | assumption | (with_reducible refine bdrewN ?_ _) | (with_reducible refine bdrew ?_) | (with_reducible refine bset ?_ ?_) | (with_reducible refine balloc0 ?_) | (with_reducible refine balloc ?_ ?_) | (apply btrans0; rotate_left; assumption) | (apply btrans; rotate_left; assumption) | (simp; done) | omega | (simp; omega)))

theorem divc_zero (x y : Nat) (w : World) (hy0 : w.cell? ⟨y, 0, none⟩ = some (.int .i64 0)) :
    Calls Try.prog 40 #[.pointer (some ⟨y, 0, none⟩), .pointer (some ⟨x, 0, none⟩)] w fun e w' => e = .returned (.tuple #[.agg #[.int .i64 0, .int .i64 0], .int .i64 21]) ∧ Below w.heap.size w w' := by
  have ly := World.block_lt_of_cell? w _ hy0
  simp only at ly
  go_enter Try.func40, Try.ntmps40
  go_wp2
  refine bodyPost_ret (v := .tuple #[.agg #[.int .i64 0, .int .i64 0], .int .i64 21]) (by simp [results, Try.results40, go_sem]) rfl ⟨rfl, ?_⟩
  exact (by repeat' (first | exact Below.refl _ _ | assumption | (with_reducible refine bdrewN ?_ _) | (with_reducible refine bdrew ?_) | (with_reducible refine bset ?_ ?_) | (with_reducible refine balloc0 ?_) | (with_reducible refine balloc ?_ ?_) | (apply btrans0; rotate_left; assumption) | (apply btrans; rotate_left; assumption) | (simp; done) | omega | (simp; omega)))

set_option maxHeartbeats 400000 in
theorem divc_any (x y : Nat) (a b c d p q r : Int) (w : World) (hx0 : w.cell? ⟨x, 0, none⟩ = some (.int .i64 a)) (hx1 : w.cell? ⟨x, 1, none⟩ = some (.int .i64 b))
    (hy0 : w.cell? ⟨y, 0, none⟩ = some (.int .i64 c)) (hy1 : w.cell? ⟨y, 1, none⟩ = some (.int .i64 d))
    (a1 : -1099511627776 ≤ a) (a2 : a ≤ 1099511627776) (b1 : 1 ≤ b) (b2 : b ≤ 1048576) (c1 : -1099511627776 ≤ c) (c2 : c ≤ 1099511627776) (d1 : 1 ≤ d) (d2 : d ≤ 1048576)
    (hc : c ≠ 0) (hr : div0 (a, b) (c, d) = ((p, q), r)) :
    Calls Try.prog 40 #[.pointer (some ⟨y, 0, none⟩), .pointer (some ⟨x, 0, none⟩)] w fun e w' => e = .returned (.tuple #[.agg #[.int .i64 p, .int .i64 q], .int .i64 r]) ∧ Below w.heap.size w w' := by
  obtain ⟨b, rfl⟩ := Int.eq_ofNat_of_zero_le (show 0 ≤ b by omega)
  obtain ⟨d, rfl⟩ := Int.eq_ofNat_of_zero_le (show 0 ≤ d by omega)
  unfold div0 at hr
  simp only at hr
  rw [if_neg hc] at hr
  simp only [Int.natAbs_natCast] at hr
  have HR := Lib.hid hr
  clear hr
  have lx := World.block_lt_of_cell? w _ hx0
  have ly := World.block_lt_of_cell? w _ hy0
  simp only at lx ly
  have u1 : IntKind.u64.wrap (b : Int) = (b : Int) := by rw [IntKind.wrap_u64]; omega
  have u2 : IntKind.u64.wrap (d : Int) = (d : Int) := by rw [IntKind.wrap_u64]; omega
  have e0 : (c == 0) = false := by simpa using hc

  go_enter Try.func40, Try.ntmps40
  go_wp2_with fail
  refine wp_region_plan (fun w' => w'.cell? ⟨x, 0, none⟩ = some (.int .i64 a) ∧ w'.cell? ⟨x, 1, none⟩ = some (.int .i64 b) ∧ w'.cell? ⟨y, 0, none⟩ = some (.int .i64 c) ∧ w'.cell? ⟨y, 1, none⟩ = some (.int .i64 d))
    [0, 1, 0, 0, 1, 0, 0, 0, 1, 2, 0, 1, 0, 0, 1, 0, 0, 1, 2, 3, 0, 0, 3, 0] [0, 1, 2, 3, 4, 5, 6, 7, 8, 10, 11, 12, 13, 14, 15, 16, 17, 9, 18, 19, 20, 21, 22, 23] (by kernel_rfl) (by kernel_rfl) ?_ ?_
  · go_simp
  (iterate 17 (refine plan_held rfl (by decide) (by rfl) (fun w1 hS => by (try (have hS := hS rfl; obtain hS := hS; repeat (obtain ⟨_, hS⟩ := hS))); go_simp; rfl) ?_; simp only [Act.put, List.setIfInBounds_toArray, List.set_cons_zero, List.set_cons_succ]))
  (refine plan_keep rfl rfl (by rfl) (fun K hK => ?_); go_simp)
  refine (mag_any _ _ (by omega) (by omega)).mono ?_; rintro e w' ⟨rfl, rfl⟩
  (refine hK _ _ (by go_simp) ?_; clear hK K; (try simp only [Act.put, List.setIfInBounds_toArray, List.set_cons_zero, List.set_cons_succ]))
  (refine plan_keep rfl rfl (by rfl) (fun K hK => ?_); go_simp)
  refine (mag_any _ _ (by omega) (by omega)).mono ?_; rintro e w' ⟨rfl, rfl⟩
  (refine hK _ _ (by go_simp) ?_; clear hK K; (try simp only [Act.put, List.setIfInBounds_toArray, List.set_cons_zero, List.set_cons_succ]))
  (refine plan_late rfl rfl (by rfl) (fun K hK => ?_); go_simp)
  refine (prod_any _ _ _ _ _ p q r _ (by omega) (by omega) (by omega) (by omega) (by omega) (by omega) HR.out).mono ?_
  rintro e w1 ⟨rfl, hb⟩
  obtain ⟨hc1, hf1⟩ := bcell hb
  have hz := hb.size
  simp at hz
  (refine hK _ _ ?_; clear hK K; (try simp only [Act.put, List.setIfInBounds_toArray, List.set_cons_zero, List.set_cons_succ]))
  (iterate 2 (refine plan_held rfl (by decide) (by rfl) (fun w1 hS => by (try (have hS := hS rfl; obtain hS := hS; repeat (obtain ⟨_, hS⟩ := hS))); go_simp; rfl) ?_; simp only [Act.put, List.setIfInBounds_toArray, List.set_cons_zero, List.set_cons_succ]))
  (refine plan_late rfl rfl (by rfl) (fun K hK => ?_); go_simp)
  (refine hK _ _ ?_; clear hK K; (try simp only [Act.put, List.setIfInBounds_toArray, List.set_cons_zero, List.set_cons_succ]))
  (iterate 1 (refine plan_held rfl (by decide) (by rfl) (fun w1 hS => by (try (have hS := hS rfl; obtain hS := hS; repeat (obtain ⟨_, hS⟩ := hS))); go_simp; rfl) ?_; simp only [Act.put, List.setIfInBounds_toArray, List.set_cons_zero, List.set_cons_succ]))
  refine plan_done ?_
  go_wp2
  refine bodyPost_ret (v := .tuple #[.agg #[.int .i64 p, .int .i64 q], .int .i64 r]) (by simp [results, Try.results40, go_sem, hc1]) rfl ⟨rfl, ?_⟩
  exact (by repeat' (first | exact Below.refl _ _ | assumption | (with_reducible refine bdrewN ?_ _) | (with_reducible refine bdrew ?_) | (with_reducible refine bset ?_ ?_) | (with_reducible refine balloc0 ?_) | (with_reducible refine balloc ?_ ?_) | (apply btrans0; rotate_left; assumption) | (apply btrans; rotate_left; assumption) | (simp; done) | omega | (simp; omega)))
end Go.Proofs.Ytfkdhcfedjbkfaa
