/- Walks of layer 4: Compare, Floor, Ceil, of the program and of the reference. -/
import Derived.Test.YtfkdhcfedjbkfaaWg
namespace Go.Proofs.Ytfkdhcfedjbkfaa
open Go.RowKit

def cmpS (a b : R2) : Int := if chk a = 0 ∧ chk b = 0 then (if a.1 * b.2 < b.1 * a.2 then -1 else if b.1 * a.2 < a.1 * b.2 then 1 else 0) else 0
def floorS (r : R2) : Int := if chk r = 0 then r.1 / r.2 else 0
def ceilS (r : R2) : Int := if chk r = 0 then -((-r.1) / r.2) else 0

theorem td_neg (a b : Int) (ha : a < 0) (hb : 1 ≤ b) : ∃ q m, a.tdiv b = q ∧ a.tmod b = m ∧ m ≤ 0 ∧ -b < m ∧ a / b = (if m = 0 then q else q - 1) ∧ (-a) / b = -q ∧ -a ≥ -q ∧ -q ≥ 0 := by
  refine ⟨_, _, rfl, rfl, ?_, ?_, ?_, ?_, ?_, ?_⟩
  · have h1 : 0 ≤ (-a).tmod b := Int.tmod_nonneg b (by omega)
    rw [Int.neg_tmod] at h1; omega
  · have h1 : (-a).tmod b < b := Int.tmod_lt_of_pos _ (by omega)
    rw [Int.neg_tmod] at h1; omega
  · have h0 := Int.mul_tdiv_add_tmod a b
    have h1 : 0 ≤ (-a).tmod b := Int.tmod_nonneg b (by omega)
    rw [Int.neg_tmod] at h1
    have h2 : (-a).tmod b < b := Int.tmod_lt_of_pos _ (by omega)
    rw [Int.neg_tmod] at h2
    split
    · rename_i h3
      rw [h3] at h0
      have : a = b * a.tdiv b := by omega
      rw [this, Int.mul_ediv_cancel_left _ (by omega)]
      rw [← this]
    · rename_i h3
      have e : a = (b + a.tmod b) + b * (a.tdiv b - 1) := by rw [Int.mul_sub]; omega
      rw [e, Int.add_mul_ediv_left _ _ (by omega), Int.ediv_eq_zero_of_lt (by omega) (by omega), ← e]
      omega
  · rw [← Int.tdiv_eq_ediv_of_nonneg (by omega), Int.neg_tdiv]
  · have : (-a).tdiv b ≤ -a := by
      rw [Int.tdiv_eq_ediv_of_nonneg (by omega)]
      exact Int.ediv_le_self _ (by omega)
    rw [Int.neg_tdiv] at this; omega
  · have : 0 ≤ (-a).tdiv b := Int.tdiv_nonneg (by omega) (by omega)
    rw [Int.neg_tdiv] at this; omega
theorem td_pos (a b : Int) (ha : 0 ≤ a) (hb : 1 ≤ b) : ∃ q m, a / b = q ∧ a % b = m ∧ 0 ≤ m ∧ m < b ∧ -((-a) / b) = (if m = 0 then q else q + 1) ∧ q ≤ a ∧ 0 ≤ q := by
  refine ⟨_, _, rfl, rfl, Int.emod_nonneg _ (by omega), Int.emod_lt_of_pos _ (by omega), ?_, Int.ediv_le_self _ ha, Int.ediv_nonneg ha (by omega)⟩
  have h0 := Int.mul_ediv_add_emod a b
  have h1 := Int.emod_nonneg a (show b ≠ 0 by omega)
  have h2 := Int.emod_lt_of_pos a (show 0 < b by omega)
  split
  · rename_i h3
    have e : -a = b * (-(a / b)) := by rw [Int.mul_neg]; omega
    rw [e, Int.mul_ediv_cancel_left _ (by omega)]; omega
  · rename_i h3
    have e : -a = (b - a % b) + b * (-(a / b) - 1) := by rw [Int.mul_sub, Int.mul_neg]; omega
    rw [e, Int.add_mul_ediv_left _ _ (by omega), Int.ediv_eq_zero_of_lt (by omega) (by omega)]
    omega

set_option maxHeartbeats 800000 in
theorem cmp_any (a b c d r : Int) (w : World) (a1 : -9223372036854775808 ≤ a) (a2 : a ≤ 9223372036854775807) (b1 : -9223372036854775808 ≤ b) (b2 : b ≤ 9223372036854775807) (c1 : -9223372036854775808 ≤ c) (c2 : c ≤ 9223372036854775807) (d1 : -9223372036854775808 ≤ d) (d2 : d ≤ 9223372036854775807) (hr : cmpS (a, b) (c, d) = r) :
    Calls Try.prog 17 #[.agg #[.int .i64 a, .int .i64 b], .agg #[.int .i64 c, .int .i64 d]] w fun e w' => e = .returned (.int .i64 r) ∧ Below w.heap.size w w' := by
  by_cases k : chk (a, b) = 0 ∧ chk (c, d) = 0
  · obtain ⟨x1, x2, x3, x4⟩ := chk_bd k.1
    obtain ⟨y1, y2, y3, y4⟩ := chk_bd k.2
    obtain ⟨m1, m2⟩ := mul_bd a d x1 x2 y3 y4
    obtain ⟨m3, m4⟩ := mul_bd c b y1 y2 x3 x4
    have hS : r = if a * d < c * b then -1 else if c * b < a * d then 1 else 0 := by rw [← hr]; unfold cmpS; rw [if_pos k]
    clear hr
    have H1 := Lib.hid k.1
    have H2 := Lib.hid k.2
    clear k
    have HS := Lib.hid hS
    clear hS
    go_enter Try.func17, Try.ntmps17
    go_wp2_with fail
    refine (check_any a b 0 _ a1 a2 b1 b2 H1.out).mono ?_
    rintro e w0 ⟨rfl, hb0⟩
    obtain ⟨hc0, hf0⟩ := bcell hb0
    have hz0 := hb0.size
    simp at hz0
    go_wp2_with fail
    refine (check_any c d 0 _ c1 c2 d1 d2 H2.out).mono ?_
    rintro e w1 ⟨rfl, hb1⟩
    obtain ⟨hc1, hf1⟩ := bcell hb1
    have hz1 := hb1.size
    have e0 : ∀ o, w1.cell? ⟨w.heap.size, o, none⟩ = w0.cell? ⟨w.heap.size, o, none⟩ := fun o => by rw [hc1 _ _ (by omega)]
    have e1 : ∀ o, w1.cell? ⟨w.heap.size + 1, o, none⟩ = w0.cell? ⟨w.heap.size + 1, o, none⟩ := fun o => by rw [hc1 _ _ (by omega)]
    clear hc1 hf1
    go_wp2_with fail
    go_quiet (fail)
    by_cases t1 : a * d < c * b
    · go_wp2
      go_ret
      exact ⟨ret_int (by rw [HS.out, if_pos (by omega)]), (by repeat' (first | exact Below.refl _ _ | assumption | (with_reducible refine bdrewN ?_ _) | (with_reducible refine bdrew ?_) | (with_reducible refine bset ?_ ?_) | (with_reducible refine balloc0 ?_) | (with_reducible refine balloc ?_ ?_) | (apply btrans0; rotate_left; assumption) | (apply btrans; rotate_left; assumption) | (simp; done) | omega | (simp; omega)))⟩
    by_cases t2 : c * b < a * d
    · go_wp2
      go_ret
      exact ⟨ret_int (by rw [HS.out, if_neg (by omega), if_pos (by omega)]), (by repeat' (first | exact Below.refl _ _ | assumption | (with_reducible refine bdrewN ?_ _) | (with_reducible refine bdrew ?_) | (with_reducible refine bset ?_ ?_) | (with_reducible refine balloc0 ?_) | (with_reducible refine balloc ?_ ?_) | (apply btrans0; rotate_left; assumption) | (apply btrans; rotate_left; assumption) | (simp; done) | omega | (simp; omega)))⟩
    · go_wp2
      go_ret
      exact ⟨ret_int (by rw [HS.out, if_neg (by omega), if_neg (by omega)]), (by repeat' (first | exact Below.refl _ _ | assumption | (with_reducible refine bdrewN ?_ _) | (with_reducible refine bdrew ?_) | (with_reducible refine bset ?_ ?_) | (with_reducible refine balloc0 ?_) | (with_reducible refine balloc ?_ ?_) | (apply btrans0; rotate_left; assumption) | (apply btrans; rotate_left; assumption) | (simp; done) | omega | (simp; omega)))⟩
  · have hS : r = 0 := by rw [← hr]; unfold cmpS; rw [if_neg k]
    subst hS
    clear hr
    obtain ⟨l, hl⟩ : ∃ l, chk (a, b) = l := ⟨_, rfl⟩
    obtain ⟨l', hl'⟩ : ∃ l, chk (c, d) = l := ⟨_, rfl⟩
    rw [hl, hl'] at k
    have H1 := Lib.hid hl
    have H2 := Lib.hid hl'
    clear hl hl'
    by_cases z : l = 0
    · have z2 : (l' != 0) = true := by simp; omega
      have z1 : (l != 0) = false := by simp; omega
      clear z k
      go_enter Try.func17, Try.ntmps17
      go_wp2_with fail
      refine (check_any a b l _ a1 a2 b1 b2 H1.out).mono ?_
      rintro e w0 ⟨rfl, hb0⟩
      obtain ⟨hc0, hf0⟩ := bcell hb0
      have hz0 := hb0.size
      simp at hz0
      go_wp2_with fail
      refine (check_any c d l' _ c1 c2 d1 d2 H2.out).mono ?_
      rintro e w1 ⟨rfl, hb1⟩
      go_wp2
      go_ret
      exact ⟨rfl, (by repeat' (first | exact Below.refl _ _ | assumption | (with_reducible refine bdrewN ?_ _) | (with_reducible refine bdrew ?_) | (with_reducible refine bset ?_ ?_) | (with_reducible refine balloc0 ?_) | (with_reducible refine balloc ?_ ?_) | (apply btrans0; rotate_left; assumption) | (apply btrans; rotate_left; assumption) | (simp; done) | omega | (simp; omega)))⟩
    · have z1 : (l != 0) = true := by simp; omega
      clear z k
      go_enter Try.func17, Try.ntmps17
      go_wp2_with fail
      refine (check_any a b l _ a1 a2 b1 b2 H1.out).mono ?_
      rintro e w0 ⟨rfl, hb0⟩
      go_wp2
      go_ret
      exact ⟨rfl, (by repeat' (first | exact Below.refl _ _ | assumption | (with_reducible refine bdrewN ?_ _) | (with_reducible refine bdrew ?_) | (with_reducible refine bset ?_ ?_) | (with_reducible refine balloc0 ?_) | (with_reducible refine balloc ?_ ?_) | (apply btrans0; rotate_left; assumption) | (apply btrans; rotate_left; assumption) | (simp; done) | omega | (simp; omega)))⟩

set_option maxHeartbeats 800000 in
theorem rcmp_any (a b c d r : Int) (w : World) (a1 : -9223372036854775808 ≤ a) (a2 : a ≤ 9223372036854775807) (b1 : -9223372036854775808 ≤ b) (b2 : b ≤ 9223372036854775807) (c1 : -9223372036854775808 ≤ c) (c2 : c ≤ 9223372036854775807) (d1 : -9223372036854775808 ≤ d) (d2 : d ≤ 9223372036854775807) (hr : cmpS (a, b) (c, d) = r) :
    Calls Try.prog 18 #[.agg #[.int .i64 a, .int .i64 b], .agg #[.int .i64 c, .int .i64 d]] w fun e w' => e = .returned (.int .i64 r) ∧ Below w.heap.size w w' := by
  by_cases k : chk (a, b) = 0 ∧ chk (c, d) = 0
  · obtain ⟨x1, x2, x3, x4⟩ := chk_bd k.1
    obtain ⟨y1, y2, y3, y4⟩ := chk_bd k.2
    obtain ⟨m1, m2⟩ := mul_bd a d x1 x2 y3 y4
    obtain ⟨m3, m4⟩ := mul_bd c b y1 y2 x3 x4
    have hS : r = if a * d < c * b then -1 else if c * b < a * d then 1 else 0 := by rw [← hr]; unfold cmpS; rw [if_pos k]
    clear hr
    have hv : decide (chk (a, b) = 0 ∧ chk (c, d) = 0) = true := by simpa using k
    have HV := Lib.hid hv
    clear hv k
    have HS := Lib.hid hS
    clear hS
    go_enter Try.func18, Try.ntmps18
    go_wp2_with fail
    refine (rvalid_any a b c d true _ a1 a2 b1 b2 c1 c2 d1 d2 HV.out).mono ?_
    rintro e w1 ⟨rfl, hb1⟩
    obtain ⟨hc1, hf1⟩ := bcell hb1
    have hz1 := hb1.size
    simp at hz1
    go_wp2_with fail
    go_quiet (fail)
    by_cases t1 : a * d < c * b
    · go_wp2
      go_ret
      exact ⟨ret_int (by rw [HS.out, if_pos (by omega)]), (by repeat' (first | exact Below.refl _ _ | assumption | (with_reducible refine bdrewN ?_ _) | (with_reducible refine bdrew ?_) | (with_reducible refine bset ?_ ?_) | (with_reducible refine balloc0 ?_) | (with_reducible refine balloc ?_ ?_) | (apply btrans0; rotate_left; assumption) | (apply btrans; rotate_left; assumption) | (simp; done) | omega | (simp; omega)))⟩
    by_cases t2 : c * b < a * d
    · go_wp2
      go_ret
      exact ⟨ret_int (by rw [HS.out, if_neg (by omega), if_pos (by omega)]), (by repeat' (first | exact Below.refl _ _ | assumption | (with_reducible refine bdrewN ?_ _) | (with_reducible refine bdrew ?_) | (with_reducible refine bset ?_ ?_) | (with_reducible refine balloc0 ?_) | (with_reducible refine balloc ?_ ?_) | (apply btrans0; rotate_left; assumption) | (apply btrans; rotate_left; assumption) | (simp; done) | omega | (simp; omega)))⟩
    · go_wp2
      go_ret
      exact ⟨ret_int (by rw [HS.out, if_neg (by omega), if_neg (by omega)]), (by repeat' (first | exact Below.refl _ _ | assumption | (with_reducible refine bdrewN ?_ _) | (with_reducible refine bdrew ?_) | (with_reducible refine bset ?_ ?_) | (with_reducible refine balloc0 ?_) | (with_reducible refine balloc ?_ ?_) | (apply btrans0; rotate_left; assumption) | (apply btrans; rotate_left; assumption) | (simp; done) | omega | (simp; omega)))⟩
  · have hv : decide (chk (a, b) = 0 ∧ chk (c, d) = 0) = false := by simpa using k
    have hS : r = 0 := by rw [← hr]; unfold cmpS; rw [if_neg k]
    subst hS
    have HV := Lib.hid hv
    clear hv hr k
    go_enter Try.func18, Try.ntmps18
    go_wp2_with fail
    refine (rvalid_any a b c d false _ a1 a2 b1 b2 c1 c2 d1 d2 HV.out).mono ?_
    rintro e w1 ⟨rfl, hb1⟩
    obtain ⟨hc1, hf1⟩ := bcell hb1
    have hz1 := hb1.size
    simp at hz1
    go_wp2
    go_ret
    exact ⟨rfl, (by repeat' (first | exact Below.refl _ _ | assumption | (with_reducible refine bdrewN ?_ _) | (with_reducible refine bdrew ?_) | (with_reducible refine bset ?_ ?_) | (with_reducible refine balloc0 ?_) | (with_reducible refine balloc ?_ ?_) | (apply btrans0; rotate_left; assumption) | (apply btrans; rotate_left; assumption) | (simp; done) | omega | (simp; omega)))⟩

set_option maxHeartbeats 800000 in
theorem floor_any (a b r : Int) (w : World) (a1 : -9223372036854775808 ≤ a) (a2 : a ≤ 9223372036854775807) (b1 : -9223372036854775808 ≤ b) (b2 : b ≤ 9223372036854775807) (hr : floorS (a, b) = r) :
    Calls Try.prog 15 #[.agg #[.int .i64 a, .int .i64 b]] w fun e w' => e = .returned (.int .i64 r) ∧ Below w.heap.size w w' := by
  unfold floorS at hr
  by_cases k : chk (a, b) = 0
  · obtain ⟨x1, x2, x3, x4⟩ := chk_bd k
    rw [if_pos k] at hr
    simp only at hr
    have H1 := Lib.hid k
    clear k
    by_cases s : a < 0
    · obtain ⟨q, m, e1, e2, e3, e4, e5, _, e6, e7⟩ := td_neg a b s x3
      rw [e5] at hr
      have HR := Lib.hid hr
      clear hr e5
      by_cases z : m = 0
      · have e8 : (m != 0) = false := by simpa using z
        have e9 : ¬ m < 0 := by omega
        go_enter Try.func15, Try.ntmps15
        go_wp2_with fail
        refine (check_any a b 0 _ a1 a2 b1 b2 H1.out).mono ?_
        rintro e w1 ⟨rfl, hb1⟩
        obtain ⟨hc1, hf1⟩ := bcell hb1
        have hz1 := hb1.size
        simp at hz1
        go_wp2
        go_ret
        exact ⟨ret_int (by rw [← HR.out, if_pos z] <;> exact e1), (by repeat' (first | exact Below.refl _ _ | assumption | (with_reducible refine bdrewN ?_ _) | (with_reducible refine bdrew ?_) | (with_reducible refine bset ?_ ?_) | (with_reducible refine balloc0 ?_) | (with_reducible refine balloc ?_ ?_) | (apply btrans0; rotate_left; assumption) | (apply btrans; rotate_left; assumption) | (simp; done) | omega | (simp; omega)))⟩
      · have e8 : (m != 0) = true := by simpa using z
        have e9 : m < 0 := by omega
        go_enter Try.func15, Try.ntmps15
        go_wp2_with fail
        refine (check_any a b 0 _ a1 a2 b1 b2 H1.out).mono ?_
        rintro e w1 ⟨rfl, hb1⟩
        obtain ⟨hc1, hf1⟩ := bcell hb1
        have hz1 := hb1.size
        simp at hz1
        go_wp2
        go_ret
        exact ⟨ret_int (by rw [← HR.out, if_neg z] <;> omega), (by repeat' (first | exact Below.refl _ _ | assumption | (with_reducible refine bdrewN ?_ _) | (with_reducible refine bdrew ?_) | (with_reducible refine bset ?_ ?_) | (with_reducible refine balloc0 ?_) | (with_reducible refine balloc ?_ ?_) | (apply btrans0; rotate_left; assumption) | (apply btrans; rotate_left; assumption) | (simp; done) | omega | (simp; omega)))⟩
    · obtain ⟨q, m, e1, e2, e3, e4, _, e6, e7⟩ := td_pos a b (by omega) x3
      rw [e1] at hr
      have HR := Lib.hid hr
      clear hr
      have s' : 0 ≤ a := by omega
      have e9 : ¬ m < 0 := by omega
      go_enter Try.func15, Try.ntmps15
      go_wp2_with fail
      refine (check_any a b 0 _ a1 a2 b1 b2 H1.out).mono ?_
      rintro e w1 ⟨rfl, hb1⟩
      obtain ⟨hc1, hf1⟩ := bcell hb1
      have hz1 := hb1.size
      simp at hz1
      go_wp2
      go_ret
      exact ⟨ret_int (by first | exact HR.out | (rw [e1]; exact HR.out)), (by repeat' (first | exact Below.refl _ _ | assumption | (with_reducible refine bdrewN ?_ _) | (with_reducible refine bdrew ?_) | (with_reducible refine bset ?_ ?_) | (with_reducible refine balloc0 ?_) | (with_reducible refine balloc ?_ ?_) | (apply btrans0; rotate_left; assumption) | (apply btrans; rotate_left; assumption) | (simp; done) | omega | (simp; omega)))⟩
  · rw [if_neg k] at hr
    subst hr
    obtain ⟨l, hl⟩ : ∃ l, chk (a, b) = l := ⟨_, rfl⟩
    rw [hl] at k
    have z1 : (l != 0) = true := by simpa using k
    have H1 := Lib.hid hl
    clear hl
    go_enter Try.func15, Try.ntmps15
    go_wp2_with fail
    refine (check_any a b l _ a1 a2 b1 b2 H1.out).mono ?_
    rintro e w0 ⟨rfl, hb0⟩
    go_wp2
    go_ret
    exact ⟨rfl, (by repeat' (first | exact Below.refl _ _ | assumption | (with_reducible refine bdrewN ?_ _) | (with_reducible refine bdrew ?_) | (with_reducible refine bset ?_ ?_) | (with_reducible refine balloc0 ?_) | (with_reducible refine balloc ?_ ?_) | (apply btrans0; rotate_left; assumption) | (apply btrans; rotate_left; assumption) | (simp; done) | omega | (simp; omega)))⟩

set_option maxHeartbeats 800000 in
theorem rfloor_any (a b r : Int) (w : World) (a1 : -9223372036854775808 ≤ a) (a2 : a ≤ 9223372036854775807) (b1 : -9223372036854775808 ≤ b) (b2 : b ≤ 9223372036854775807) (hr : floorS (a, b) = r) :
    Calls Try.prog 19 #[.agg #[.int .i64 a, .int .i64 b]] w fun e w' => e = .returned (.int .i64 r) ∧ Below w.heap.size w w' := by
  unfold floorS at hr
  by_cases k : chk (a, b) = 0
  · obtain ⟨x1, x2, x3, x4⟩ := chk_bd k
    rw [if_pos k] at hr
    simp only at hr
    have H1 := Lib.hid k
    clear k
    by_cases s : a < 0
    · obtain ⟨q, m, e1, e2, e3, e4, e5, _, e6, e7⟩ := td_neg a b s x3
      rw [e5] at hr
      have HR := Lib.hid hr
      clear hr e5
      by_cases z : m = 0
      · have e8 : (m != 0) = false := by simpa using z
        have e9 : ¬ m < 0 := by omega
        go_enter Try.func19, Try.ntmps19
        go_wp2_with fail
        refine (rcheck_any a b 0 _ a1 a2 b1 b2 H1.out).mono ?_
        rintro e w1 ⟨rfl, hb1⟩
        obtain ⟨hc1, hf1⟩ := bcell hb1
        have hz1 := hb1.size
        simp at hz1
        go_wp2
        go_ret
        exact ⟨ret_int (by rw [← HR.out, if_pos z] <;> exact e1), (by repeat' (first | exact Below.refl _ _ | assumption | (with_reducible refine bdrewN ?_ _) | (with_reducible refine bdrew ?_) | (with_reducible refine bset ?_ ?_) | (with_reducible refine balloc0 ?_) | (with_reducible refine balloc ?_ ?_) | (apply btrans0; rotate_left; assumption) | (apply btrans; rotate_left; assumption) | (simp; done) | omega | (simp; omega)))⟩
      · have e8 : (m != 0) = true := by simpa using z
        have e9 : m < 0 := by omega
        go_enter Try.func19, Try.ntmps19
        go_wp2_with fail
        refine (rcheck_any a b 0 _ a1 a2 b1 b2 H1.out).mono ?_
        rintro e w1 ⟨rfl, hb1⟩
        obtain ⟨hc1, hf1⟩ := bcell hb1
        have hz1 := hb1.size
        simp at hz1
        go_wp2
        go_ret
        exact ⟨ret_int (by rw [← HR.out, if_neg z] <;> omega), (by repeat' (first | exact Below.refl _ _ | assumption | (with_reducible refine bdrewN ?_ _) | (with_reducible refine bdrew ?_) | (with_reducible refine bset ?_ ?_) | (with_reducible refine balloc0 ?_) | (with_reducible refine balloc ?_ ?_) | (apply btrans0; rotate_left; assumption) | (apply btrans; rotate_left; assumption) | (simp; done) | omega | (simp; omega)))⟩
    · obtain ⟨q, m, e1, e2, e3, e4, _, e6, e7⟩ := td_pos a b (by omega) x3
      rw [e1] at hr
      have HR := Lib.hid hr
      clear hr
      have s' : 0 ≤ a := by omega
      have e9 : ¬ m < 0 := by omega
      go_enter Try.func19, Try.ntmps19
      go_wp2_with fail
      refine (rcheck_any a b 0 _ a1 a2 b1 b2 H1.out).mono ?_
      rintro e w1 ⟨rfl, hb1⟩
      obtain ⟨hc1, hf1⟩ := bcell hb1
      have hz1 := hb1.size
      simp at hz1
      go_wp2
      go_ret
      exact ⟨ret_int (by first | exact HR.out | (rw [e1]; exact HR.out)), (by repeat' (first | exact Below.refl _ _ | assumption | (with_reducible refine bdrewN ?_ _) | (with_reducible refine bdrew ?_) | (with_reducible refine bset ?_ ?_) | (with_reducible refine balloc0 ?_) | (with_reducible refine balloc ?_ ?_) | (apply btrans0; rotate_left; assumption) | (apply btrans; rotate_left; assumption) | (simp; done) | omega | (simp; omega)))⟩
  · rw [if_neg k] at hr
    subst hr
    obtain ⟨l, hl⟩ : ∃ l, chk (a, b) = l := ⟨_, rfl⟩
    rw [hl] at k
    have z1 : (l != 0) = true := by simpa using k
    have H1 := Lib.hid hl
    clear hl
    go_enter Try.func19, Try.ntmps19
    go_wp2_with fail
    refine (rcheck_any a b l _ a1 a2 b1 b2 H1.out).mono ?_
    rintro e w0 ⟨rfl, hb0⟩
    go_wp2
    go_ret
    exact ⟨rfl, (by repeat' (first | exact Below.refl _ _ | assumption | (with_reducible refine bdrewN ?_ _) | (with_reducible refine bdrew ?_) | (with_reducible refine bset ?_ ?_) | (with_reducible refine balloc0 ?_) | (with_reducible refine balloc ?_ ?_) | (apply btrans0; rotate_left; assumption) | (apply btrans; rotate_left; assumption) | (simp; done) | omega | (simp; omega)))⟩

set_option maxHeartbeats 800000 in
theorem ceil_any (a b r : Int) (w : World) (a1 : -9223372036854775808 ≤ a) (a2 : a ≤ 9223372036854775807) (b1 : -9223372036854775808 ≤ b) (b2 : b ≤ 9223372036854775807) (hr : ceilS (a, b) = r) :
    Calls Try.prog 16 #[.agg #[.int .i64 a, .int .i64 b]] w fun e w' => e = .returned (.int .i64 r) ∧ Below w.heap.size w w' := by
  unfold ceilS at hr
  by_cases k : chk (a, b) = 0
  · obtain ⟨x1, x2, x3, x4⟩ := chk_bd k
    rw [if_pos k] at hr
    simp only at hr
    have hfl : floorS (-a, b) = -r := by
      unfold floorS
      have : chk (-a, b) = 0 := by
        unfold chk at k ⊢
        simp only [Int.natAbs_neg]
        split at k
        · omega
        · rename_i h1
          simp only at h1
          rw [if_neg (by omega)]
          exact k
      rw [if_pos this]; simp only; omega
    have hrb : -r ≤ 1099511627776 ∧ -1099511627776 ≤ -r := by
      rw [← hr]
      have h1 := Int.ediv_mul_le (-a) (show b ≠ 0 by omega)
      by_cases s : 0 ≤ -a
      · have := Int.ediv_le_self b s
        have := Int.ediv_nonneg s (show 0 ≤ b by omega)
        omega
      · have h2 : (-a) / b < 0 := Int.ediv_neg_of_neg_of_pos (by omega) (by omega)
        have h3 : -a ≤ (-a) / b := by
          rw [Int.le_ediv_iff_mul_le (by omega)]
          have : -a * b ≤ -a * 1 := Int.mul_le_mul_of_nonpos_left (by omega) (by omega)
          omega
        omega
    obtain ⟨hr1, hr2⟩ := hrb
    have H1 := Lib.hid k
    have HR := Lib.hid hfl
    clear hr k hfl
    go_enter Try.func16, Try.ntmps16
    go_wp2_with fail
    refine (check_any a b 0 _ a1 a2 b1 b2 H1.out).mono ?_
    rintro e w1 ⟨rfl, hb1⟩
    obtain ⟨hc1, hf1⟩ := bcell hb1
    have hz1 := hb1.size
    simp at hz1
    go_wp2_with fail
    refine (floor_any (-a) b (-r) _ (by omega) (by omega) b1 b2 HR.out).mono ?_
    rintro e w2 ⟨rfl, hb2⟩
    go_wp2
    go_ret
    exact ⟨ret_int (by omega), (by repeat' (first | exact Below.refl _ _ | assumption | (with_reducible refine bdrewN ?_ _) | (with_reducible refine bdrew ?_) | (with_reducible refine bset ?_ ?_) | (with_reducible refine balloc0 ?_) | (with_reducible refine balloc ?_ ?_) | (apply btrans0; rotate_left; assumption) | (apply btrans; rotate_left; assumption) | (simp; done) | omega | (simp; omega)))⟩
  · rw [if_neg k] at hr
    subst hr
    obtain ⟨l, hl⟩ : ∃ l, chk (a, b) = l := ⟨_, rfl⟩
    rw [hl] at k
    have z1 : (l != 0) = true := by simpa using k
    have H1 := Lib.hid hl
    clear hl
    go_enter Try.func16, Try.ntmps16
    go_wp2_with fail
    refine (check_any a b l _ a1 a2 b1 b2 H1.out).mono ?_
    rintro e w0 ⟨rfl, hb0⟩
    go_wp2
    go_ret
    exact ⟨rfl, (by repeat' (first | exact Below.refl _ _ | assumption | (with_reducible refine bdrewN ?_ _) | (with_reducible refine bdrew ?_) | (with_reducible refine bset ?_ ?_) | (with_reducible refine balloc0 ?_) | (with_reducible refine balloc ?_ ?_) | (apply btrans0; rotate_left; assumption) | (apply btrans; rotate_left; assumption) | (simp; done) | omega | (simp; omega)))⟩

set_option maxHeartbeats 800000 in
theorem rceil_any (a b r : Int) (w : World) (a1 : -9223372036854775808 ≤ a) (a2 : a ≤ 9223372036854775807) (b1 : -9223372036854775808 ≤ b) (b2 : b ≤ 9223372036854775807) (hr : ceilS (a, b) = r) :
    Calls Try.prog 20 #[.agg #[.int .i64 a, .int .i64 b]] w fun e w' => e = .returned (.int .i64 r) ∧ Below w.heap.size w w' := by
  unfold ceilS at hr
  by_cases k : chk (a, b) = 0
  · obtain ⟨x1, x2, x3, x4⟩ := chk_bd k
    rw [if_pos k] at hr
    simp only at hr
    have H1 := Lib.hid k
    clear k
    by_cases s : a < 0
    · obtain ⟨q, m, e1, e2, e3, e4, _, e5, e6, e7⟩ := td_neg a b s x3
      rw [e5] at hr
      have HR := Lib.hid hr
      clear hr e5
      go_enter Try.func20, Try.ntmps20
      go_wp2_with fail
      refine (rcheck_any a b 0 _ a1 a2 b1 b2 H1.out).mono ?_
      rintro e w1 ⟨rfl, hb1⟩
      obtain ⟨hc1, hf1⟩ := bcell hb1
      have hz1 := hb1.size
      simp at hz1
      go_wp2
      go_ret
      exact ⟨ret_int (by rw [← HR.out]; omega), (by repeat' (first | exact Below.refl _ _ | assumption | (with_reducible refine bdrewN ?_ _) | (with_reducible refine bdrew ?_) | (with_reducible refine bset ?_ ?_) | (with_reducible refine balloc0 ?_) | (with_reducible refine balloc ?_ ?_) | (apply btrans0; rotate_left; assumption) | (apply btrans; rotate_left; assumption) | (simp; done) | omega | (simp; omega)))⟩
    · obtain ⟨q, m, e1, e2, e3, e4, e5, e6, e7⟩ := td_pos a b (by omega) x3
      rw [e5] at hr
      have HR := Lib.hid hr
      clear hr e5
      have s' : 0 ≤ a := by omega
      by_cases s0 : 0 < a
      · by_cases z : m = 0
        · have e8 : (m != 0) = false := by simpa using z
          go_enter Try.func20, Try.ntmps20
          go_wp2_with fail
          refine (rcheck_any a b 0 _ a1 a2 b1 b2 H1.out).mono ?_
          rintro e w1 ⟨rfl, hb1⟩
          obtain ⟨hc1, hf1⟩ := bcell hb1
          have hz1 := hb1.size
          simp at hz1
          go_wp2
          go_ret
          exact ⟨ret_int (by rw [← HR.out, if_pos z] <;> exact e1), (by repeat' (first | exact Below.refl _ _ | assumption | (with_reducible refine bdrewN ?_ _) | (with_reducible refine bdrew ?_) | (with_reducible refine bset ?_ ?_) | (with_reducible refine balloc0 ?_) | (with_reducible refine balloc ?_ ?_) | (apply btrans0; rotate_left; assumption) | (apply btrans; rotate_left; assumption) | (simp; done) | omega | (simp; omega)))⟩
        · have e8 : (m != 0) = true := by simpa using z
          go_enter Try.func20, Try.ntmps20
          go_wp2_with fail
          refine (rcheck_any a b 0 _ a1 a2 b1 b2 H1.out).mono ?_
          rintro e w1 ⟨rfl, hb1⟩
          obtain ⟨hc1, hf1⟩ := bcell hb1
          have hz1 := hb1.size
          simp at hz1
          go_wp2
          go_ret
          exact ⟨ret_int (by rw [← HR.out, if_neg z] <;> omega), (by repeat' (first | exact Below.refl _ _ | assumption | (with_reducible refine bdrewN ?_ _) | (with_reducible refine bdrew ?_) | (with_reducible refine bset ?_ ?_) | (with_reducible refine balloc0 ?_) | (with_reducible refine balloc ?_ ?_) | (apply btrans0; rotate_left; assumption) | (apply btrans; rotate_left; assumption) | (simp; done) | omega | (simp; omega)))⟩
      · have z : m = 0 := by
          have h0 : a = 0 := by omega
          rw [← e2, h0]; simp
        go_enter Try.func20, Try.ntmps20
        go_wp2_with fail
        refine (rcheck_any a b 0 _ a1 a2 b1 b2 H1.out).mono ?_
        rintro e w1 ⟨rfl, hb1⟩
        obtain ⟨hc1, hf1⟩ := bcell hb1
        have hz1 := hb1.size
        simp at hz1
        go_wp2
        go_ret
        exact ⟨ret_int (by rw [← HR.out, if_pos z] <;> exact e1), (by repeat' (first | exact Below.refl _ _ | assumption | (with_reducible refine bdrewN ?_ _) | (with_reducible refine bdrew ?_) | (with_reducible refine bset ?_ ?_) | (with_reducible refine balloc0 ?_) | (with_reducible refine balloc ?_ ?_) | (apply btrans0; rotate_left; assumption) | (apply btrans; rotate_left; assumption) | (simp; done) | omega | (simp; omega)))⟩
  · rw [if_neg k] at hr
    subst hr
    obtain ⟨l, hl⟩ : ∃ l, chk (a, b) = l := ⟨_, rfl⟩
    rw [hl] at k
    have z1 : (l != 0) = true := by simpa using k
    have H1 := Lib.hid hl
    clear hl
    go_enter Try.func20, Try.ntmps20
    go_wp2_with fail
    refine (rcheck_any a b l _ a1 a2 b1 b2 H1.out).mono ?_
    rintro e w0 ⟨rfl, hb0⟩
    go_wp2
    go_ret
    exact ⟨rfl, (by repeat' (first | exact Below.refl _ _ | assumption | (with_reducible refine bdrewN ?_ _) | (with_reducible refine bdrew ?_) | (with_reducible refine bset ?_ ?_) | (with_reducible refine balloc0 ?_) | (with_reducible refine balloc ?_ ?_) | (apply btrans0; rotate_left; assumption) | (apply btrans; rotate_left; assumption) | (simp; done) | omega | (simp; omega)))⟩

end Go.Proofs.Ytfkdhcfedjbkfaa
