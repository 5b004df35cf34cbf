/- Walks of the reference of layer 4: valid, Add, Sub, Div. -/
import Derived.Test.YtfkdhcfedjbkfaaWc
import Derived.Test.YtfkdhcfedjbkfaaWf
namespace Go.Proofs.Ytfkdhcfedjbkfaa
open Go.RowKit

set_option maxHeartbeats 800000 in
theorem rvalid_any (a b c d : Int) (v : Bool) (w : World) (a1 : -9223372036854775808 ≤ a) (a2 : a ≤ 9223372036854775807) (b1 : -9223372036854775808 ≤ b) (b2 : b ≤ 9223372036854775807) (c1 : -9223372036854775808 ≤ c) (c2 : c ≤ 9223372036854775807) (d1 : -9223372036854775808 ≤ d) (d2 : d ≤ 9223372036854775807) (hv : decide (chk (a, b) = 0 ∧ chk (c, d) = 0) = v) :
    Calls Try.prog 34 #[.agg #[.int .i64 a, .int .i64 b], .agg #[.int .i64 c, .int .i64 d]] w fun e w' => e = .returned (.bool v) ∧ Below w.heap.size w w' := by
  obtain ⟨k, hk⟩ : ∃ k, chk (a, b) = k := ⟨_, rfl⟩
  obtain ⟨l, hl⟩ : ∃ k, chk (c, d) = k := ⟨_, rfl⟩
  rw [hk, hl] at hv
  have H1 := Lib.hid hk
  have H2 := Lib.hid hl
  clear hk hl
  by_cases z1 : k = 0
  · have e1 : (k == 0) = true := by simpa using z1
    obtain ⟨m, hm⟩ : ∃ m, (l == 0) = m := ⟨_, rfl⟩
    have hvm : v = m := by rw [← hv, ← hm, z1]; by_cases h : l = 0 <;> simp [h]
    subst hvm
    clear hv z1
    have HM := Lib.hid hm
    clear hm
    go_enter Try.func34, Try.ntmps34
    go_wp2_with fail
    refine (rcheck_any a b k _ a1 a2 b1 b2 H1.out).mono ?_
    rintro e w1 ⟨rfl, hb1⟩
    obtain ⟨hc1, hf1⟩ := bcell hb1
    have hz1 := hb1.size
    simp at hz1
    go_wp2_with fail
    refine (rcheck_any c d l _ c1 c2 d1 d2 H2.out).mono ?_
    rintro e w2 ⟨rfl, hb2⟩
    go_wp2
    go_ret
    exact ⟨ret_bool HM.out, (by repeat' (first | exact Below.refl _ _ | assumption | (with_reducible refine bdrewN ?_ _) | (with_reducible refine bdrew ?_) | (with_reducible refine bset ?_ ?_) | (with_reducible refine balloc0 ?_) | (with_reducible refine balloc ?_ ?_) | (apply btrans0; rotate_left; assumption) | (apply btrans; rotate_left; assumption) | (simp; done) | omega | (simp; omega)))⟩
  · have e1 : (k == 0) = false := by simpa using z1
    have hvm : v = false := by rw [← hv]; simp [z1]
    subst hvm
    clear hv z1
    go_enter Try.func34, Try.ntmps34
    go_wp2_with fail
    refine (rcheck_any a b k _ a1 a2 b1 b2 H1.out).mono ?_
    rintro e w1 ⟨rfl, hb1⟩
    obtain ⟨hc1, hf1⟩ := bcell hb1
    have hz1 := hb1.size
    simp at hz1
    go_wp2
    go_ret
    exact ⟨rfl, (by repeat' (first | exact Below.refl _ _ | assumption | (with_reducible refine bdrewN ?_ _) | (with_reducible refine bdrew ?_) | (with_reducible refine bset ?_ ?_) | (with_reducible refine balloc0 ?_) | (with_reducible refine balloc ?_ ?_) | (apply btrans0; rotate_left; assumption) | (apply btrans; rotate_left; assumption) | (simp; done) | omega | (simp; omega)))⟩

set_option maxHeartbeats 800000 in
theorem radd_any (a b c d p q r : Int) (w : World) (a1 : -9223372036854775808 ≤ a) (a2 : a ≤ 9223372036854775807) (b1 : -9223372036854775808 ≤ b) (b2 : b ≤ 9223372036854775807) (c1 : -9223372036854775808 ≤ c) (c2 : c ≤ 9223372036854775807) (d1 : -9223372036854775808 ≤ d) (d2 : d ≤ 9223372036854775807) (hr : opS add0 (a, b) (c, d) = ((p, q), r)) :
    Calls Try.prog 24 #[.agg #[.int .i64 a, .int .i64 b], .agg #[.int .i64 c, .int .i64 d]] w fun e w' => e = .returned (.tuple #[.agg #[.int .i64 p, .int .i64 q], .int .i64 r]) ∧ Below w.heap.size w w' := by
  by_cases k : chk (a, b) = 0 ∧ chk (c, d) = 0
  · have hr' := opS_good hr k.1 k.2
    obtain ⟨x1, x2, x3, x4⟩ := chk_bd k.1
    obtain ⟨y1, y2, y3, y4⟩ := chk_bd k.2
    obtain ⟨m1, m2⟩ := mul_bd a d x1 x2 y3 y4
    obtain ⟨m3, m4⟩ := mul_bd c b y1 y2 x3 x4
    obtain ⟨m5, m6⟩ := den_bd b d x3 x4 y3 y4
    have hr' : newS (a * d + c * b) (b * d) = ((p, q), r) := hr'
    have hv : decide (chk (a, b) = 0 ∧ chk (c, d) = 0) = true := by simpa using k
    have HV := Lib.hid hv
    have HR := Lib.hid hr'
    clear hv hr' hr k
    go_enter Try.func24, Try.ntmps24
    go_wp2_with fail
    refine (rvalid_any a b c d true _ a1 a2 b1 b2 c1 c2 d1 d2 HV.out).mono ?_
    rintro e w1 ⟨rfl, hb1⟩
    obtain ⟨hc1, hf1⟩ := bcell hb1
    have hz1 := hb1.size
    simp at hz1
    go_wp2_with fail
    refine (rnew_any _ _ p q r _ (by omega) (by omega) (by omega) (by omega) HR.out).mono ?_
    rintro e w2 ⟨rfl, hb2⟩
    obtain ⟨hc2, hf2⟩ := bcell hb2
    have hz2 := hb2.size
    have k2 : w.heap.size + 2 < w2.heap.size := by omega
    have e0 : ∀ o, w2.cell? ⟨w.heap.size + 2, o, none⟩ = w1.cell? ⟨w.heap.size + 2, o, none⟩ := fun o => by rw [hc2 _ _ (by omega)]
    have e1 : ∀ o, w2.frozen? ⟨w.heap.size + 2, o, none⟩ = w1.frozen? ⟨w.heap.size + 2, o, none⟩ := fun o => by rw [hf2 _ _ (by omega)]
    clear hc2 hf2
    go_wp2
    refine bodyPost_ret (v := .tuple #[.agg #[.int .i64 p, .int .i64 q], .int .i64 r]) (by simp [results, Try.results24, go_sem, e0, hc1, k2]) rfl ⟨rfl, ?_⟩
    exact (by repeat' (first | exact Below.refl _ _ | assumption | (with_reducible refine bdrewN ?_ _) | (with_reducible refine bdrew ?_) | (with_reducible refine bset ?_ ?_) | (with_reducible refine balloc0 ?_) | (with_reducible refine balloc ?_ ?_) | (apply btrans0; rotate_left; assumption) | (apply btrans; rotate_left; assumption) | (simp; done) | omega | (simp; omega)))
  · obtain ⟨rfl, rfl, rfl⟩ := opS_bad hr k
    have hv : decide (chk (a, b) = 0 ∧ chk (c, d) = 0) = false := by simpa using k
    have HV := Lib.hid hv
    clear hv hr k
    go_enter Try.func24, Try.ntmps24
    go_wp2_with fail
    refine (rvalid_any a b c d false _ a1 a2 b1 b2 c1 c2 d1 d2 HV.out).mono ?_
    rintro e w1 ⟨rfl, hb1⟩
    obtain ⟨hc1, hf1⟩ := bcell hb1
    have hz1 := hb1.size
    simp at hz1
    go_wp2
    refine bodyPost_ret (v := .tuple #[.agg #[.int .i64 0, .int .i64 0], .int .i64 1]) (by simp [results, Try.results24, go_sem, hc1]) rfl ⟨rfl, ?_⟩
    exact (by repeat' (first | exact Below.refl _ _ | assumption | (with_reducible refine bdrewN ?_ _) | (with_reducible refine bdrew ?_) | (with_reducible refine bset ?_ ?_) | (with_reducible refine balloc0 ?_) | (with_reducible refine balloc ?_ ?_) | (apply btrans0; rotate_left; assumption) | (apply btrans; rotate_left; assumption) | (simp; done) | omega | (simp; omega)))

set_option maxHeartbeats 800000 in
theorem rsub_any (a b c d p q r : Int) (w : World) (a1 : -9223372036854775808 ≤ a) (a2 : a ≤ 9223372036854775807) (b1 : -9223372036854775808 ≤ b) (b2 : b ≤ 9223372036854775807) (c1 : -9223372036854775808 ≤ c) (c2 : c ≤ 9223372036854775807) (d1 : -9223372036854775808 ≤ d) (d2 : d ≤ 9223372036854775807) (hr : opS sub0 (a, b) (c, d) = ((p, q), r)) :
    Calls Try.prog 25 #[.agg #[.int .i64 a, .int .i64 b], .agg #[.int .i64 c, .int .i64 d]] w fun e w' => e = .returned (.tuple #[.agg #[.int .i64 p, .int .i64 q], .int .i64 r]) ∧ Below w.heap.size w w' := by
  by_cases k : chk (a, b) = 0 ∧ chk (c, d) = 0
  · have hr' := opS_good hr k.1 k.2
    obtain ⟨x1, x2, x3, x4⟩ := chk_bd k.1
    obtain ⟨y1, y2, y3, y4⟩ := chk_bd k.2
    obtain ⟨m1, m2⟩ := mul_bd a d x1 x2 y3 y4
    obtain ⟨m3, m4⟩ := mul_bd c b y1 y2 x3 x4
    obtain ⟨m5, m6⟩ := den_bd b d x3 x4 y3 y4
    have hr' : newS (a * d - c * b) (b * d) = ((p, q), r) := hr'
    have hv : decide (chk (a, b) = 0 ∧ chk (c, d) = 0) = true := by simpa using k
    have HV := Lib.hid hv
    have HR := Lib.hid hr'
    clear hv hr' hr k
    go_enter Try.func25, Try.ntmps25
    go_wp2_with fail
    refine (rvalid_any a b c d true _ a1 a2 b1 b2 c1 c2 d1 d2 HV.out).mono ?_
    rintro e w1 ⟨rfl, hb1⟩
    obtain ⟨hc1, hf1⟩ := bcell hb1
    have hz1 := hb1.size
    simp at hz1
    go_wp2_with fail
    refine (rnew_any _ _ p q r _ (by omega) (by omega) (by omega) (by omega) HR.out).mono ?_
    rintro e w2 ⟨rfl, hb2⟩
    obtain ⟨hc2, hf2⟩ := bcell hb2
    have hz2 := hb2.size
    have k2 : w.heap.size + 2 < w2.heap.size := by omega
    have e0 : ∀ o, w2.cell? ⟨w.heap.size + 2, o, none⟩ = w1.cell? ⟨w.heap.size + 2, o, none⟩ := fun o => by rw [hc2 _ _ (by omega)]
    have e1 : ∀ o, w2.frozen? ⟨w.heap.size + 2, o, none⟩ = w1.frozen? ⟨w.heap.size + 2, o, none⟩ := fun o => by rw [hf2 _ _ (by omega)]
    clear hc2 hf2
    go_wp2
    refine bodyPost_ret (v := .tuple #[.agg #[.int .i64 p, .int .i64 q], .int .i64 r]) (by simp [results, Try.results25, go_sem, e0, hc1, k2]) rfl ⟨rfl, ?_⟩
    exact (by repeat' (first | exact Below.refl _ _ | assumption | (with_reducible refine bdrewN ?_ _) | (with_reducible refine bdrew ?_) | (with_reducible refine bset ?_ ?_) | (with_reducible refine balloc0 ?_) | (with_reducible refine balloc ?_ ?_) | (apply btrans0; rotate_left; assumption) | (apply btrans; rotate_left; assumption) | (simp; done) | omega | (simp; omega)))
  · obtain ⟨rfl, rfl, rfl⟩ := opS_bad hr k
    have hv : decide (chk (a, b) = 0 ∧ chk (c, d) = 0) = false := by simpa using k
    have HV := Lib.hid hv
    clear hv hr k
    go_enter Try.func25, Try.ntmps25
    go_wp2_with fail
    refine (rvalid_any a b c d false _ a1 a2 b1 b2 c1 c2 d1 d2 HV.out).mono ?_
    rintro e w1 ⟨rfl, hb1⟩
    obtain ⟨hc1, hf1⟩ := bcell hb1
    have hz1 := hb1.size
    simp at hz1
    go_wp2
    refine bodyPost_ret (v := .tuple #[.agg #[.int .i64 0, .int .i64 0], .int .i64 1]) (by simp [results, Try.results25, go_sem, hc1]) rfl ⟨rfl, ?_⟩
    exact (by repeat' (first | exact Below.refl _ _ | assumption | (with_reducible refine bdrewN ?_ _) | (with_reducible refine bdrew ?_) | (with_reducible refine bset ?_ ?_) | (with_reducible refine balloc0 ?_) | (with_reducible refine balloc ?_ ?_) | (apply btrans0; rotate_left; assumption) | (apply btrans; rotate_left; assumption) | (simp; done) | omega | (simp; omega)))

def rdiv0 (a b : R2) : R2 × Int := newS (a.1 * b.2) (a.2 * b.1)
set_option maxHeartbeats 800000 in
theorem rdiv_any (a b c d p q r : Int) (w : World) (a1 : -9223372036854775808 ≤ a) (a2 : a ≤ 9223372036854775807) (b1 : -9223372036854775808 ≤ b) (b2 : b ≤ 9223372036854775807) (c1 : -9223372036854775808 ≤ c) (c2 : c ≤ 9223372036854775807) (d1 : -9223372036854775808 ≤ d) (d2 : d ≤ 9223372036854775807) (hr : opS rdiv0 (a, b) (c, d) = ((p, q), r)) :
    Calls Try.prog 28 #[.agg #[.int .i64 a, .int .i64 b], .agg #[.int .i64 c, .int .i64 d]] w fun e w' => e = .returned (.tuple #[.agg #[.int .i64 p, .int .i64 q], .int .i64 r]) ∧ Below w.heap.size w w' := by
  by_cases k : chk (a, b) = 0 ∧ chk (c, d) = 0
  · have hr' := opS_good hr k.1 k.2
    obtain ⟨x1, x2, x3, x4⟩ := chk_bd k.1
    obtain ⟨y1, y2, y3, y4⟩ := chk_bd k.2
    obtain ⟨m1, m2⟩ := mul_bd a d x1 x2 y3 y4
    obtain ⟨m3, m4⟩ := mul_bd c b y1 y2 x3 x4
    rw [Int.mul_comm] at m3 m4
    have hr' : newS (a * d) (b * c) = ((p, q), r) := hr'
    have hv : decide (chk (a, b) = 0 ∧ chk (c, d) = 0) = true := by simpa using k
    have HV := Lib.hid hv
    have HR := Lib.hid hr'
    clear hv hr' hr k
    go_enter Try.func28, Try.ntmps28
    go_wp2_with fail
    refine (rvalid_any a b c d true _ a1 a2 b1 b2 c1 c2 d1 d2 HV.out).mono ?_
    rintro e w1 ⟨rfl, hb1⟩
    obtain ⟨hc1, hf1⟩ := bcell hb1
    have hz1 := hb1.size
    simp at hz1
    go_wp2_with fail
    refine (rnew_any _ _ p q r _ (by omega) (by omega) (by omega) (by omega) HR.out).mono ?_
    rintro e w2 ⟨rfl, hb2⟩
    obtain ⟨hc2, hf2⟩ := bcell hb2
    have hz2 := hb2.size
    have k2 : w.heap.size + 2 < w2.heap.size := by omega
    have e0 : ∀ o, w2.cell? ⟨w.heap.size + 2, o, none⟩ = w1.cell? ⟨w.heap.size + 2, o, none⟩ := fun o => by rw [hc2 _ _ (by omega)]
    have e1 : ∀ o, w2.frozen? ⟨w.heap.size + 2, o, none⟩ = w1.frozen? ⟨w.heap.size + 2, o, none⟩ := fun o => by rw [hf2 _ _ (by omega)]
    clear hc2 hf2
    go_wp2
    refine bodyPost_ret (v := .tuple #[.agg #[.int .i64 p, .int .i64 q], .int .i64 r]) (by simp [results, Try.results28, go_sem, e0, hc1, k2]) rfl ⟨rfl, ?_⟩
    exact (by repeat' (first | exact Below.refl _ _ | assumption | (with_reducible refine bdrewN ?_ _) | (with_reducible refine bdrew ?_) | (with_reducible refine bset ?_ ?_) | (with_reducible refine balloc0 ?_) | (with_reducible refine balloc ?_ ?_) | (apply btrans0; rotate_left; assumption) | (apply btrans; rotate_left; assumption) | (simp; done) | omega | (simp; omega)))
  · obtain ⟨rfl, rfl, rfl⟩ := opS_bad hr k
    have hv : decide (chk (a, b) = 0 ∧ chk (c, d) = 0) = false := by simpa using k
    have HV := Lib.hid hv
    clear hv hr k
    go_enter Try.func28, Try.ntmps28
    go_wp2_with fail
    refine (rvalid_any a b c d false _ a1 a2 b1 b2 c1 c2 d1 d2 HV.out).mono ?_
    rintro e w1 ⟨rfl, hb1⟩
    obtain ⟨hc1, hf1⟩ := bcell hb1
    have hz1 := hb1.size
    simp at hz1
    go_wp2
    refine bodyPost_ret (v := .tuple #[.agg #[.int .i64 0, .int .i64 0], .int .i64 1]) (by simp [results, Try.results28, go_sem, hc1]) rfl ⟨rfl, ?_⟩
    exact (by repeat' (first | exact Below.refl _ _ | assumption | (with_reducible refine bdrewN ?_ _) | (with_reducible refine bdrew ?_) | (with_reducible refine bset ?_ ?_) | (with_reducible refine balloc0 ?_) | (with_reducible refine balloc ?_ ?_) | (apply btrans0; rotate_left; assumption) | (apply btrans; rotate_left; assumption) | (simp; done) | omega | (simp; omega)))

end Go.Proofs.Ytfkdhcfedjbkfaa
