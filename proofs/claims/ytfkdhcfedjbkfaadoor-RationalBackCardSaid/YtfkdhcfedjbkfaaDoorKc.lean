/- Joined by port.py: XWd XWe XWf XWg XWh XWi XWj -/
import Derived.Test.YtfkdhcfedjbkfaaDoorKb
import Derived.Deep.DrawnRows
import Derived.Test.YtfkdhcfedjbkfaaDoorKa
set_option linter.unusedVariables false
set_option linter.unusedSimpArgs false
/-! XWd -/
namespace Go.Proofs.YtfkdhcfedjbkfaaDoor
open Go.RowKit
def prodS (neg : Bool) (a b c d : Nat) : R2 × Int :=
  if a = 0 ∨ c = 0 then ((0, 1), 0)
  else if a / Nat.gcd a d > 1099511627776 / (c / Nat.gcd c b) ∨ b / Nat.gcd c b > 1048576 / (d / Nat.gcd a d) then ((0, 0), 5)
  else lowS neg (a / Nat.gcd a d * (c / Nat.gcd c b)) (b / Nat.gcd c b * (d / Nat.gcd a d))
def mul0 (a b : R2) : R2 × Int := prodS (!(decide (a.1 < 0) == decide (b.1 < 0))) a.1.natAbs a.2.natAbs b.1.natAbs b.2.natAbs
def div0 (a b : R2) : R2 × Int := if b.1 = 0 then ((0, 0), 21) else prodS (!(decide (a.1 < 0) == decide (b.1 < 0))) a.1.natAbs a.2.natAbs b.2.natAbs b.1.natAbs
end Go.Proofs.YtfkdhcfedjbkfaaDoor
/-! XWe -/
namespace Go.Proofs.YtfkdhcfedjbkfaaDoor
open Go.RowKit
theorem mul_bd (a d : Int) (a1 : -1099511627776 ≤ a) (a2 : a ≤ 1099511627776) (d1 : 1 ≤ d) (d2 : d ≤ 1048576) : -1152921504606846976 ≤ a * d ∧ a * d ≤ 1152921504606846976 := by
  constructor
  · have h1 : -1099511627776 * d ≤ a * d := Int.mul_le_mul_of_nonneg_right a1 (by omega)
    omega
  · have h1 : a * d ≤ 1099511627776 * d := Int.mul_le_mul_of_nonneg_right a2 (by omega)
    omega
theorem den_bd (b d : Int) (b1 : 1 ≤ b) (b2 : b ≤ 1048576) (d1 : 1 ≤ d) (d2 : d ≤ 1048576) : 1 ≤ b * d ∧ b * d ≤ 1099511627776 := by
  constructor
  · have h1 : 1 * d ≤ b * d := Int.mul_le_mul_of_nonneg_right b1 (by omega)
    omega
  · have h1 : b * d ≤ 1048576 * d := Int.mul_le_mul_of_nonneg_right b2 (by omega)
    omega
set_option maxHeartbeats 400000 in
theorem addc_any (x y : Nat) (a b c d p q r : Int) (w : World) (hx0 : w.cell? ⟨x, 0, none⟩ = some (.int .i64 a)) (hx1 : w.cell? ⟨x, 1, none⟩ = some (.int .i64 b))
    (hy0 : w.cell? ⟨y, 0, none⟩ = some (.int .i64 c)) (hy1 : w.cell? ⟨y, 1, none⟩ = some (.int .i64 d))
    (a1 : -1099511627776 ≤ a) (a2 : a ≤ 1099511627776) (b1 : 1 ≤ b) (b2 : b ≤ 1048576) (c1 : -1099511627776 ≤ c) (c2 : c ≤ 1099511627776) (d1 : 1 ≤ d) (d2 : d ≤ 1048576)
    (hr : newS (a * d + c * b) (b * d) = ((p, q), r)) :
    Calls Tryd.prog 23 #[.pointer (some ⟨x, 0, none⟩), .pointer (some ⟨y, 0, none⟩)] w fun e w' => e = .returned (.tuple #[.agg #[.int .i64 p, .int .i64 q], .int .i64 r]) ∧ Below w.heap.size w w' := by
  have lx := World.block_lt_of_cell? w _ hx0
  have ly := World.block_lt_of_cell? w _ hy0
  simp only at lx ly
  obtain ⟨m1, m2⟩ := mul_bd a d a1 a2 d1 d2
  obtain ⟨m3, m4⟩ := mul_bd c b c1 c2 b1 b2
  obtain ⟨m5, m6⟩ := den_bd b d b1 b2 d1 d2
  have HR := Lib.hid hr
  clear hr
  go_enter Tryd.func23, Tryd.ntmps23
  go_wp2_with fail
  refine (new_any _ _ p q r _ (by omega) (by omega) (by omega) (by omega) HR.out).mono ?_
  rintro e w1 ⟨rfl, hb⟩
  obtain ⟨hc1, hf1⟩ := bcell hb
  have hz := hb.size
  simp at hz
  go_wp2
  refine bodyPost_ret (v := .tuple #[.agg #[.int .i64 p, .int .i64 q], .int .i64 r]) (by simp [results, Tryd.results23, go_sem, hc1]) rfl ⟨rfl, ?_⟩
  exact (by repeat' (first | (with_reducible refine bset ?_ ?_) | (with_reducible exact Below.refl _ _) | (with_reducible assumption) | (with_reducible refine bdrewN ?_ _) | (with_reducible refine bdrew ?_) | (with_reducible refine balloc0 ?_) | (with_reducible refine balloc ?_ ?_) | (with_reducible apply btrans0; rotate_left; with_reducible assumption) | (with_reducible apply btrans; rotate_left; with_reducible assumption) | exact Below.refl _ _ | assumption | (apply btrans0; rotate_left; assumption) | (apply btrans; rotate_left; assumption) | (simp; done) | omega | (simp; omega)))
end Go.Proofs.YtfkdhcfedjbkfaaDoor
/-! XWf -/
namespace Go.Proofs.YtfkdhcfedjbkfaaDoor
open Go.RowKit
def opS (f : R2 → R2 → R2 × Int) (a b : R2) : R2 × Int := if chk a = 0 ∧ chk b = 0 then f a b else ((0, 0), 1)
def add0 (a b : R2) : R2 × Int := newS (a.1 * b.2 + b.1 * a.2) (a.2 * b.2)
def sub0 (a b : R2) : R2 × Int := newS (a.1 * b.2 - b.1 * a.2) (a.2 * b.2)
set_option maxHeartbeats 800000 in
theorem binary_any (g : FuncId) (caps : Array Value) (a b c d p q r : Int) (w : World) (a1 : -9223372036854775808 ≤ a) (a2 : a ≤ 9223372036854775807) (b1 : -9223372036854775808 ≤ b) (b2 : b ≤ 9223372036854775807) (c1 : -9223372036854775808 ≤ c) (c2 : c ≤ 9223372036854775807) (d1 : -9223372036854775808 ≤ d) (d2 : d ≤ 9223372036854775807)
    (hcall : ∀ W, (callFunc g caps).run Tryd.prog W = .ok (.enter g caps) W)
    (hbad : ¬ (chk (a, b) = 0 ∧ chk (c, d) = 0) → p = 0 ∧ q = 0 ∧ r = 1)
    (hgood : chk (a, b) = 0 → chk (c, d) = 0 → ∀ W, Below w.heap.size w W → Calls Tryd.prog g caps W fun e w' => e = .returned (.tuple #[.agg #[.int .i64 p, .int .i64 q], .int .i64 r]) ∧ Below W.heap.size W w') :
    Calls Tryd.prog 22 #[.agg #[.int .i64 a, .int .i64 b], .agg #[.int .i64 c, .int .i64 d], .func (.func g) #[] caps] w fun e w' => e = .returned (.tuple #[.agg #[.int .i64 p, .int .i64 q], .int .i64 r]) ∧ Below w.heap.size w w' := by
  have HG : Hid (chk (a, b) = 0 → chk (c, d) = 0 → ∀ W, Below w.heap.size w W → Calls Tryd.prog g caps W fun e w' => e = .returned (.tuple #[.agg #[.int .i64 p, .int .i64 q], .int .i64 r]) ∧ Below W.heap.size W w') := Lib.hid hgood
  clear hgood
  have HB := Lib.hid hbad
  clear hbad
  by_cases h1 : chk (a, b) = 0
  · by_cases h2 : chk (c, d) = 0
    · have H1 := Lib.hid h1
      have H2 := Lib.hid h2
      clear h1 h2
      go_enter Tryd.func22, Tryd.ntmps22
      go_wp2_with fail
      refine (check_any a b 0 _ a1 a2 b1 b2 H1.out).mono ?_
      rintro e w1 ⟨rfl, hb1⟩
      obtain ⟨hc1, hf1⟩ := bcell hb1
      have hz1 := hb1.size
      simp at hz1
      go_wp2_with fail
      refine (check_any c d 0 _ c1 c2 d1 d2 H2.out).mono ?_
      rintro e w2 ⟨rfl, hb2⟩
      obtain ⟨hc2, hf2⟩ := bcell hb2
      have hz2 := hb2.size
      go_wp2_with fail
      have hB : Below w.heap.size w w2 := (by repeat' (first | (with_reducible refine bset ?_ ?_) | (with_reducible exact Below.refl _ _) | (with_reducible assumption) | (with_reducible refine bdrewN ?_ _) | (with_reducible refine bdrew ?_) | (with_reducible refine balloc0 ?_) | (with_reducible refine balloc ?_ ?_) | (with_reducible apply btrans0; rotate_left; with_reducible assumption) | (with_reducible apply btrans; rotate_left; with_reducible assumption) | exact Below.refl _ _ | assumption | (apply btrans0; rotate_left; assumption) | (apply btrans; rotate_left; assumption) | (simp; done) | omega | (simp; omega)))
      refine (HG.out H1.out H2.out _ hB).mono ?_
      rintro e w3 ⟨rfl, hb3⟩
      obtain ⟨hc3, hf3⟩ := bcell hb3
      have hz3 := hb3.size
      have k1 : w.heap.size + 3 ≤ w2.heap.size := by omega
      have k2 : w.heap.size + 3 ≤ w3.heap.size := by omega
      clear hz1 hz2 hz3
      have e0 : ∀ o, w3.cell? ⟨w.heap.size + 2, o, none⟩ = w1.cell? ⟨w.heap.size + 2, o, none⟩ := fun o => by rw [hc3 _ _ (by omega), hc2 _ _ (by have := hb1.size; simp at this; omega)]
      have e1 : ∀ o, w3.frozen? ⟨w.heap.size + 2, o, none⟩ = w1.frozen? ⟨w.heap.size + 2, o, none⟩ := fun o => by rw [hf3 _ _ (by omega), hf2 _ _ (by have := hb1.size; simp at this; omega)]
      clear hc2 hc3 hf2 hf3
      go_wp2
      refine bodyPost_ret (v := .tuple #[.agg #[.int .i64 p, .int .i64 q], .int .i64 r]) (by simp [results, Tryd.results22, go_sem, e0, hc1]) rfl ⟨rfl, ?_⟩
      exact (by repeat' (first | (with_reducible refine bset ?_ ?_) | (with_reducible exact Below.refl _ _) | (with_reducible assumption) | (with_reducible refine bdrewN ?_ _) | (with_reducible refine bdrew ?_) | (with_reducible refine balloc0 ?_) | (with_reducible refine balloc ?_ ?_) | (with_reducible apply btrans0; rotate_left; with_reducible assumption) | (with_reducible apply btrans; rotate_left; with_reducible assumption) | exact Below.refl _ _ | assumption | (apply btrans0; rotate_left; assumption) | (apply btrans; rotate_left; assumption) | (simp; done) | omega | (simp; omega)))
    · obtain ⟨rfl, rfl, rfl⟩ := HB.out (fun h => h2 h.2)
      clear HB HG
      obtain ⟨k, hk⟩ : ∃ k, chk (c, d) = k := ⟨_, rfl⟩
      rw [hk] at h2
      have hk1 : (k != 0) = true := by simpa using h2
      have H1 := Lib.hid h1
      have H2 := Lib.hid hk
      clear h1 hk
      go_enter Tryd.func22, Tryd.ntmps22
      go_wp2_with fail
      refine (check_any a b 0 _ a1 a2 b1 b2 H1.out).mono ?_
      rintro e w1 ⟨rfl, hb1⟩
      obtain ⟨hc1, hf1⟩ := bcell hb1
      have hz1 := hb1.size
      simp at hz1
      go_wp2_with fail
      refine (check_any c d k _ c1 c2 d1 d2 H2.out).mono ?_
      rintro e w2 ⟨rfl, hb2⟩
      obtain ⟨hc2, hf2⟩ := bcell hb2
      have hz2 := hb2.size
      have e0 : ∀ o, w2.cell? ⟨w.heap.size + 2, o, none⟩ = w1.cell? ⟨w.heap.size + 2, o, none⟩ := fun o => by rw [hc2 _ _ (by omega)]
      have e1 : ∀ o, w2.frozen? ⟨w.heap.size + 2, o, none⟩ = w1.frozen? ⟨w.heap.size + 2, o, none⟩ := fun o => by rw [hf2 _ _ (by omega)]
      clear hc2 hf2
      go_wp2
      refine bodyPost_ret (v := .tuple #[.agg #[.int .i64 0, .int .i64 0], .int .i64 1]) (by simp [results, Tryd.results22, go_sem, e0, hc1]) rfl ⟨rfl, ?_⟩
      exact (by repeat' (first | (with_reducible refine bset ?_ ?_) | (with_reducible exact Below.refl _ _) | (with_reducible assumption) | (with_reducible refine bdrewN ?_ _) | (with_reducible refine bdrew ?_) | (with_reducible refine balloc0 ?_) | (with_reducible refine balloc ?_ ?_) | (with_reducible apply btrans0; rotate_left; with_reducible assumption) | (with_reducible apply btrans; rotate_left; with_reducible assumption) | exact Below.refl _ _ | assumption | (apply btrans0; rotate_left; assumption) | (apply btrans; rotate_left; assumption) | (simp; done) | omega | (simp; omega)))
  · obtain ⟨rfl, rfl, rfl⟩ := HB.out (fun h => h1 h.1)
    clear HB HG
    obtain ⟨k, hk⟩ : ∃ k, chk (a, b) = k := ⟨_, rfl⟩
    rw [hk] at h1
    have hk1 : (k != 0) = true := by simpa using h1
    have H1 := Lib.hid hk
    clear hk
    go_enter Tryd.func22, Tryd.ntmps22
    go_wp2_with fail
    refine (check_any a b k _ a1 a2 b1 b2 H1.out).mono ?_
    rintro e w1 ⟨rfl, hb1⟩
    obtain ⟨hc1, hf1⟩ := bcell hb1
    have hz1 := hb1.size
    simp at hz1
    go_wp2
    refine bodyPost_ret (v := .tuple #[.agg #[.int .i64 0, .int .i64 0], .int .i64 1]) (by simp [results, Tryd.results22, go_sem, hc1]) rfl ⟨rfl, ?_⟩
    exact (by repeat' (first | (with_reducible refine bset ?_ ?_) | (with_reducible exact Below.refl _ _) | (with_reducible assumption) | (with_reducible refine bdrewN ?_ _) | (with_reducible refine bdrew ?_) | (with_reducible refine balloc0 ?_) | (with_reducible refine balloc ?_ ?_) | (with_reducible apply btrans0; rotate_left; with_reducible assumption) | (with_reducible apply btrans; rotate_left; with_reducible assumption) | exact Below.refl _ _ | assumption | (apply btrans0; rotate_left; assumption) | (apply btrans; rotate_left; assumption) | (simp; done) | omega | (simp; omega)))
theorem opS_bad {f : R2 → R2 → R2 × Int} {a b : R2} {p q r : Int} (h : opS f a b = ((p, q), r)) : ¬ (chk a = 0 ∧ chk b = 0) → p = 0 ∧ q = 0 ∧ r = 1 := fun hn => by
  unfold opS at h; rw [if_neg hn] at h
  simp only [Prod.mk.injEq] at h
  omega
theorem opS_good {f : R2 → R2 → R2 × Int} {a b : R2} {x : R2 × Int} (h : opS f a b = x) (h1 : chk a = 0) (h2 : chk b = 0) : f a b = x := by
  unfold opS at h; rwa [if_pos ⟨h1, h2⟩] at h
theorem chk_bd {a b : Int} (h : chk (a, b) = 0) : -1099511627776 ≤ a ∧ a ≤ 1099511627776 ∧ 1 ≤ b ∧ b ≤ 1048576 := by
  unfold chk at h
  split at h
  · omega
  · rename_i h1; simp only at h1; omega
set_option maxHeartbeats 800000 in
theorem add_any (a b c d p q r : Int) (w : World) (a1 : -9223372036854775808 ≤ a) (a2 : a ≤ 9223372036854775807) (b1 : -9223372036854775808 ≤ b) (b2 : b ≤ 9223372036854775807) (c1 : -9223372036854775808 ≤ c) (c2 : c ≤ 9223372036854775807) (d1 : -9223372036854775808 ≤ d) (d2 : d ≤ 9223372036854775807) (hr : opS add0 (a, b) (c, d) = ((p, q), r)) :
    Calls Tryd.prog 11 #[.agg #[.int .i64 a, .int .i64 b], .agg #[.int .i64 c, .int .i64 d]] w fun e w' => e = .returned (.tuple #[.agg #[.int .i64 p, .int .i64 q], .int .i64 r]) ∧ Below w.heap.size w w' := by
  have HR := Lib.hid hr
  clear hr
  have hcall : ∀ caps W, (callFunc 23 caps).run Tryd.prog W = .ok (.enter 23 caps) W := fun _ _ => by kernel_rfl
  go_enter Tryd.func11, Tryd.ntmps11
  go_wp2_with fail
  refine (binary_any _ _ a b c d p q r _ a1 a2 b1 b2 c1 c2 d1 d2 (hcall _) (opS_bad HR.out) (fun k1 k2 W hW => ?_)).mono ?_
  · obtain ⟨hc1, hf1⟩ := bcell hW
    obtain ⟨x1, x2, x3, x4⟩ := chk_bd k1
    obtain ⟨y1, y2, y3, y4⟩ := chk_bd k2
    have k3 := opS_good HR.out k1 k2
    exact addc_any _ _ a b c d p q r W (by rw [hc1 _ _ (by simp <;> omega)]; go_simp) (by rw [hc1 _ _ (by simp <;> omega)]; go_simp) (by rw [hc1 _ _ (by simp <;> omega)]; go_simp) (by rw [hc1 _ _ (by simp <;> omega)]; go_simp) x1 x2 x3 x4 y1 y2 y3 y4 k3
  rintro e w1 ⟨rfl, hb⟩
  obtain ⟨hc1, hf1⟩ := bcell hb
  have hz := hb.size
  simp at hz
  go_wp2
  refine bodyPost_ret (v := .tuple #[.agg #[.int .i64 p, .int .i64 q], .int .i64 r]) (by simp [results, Tryd.results11, go_sem, hc1]) rfl ⟨rfl, ?_⟩
  exact (by repeat' (first | (with_reducible refine bset ?_ ?_) | (with_reducible exact Below.refl _ _) | (with_reducible assumption) | (with_reducible refine bdrewN ?_ _) | (with_reducible refine bdrew ?_) | (with_reducible refine balloc0 ?_) | (with_reducible refine balloc ?_ ?_) | (with_reducible apply btrans0; rotate_left; with_reducible assumption) | (with_reducible apply btrans; rotate_left; with_reducible assumption) | exact Below.refl _ _ | assumption | (apply btrans0; rotate_left; assumption) | (apply btrans; rotate_left; assumption) | (simp; done) | omega | (simp; omega)))
end Go.Proofs.YtfkdhcfedjbkfaaDoor
/-! XWg -/
namespace Go.Proofs.YtfkdhcfedjbkfaaDoor
open Go.RowKit
def rdiv0 (a b : R2) : R2 × Int := newS (a.1 * b.2) (a.2 * b.1)
end Go.Proofs.YtfkdhcfedjbkfaaDoor
/-! XWh -/
namespace Go.Proofs.YtfkdhcfedjbkfaaDoor
open Go.RowKit
def cmpS (a b : R2) : Int := if chk a = 0 ∧ chk b = 0 then (if a.1 * b.2 < b.1 * a.2 then -1 else if b.1 * a.2 < a.1 * b.2 then 1 else 0) else 0
def floorS (r : R2) : Int := if chk r = 0 then r.1 / r.2 else 0
def ceilS (r : R2) : Int := if chk r = 0 then -((-r.1) / r.2) else 0
theorem td_neg (a b : Int) (ha : a < 0) (hb : 1 ≤ b) : ∃ q m, a.tdiv b = q ∧ a.tmod b = m ∧ m ≤ 0 ∧ -b < m ∧ a / b = (if m = 0 then q else q - 1) ∧ (-a) / b = -q ∧ -a ≥ -q ∧ -q ≥ 0 := by
  refine ⟨_, _, rfl, rfl, ?_, ?_, ?_, ?_, ?_, ?_⟩
  · have h1 : 0 ≤ (-a).tmod b := Int.tmod_nonneg b (by omega)
    rw [Int.neg_tmod] at h1; omega
  · have h1 : (-a).tmod b < b := Int.tmod_lt_of_pos _ (by omega)
    rw [Int.neg_tmod] at h1; omega
  · have h0 := Int.mul_tdiv_add_tmod a b
    have h1 : 0 ≤ (-a).tmod b := Int.tmod_nonneg b (by omega)
    rw [Int.neg_tmod] at h1
    have h2 : (-a).tmod b < b := Int.tmod_lt_of_pos _ (by omega)
    rw [Int.neg_tmod] at h2
    split
    · rename_i h3
      rw [h3] at h0
      have : a = b * a.tdiv b := by omega
      rw [this, Int.mul_ediv_cancel_left _ (by omega)]
      rw [← this]
    · rename_i h3
      have e : a = (b + a.tmod b) + b * (a.tdiv b - 1) := by rw [Int.mul_sub]; omega
      rw [e, Int.add_mul_ediv_left _ _ (by omega), Int.ediv_eq_zero_of_lt (by omega) (by omega), ← e]
      omega
  · rw [← Int.tdiv_eq_ediv_of_nonneg (by omega), Int.neg_tdiv]
  · have : (-a).tdiv b ≤ -a := by
      rw [Int.tdiv_eq_ediv_of_nonneg (by omega)]
      exact Int.ediv_le_self _ (by omega)
    rw [Int.neg_tdiv] at this; omega
  · have : 0 ≤ (-a).tdiv b := Int.tdiv_nonneg (by omega) (by omega)
    rw [Int.neg_tdiv] at this; omega
theorem td_pos (a b : Int) (ha : 0 ≤ a) (hb : 1 ≤ b) : ∃ q m, a / b = q ∧ a % b = m ∧ 0 ≤ m ∧ m < b ∧ -((-a) / b) = (if m = 0 then q else q + 1) ∧ q ≤ a ∧ 0 ≤ q := by
  refine ⟨_, _, rfl, rfl, Int.emod_nonneg _ (by omega), Int.emod_lt_of_pos _ (by omega), ?_, Int.ediv_le_self _ ha, Int.ediv_nonneg ha (by omega)⟩
  have h0 := Int.mul_ediv_add_emod a b
  have h1 := Int.emod_nonneg a (show b ≠ 0 by omega)
  have h2 := Int.emod_lt_of_pos a (show 0 < b by omega)
  split
  · rename_i h3
    have e : -a = b * (-(a / b)) := by rw [Int.mul_neg]; omega
    rw [e, Int.mul_ediv_cancel_left _ (by omega)]; omega
  · rename_i h3
    have e : -a = (b - a % b) + b * (-(a / b) - 1) := by rw [Int.mul_sub, Int.mul_neg]; omega
    rw [e, Int.add_mul_ediv_left _ _ (by omega), Int.ediv_eq_zero_of_lt (by omega) (by omega)]
    omega
set_option maxHeartbeats 800000 in
theorem floor_any (a b r : Int) (w : World) (a1 : -9223372036854775808 ≤ a) (a2 : a ≤ 9223372036854775807) (b1 : -9223372036854775808 ≤ b) (b2 : b ≤ 9223372036854775807) (hr : floorS (a, b) = r) :
    Calls Tryd.prog 13 #[.agg #[.int .i64 a, .int .i64 b]] w fun e w' => e = .returned (.int .i64 r) ∧ Below w.heap.size w w' := by
  unfold floorS at hr
  by_cases k : chk (a, b) = 0
  · obtain ⟨x1, x2, x3, x4⟩ := chk_bd k
    rw [if_pos k] at hr
    simp only at hr
    have H1 := Lib.hid k
    clear k
    by_cases s : a < 0
    · obtain ⟨q, m, e1, e2, e3, e4, e5, _, e6, e7⟩ := td_neg a b s x3
      rw [e5] at hr
      have HR := Lib.hid hr
      clear hr e5
      by_cases z : m = 0
      · have e8 : (m != 0) = false := by simpa using z
        have e9 : ¬ m < 0 := by omega
        go_enter Tryd.func13, Tryd.ntmps13
        go_wp2_with fail
        refine (check_any a b 0 _ a1 a2 b1 b2 H1.out).mono ?_
        rintro e w1 ⟨rfl, hb1⟩
        obtain ⟨hc1, hf1⟩ := bcell hb1
        have hz1 := hb1.size
        simp at hz1
        go_wp2
        go_ret
        exact ⟨ret_int (by rw [← HR.out, if_pos z] <;> exact e1), (by repeat' (first | (with_reducible refine bset ?_ ?_) | (with_reducible exact Below.refl _ _) | (with_reducible assumption) | (with_reducible refine bdrewN ?_ _) | (with_reducible refine bdrew ?_) | (with_reducible refine balloc0 ?_) | (with_reducible refine balloc ?_ ?_) | (with_reducible apply btrans0; rotate_left; with_reducible assumption) | (with_reducible apply btrans; rotate_left; with_reducible assumption) | exact Below.refl _ _ | assumption | (apply btrans0; rotate_left; assumption) | (apply btrans; rotate_left; assumption) | (simp; done) | omega | (simp; omega)))⟩
      · have e8 : (m != 0) = true := by simpa using z
        have e9 : m < 0 := by omega
        go_enter Tryd.func13, Tryd.ntmps13
        go_wp2_with fail
        refine (check_any a b 0 _ a1 a2 b1 b2 H1.out).mono ?_
        rintro e w1 ⟨rfl, hb1⟩
        obtain ⟨hc1, hf1⟩ := bcell hb1
        have hz1 := hb1.size
        simp at hz1
        go_wp2
        go_ret
        exact ⟨ret_int (by rw [← HR.out, if_neg z] <;> omega), (by repeat' (first | (with_reducible refine bset ?_ ?_) | (with_reducible exact Below.refl _ _) | (with_reducible assumption) | (with_reducible refine bdrewN ?_ _) | (with_reducible refine bdrew ?_) | (with_reducible refine balloc0 ?_) | (with_reducible refine balloc ?_ ?_) | (with_reducible apply btrans0; rotate_left; with_reducible assumption) | (with_reducible apply btrans; rotate_left; with_reducible assumption) | exact Below.refl _ _ | assumption | (apply btrans0; rotate_left; assumption) | (apply btrans; rotate_left; assumption) | (simp; done) | omega | (simp; omega)))⟩
    · obtain ⟨q, m, e1, e2, e3, e4, _, e6, e7⟩ := td_pos a b (by omega) x3
      rw [e1] at hr
      have HR := Lib.hid hr
      clear hr
      have s' : 0 ≤ a := by omega
      have e9 : ¬ m < 0 := by omega
      go_enter Tryd.func13, Tryd.ntmps13
      go_wp2_with fail
      refine (check_any a b 0 _ a1 a2 b1 b2 H1.out).mono ?_
      rintro e w1 ⟨rfl, hb1⟩
      obtain ⟨hc1, hf1⟩ := bcell hb1
      have hz1 := hb1.size
      simp at hz1
      go_wp2
      go_ret
      exact ⟨ret_int (by first | exact HR.out | (rw [e1]; exact HR.out)), (by repeat' (first | (with_reducible refine bset ?_ ?_) | (with_reducible exact Below.refl _ _) | (with_reducible assumption) | (with_reducible refine bdrewN ?_ _) | (with_reducible refine bdrew ?_) | (with_reducible refine balloc0 ?_) | (with_reducible refine balloc ?_ ?_) | (with_reducible apply btrans0; rotate_left; with_reducible assumption) | (with_reducible apply btrans; rotate_left; with_reducible assumption) | exact Below.refl _ _ | assumption | (apply btrans0; rotate_left; assumption) | (apply btrans; rotate_left; assumption) | (simp; done) | omega | (simp; omega)))⟩
  · rw [if_neg k] at hr
    subst hr
    obtain ⟨l, hl⟩ : ∃ l, chk (a, b) = l := ⟨_, rfl⟩
    rw [hl] at k
    have z1 : (l != 0) = true := by simpa using k
    have H1 := Lib.hid hl
    clear hl
    go_enter Tryd.func13, Tryd.ntmps13
    go_wp2_with fail
    refine (check_any a b l _ a1 a2 b1 b2 H1.out).mono ?_
    rintro e w0 ⟨rfl, hb0⟩
    go_wp2
    go_ret
    exact ⟨rfl, (by repeat' (first | (with_reducible refine bset ?_ ?_) | (with_reducible exact Below.refl _ _) | (with_reducible assumption) | (with_reducible refine bdrewN ?_ _) | (with_reducible refine bdrew ?_) | (with_reducible refine balloc0 ?_) | (with_reducible refine balloc ?_ ?_) | (with_reducible apply btrans0; rotate_left; with_reducible assumption) | (with_reducible apply btrans; rotate_left; with_reducible assumption) | exact Below.refl _ _ | assumption | (apply btrans0; rotate_left; assumption) | (apply btrans; rotate_left; assumption) | (simp; done) | omega | (simp; omega)))⟩
set_option maxHeartbeats 800000 in
theorem ceil_any (a b r : Int) (w : World) (a1 : -9223372036854775808 ≤ a) (a2 : a ≤ 9223372036854775807) (b1 : -9223372036854775808 ≤ b) (b2 : b ≤ 9223372036854775807) (hr : ceilS (a, b) = r) :
    Calls Tryd.prog 14 #[.agg #[.int .i64 a, .int .i64 b]] w fun e w' => e = .returned (.int .i64 r) ∧ Below w.heap.size w w' := by
  unfold ceilS at hr
  by_cases k : chk (a, b) = 0
  · obtain ⟨x1, x2, x3, x4⟩ := chk_bd k
    rw [if_pos k] at hr
    simp only at hr
    have hfl : floorS (-a, b) = -r := by
      unfold floorS
      have : chk (-a, b) = 0 := by
        unfold chk at k ⊢
        simp only [Int.natAbs_neg]
        split at k
        · omega
        · rename_i h1
          simp only at h1
          rw [if_neg (by omega)]
          exact k
      rw [if_pos this]; simp only; omega
    have hrb : -r ≤ 1099511627776 ∧ -1099511627776 ≤ -r := by
      rw [← hr]
      have h1 := Int.ediv_mul_le (-a) (show b ≠ 0 by omega)
      by_cases s : 0 ≤ -a
      · have := Int.ediv_le_self b s
        have := Int.ediv_nonneg s (show 0 ≤ b by omega)
        omega
      · have h2 : (-a) / b < 0 := Int.ediv_neg_of_neg_of_pos (by omega) (by omega)
        have h3 : -a ≤ (-a) / b := by
          rw [Int.le_ediv_iff_mul_le (by omega)]
          have : -a * b ≤ -a * 1 := Int.mul_le_mul_of_nonpos_left (by omega) (by omega)
          omega
        omega
    obtain ⟨hr1, hr2⟩ := hrb
    have H1 := Lib.hid k
    have HR := Lib.hid hfl
    clear hr k hfl
    go_enter Tryd.func14, Tryd.ntmps14
    go_wp2_with fail
    refine (check_any a b 0 _ a1 a2 b1 b2 H1.out).mono ?_
    rintro e w1 ⟨rfl, hb1⟩
    obtain ⟨hc1, hf1⟩ := bcell hb1
    have hz1 := hb1.size
    simp at hz1
    go_wp2_with fail
    refine (floor_any (-a) b (-r) _ (by omega) (by omega) b1 b2 HR.out).mono ?_
    rintro e w2 ⟨rfl, hb2⟩
    go_wp2
    go_ret
    exact ⟨ret_int (by omega), (by repeat' (first | (with_reducible refine bset ?_ ?_) | (with_reducible exact Below.refl _ _) | (with_reducible assumption) | (with_reducible refine bdrewN ?_ _) | (with_reducible refine bdrew ?_) | (with_reducible refine balloc0 ?_) | (with_reducible refine balloc ?_ ?_) | (with_reducible apply btrans0; rotate_left; with_reducible assumption) | (with_reducible apply btrans; rotate_left; with_reducible assumption) | exact Below.refl _ _ | assumption | (apply btrans0; rotate_left; assumption) | (apply btrans; rotate_left; assumption) | (simp; done) | omega | (simp; omega)))⟩
  · rw [if_neg k] at hr
    subst hr
    obtain ⟨l, hl⟩ : ∃ l, chk (a, b) = l := ⟨_, rfl⟩
    rw [hl] at k
    have z1 : (l != 0) = true := by simpa using k
    have H1 := Lib.hid hl
    clear hl
    go_enter Tryd.func14, Tryd.ntmps14
    go_wp2_with fail
    refine (check_any a b l _ a1 a2 b1 b2 H1.out).mono ?_
    rintro e w0 ⟨rfl, hb0⟩
    go_wp2
    go_ret
    exact ⟨rfl, (by repeat' (first | (with_reducible refine bset ?_ ?_) | (with_reducible exact Below.refl _ _) | (with_reducible assumption) | (with_reducible refine bdrewN ?_ _) | (with_reducible refine bdrew ?_) | (with_reducible refine balloc0 ?_) | (with_reducible refine balloc ?_ ?_) | (with_reducible apply btrans0; rotate_left; with_reducible assumption) | (with_reducible apply btrans; rotate_left; with_reducible assumption) | exact Below.refl _ _ | assumption | (apply btrans0; rotate_left; assumption) | (apply btrans; rotate_left; assumption) | (simp; done) | omega | (simp; omega)))⟩
end Go.Proofs.YtfkdhcfedjbkfaaDoor
/-! XWi -/
namespace Go.Proofs.YtfkdhcfedjbkfaaDoor
open Go.RowKit
def rmul0 (a b : R2) : R2 × Int :=
  if a.1 = 0 ∨ b.1 = 0 then ((0, 1), 0)
  else if (a.1.tdiv (Nat.gcd a.1.natAbs b.2.natAbs : Nat)).natAbs > 1099511627776 / (b.1.tdiv (Nat.gcd b.1.natAbs a.2.natAbs : Nat)).natAbs ∨
      a.2.tdiv (Nat.gcd b.1.natAbs a.2.natAbs : Nat) * b.2.tdiv (Nat.gcd a.1.natAbs b.2.natAbs : Nat) > 1048576 then ((0, 0), 5)
  else ((a.1.tdiv (Nat.gcd a.1.natAbs b.2.natAbs : Nat) * b.1.tdiv (Nat.gcd b.1.natAbs a.2.natAbs : Nat), a.2.tdiv (Nat.gcd b.1.natAbs a.2.natAbs : Nat) * b.2.tdiv (Nat.gcd a.1.natAbs b.2.natAbs : Nat)), 0)
end Go.Proofs.YtfkdhcfedjbkfaaDoor
/-! XWj -/
namespace Go.Proofs.YtfkdhcfedjbkfaaDoor
open Go.RowKit
theorem aw1 : opS add0 (1, 2) (1, 3) = ((5, 6), 0) := by decide +kernel
theorem aw2 : newS 6 (-4) = ((-3, 2), 0) := by decide +kernel
theorem aw3 : opS add0 (1099511627776, 1) (1, 2) = ((0, 0), 5) := by decide +kernel
theorem aw4 : floorS (-3, 2) = -2 := by decide +kernel
theorem aw5 : ceilS (-3, 2) = -1 := by decide +kernel
set_option maxHeartbeats 1600000 in
theorem awake_any (w : World) :
    Calls Tryd.prog 5 #[] w fun e w' => e = .returned (.bool true) ∧ Below w.heap.size w w' := by
  go_enter Tryd.func5, Tryd.ntmps5
  go_wp2_with fail
  refine (add_any 1 2 1 3 5 6 0 _ (by omega) (by omega) (by omega) (by omega) (by omega) (by omega) (by omega) (by omega) aw1).mono ?_
  rintro e w1 ⟨rfl, hb1⟩
  have z1 := hb1.size
  go_wp2_with fail
  refine (new_any 6 (-4) (-3) 2 0 _ (by omega) (by omega) (by omega) (by omega) aw2).mono ?_
  rintro e w2 ⟨rfl, hb2⟩
  obtain ⟨c2, f2⟩ := bcell hb2
  have z2 := hb2.size
  simp at z2
  go_wp2_with fail
  refine (add_any 1099511627776 1 1 2 0 0 5 _ (by omega) (by omega) (by omega) (by omega) (by omega) (by omega) (by omega) (by omega) aw3).mono ?_
  rintro e w3 ⟨rfl, hb3⟩
  obtain ⟨c3, f3⟩ := bcell hb3
  have z3 := hb3.size
  simp at z3
  have l12 : w1.heap.size < w2.heap.size := by omega
  have l13 : w1.heap.size < w3.heap.size := by omega
  have l23 : w2.heap.size < w3.heap.size := by omega
  have e10 : ∀ o, w3.cell? ⟨w1.heap.size, o, none⟩ = (w1.alloc (.cells #[.int .i64 5, .int .i64 6] 23)).cell? ⟨w1.heap.size, o, none⟩ := fun o => by
    rw [c3 _ _ (by simp; omega), World.cell?_alloc_lt _ _ _ (by simp; omega), c2 _ _ (by simp)]
  have e20 : ∀ o, w3.cell? ⟨w2.heap.size, o, none⟩ = (w2.alloc (.cells #[.int .i64 (-3), .int .i64 2] 23)).cell? ⟨w2.heap.size, o, none⟩ := fun o => by
    rw [c3 _ _ (by simp)]
  clear c2 c3 f2 f3 z1 z2 z3
  go_wp2_with fail
  refine (floor_any (-3) 2 (-2) _ (by omega) (by omega) (by omega) (by omega) aw4).mono ?_
  rintro e w4 ⟨rfl, hb4⟩
  obtain ⟨c4, f4⟩ := bcell hb4
  have e24 : ∀ o, w4.cell? ⟨w2.heap.size, o, none⟩ = w3.cell? ⟨w2.heap.size, o, none⟩ := fun o => by
    rw [c4 _ _ (by simp; omega), World.cell?_alloc_lt _ _ _ (by simp; omega)]
  clear c4 f4
  go_wp2_with fail
  refine (ceil_any (-3) 2 (-1) _ (by omega) (by omega) (by omega) (by omega) aw5).mono ?_
  rintro e w5 ⟨rfl, hb5⟩
  go_wp2
  go_ret
  exact ⟨rfl, (by repeat' (first | (with_reducible refine bset ?_ ?_) | (with_reducible exact Below.refl _ _) | (with_reducible assumption) | (with_reducible refine bdrewN ?_ _) | (with_reducible refine bdrew ?_) | (with_reducible refine balloc0 ?_) | (with_reducible refine balloc ?_ ?_) | (with_reducible apply btrans0; rotate_left; with_reducible assumption) | (with_reducible apply btrans; rotate_left; with_reducible assumption) | exact Below.refl _ _ | assumption | (apply btrans0; rotate_left; assumption) | (apply btrans; rotate_left; assumption) | (simp; done) | omega | (simp; omega)))⟩
end Go.Proofs.YtfkdhcfedjbkfaaDoor
