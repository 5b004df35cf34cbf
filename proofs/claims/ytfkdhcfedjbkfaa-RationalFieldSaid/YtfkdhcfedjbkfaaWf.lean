/- Walks of layer 4 (rational): binary, Add, Sub, Mul, Div. -/
import Derived.Test.YtfkdhcfedjbkfaaWe
namespace Go.Proofs.Ytfkdhcfedjbkfaa
open Go.RowKit

def opS (f : R2 → R2 → R2 × Int) (a b : R2) : R2 × Int := if chk a = 0 ∧ chk b = 0 then f a b else ((0, 0), 1)
def add0 (a b : R2) : R2 × Int := newS (a.1 * b.2 + b.1 * a.2) (a.2 * b.2)
def sub0 (a b : R2) : R2 × Int := newS (a.1 * b.2 - b.1 * a.2) (a.2 * b.2)

set_option maxHeartbeats 800000 in
theorem binary_any (g : FuncId) (caps : Array Value) (a b c d p q r : Int) (w : World) (a1 : -9223372036854775808 ≤ a) (a2 : a ≤ 9223372036854775807) (b1 : -9223372036854775808 ≤ b) (b2 : b ≤ 9223372036854775807) (c1 : -9223372036854775808 ≤ c) (c2 : c ≤ 9223372036854775807) (d1 : -9223372036854775808 ≤ d) (d2 : d ≤ 9223372036854775807)
    (hcall : ∀ W, (callFunc g caps).run Try.prog W = .ok (.enter g caps) W)
    (hbad : ¬ (chk (a, b) = 0 ∧ chk (c, d) = 0) → p = 0 ∧ q = 0 ∧ r = 1)
    (hgood : chk (a, b) = 0 → chk (c, d) = 0 → ∀ W, Below w.heap.size w W → Calls Try.prog g caps W fun e w' => e = .returned (.tuple #[.agg #[.int .i64 p, .int .i64 q], .int .i64 r]) ∧ Below W.heap.size W w') :
    Calls Try.prog 35 #[.agg #[.int .i64 a, .int .i64 b], .agg #[.int .i64 c, .int .i64 d], .func (.func g) #[] caps] w fun e w' => e = .returned (.tuple #[.agg #[.int .i64 p, .int .i64 q], .int .i64 r]) ∧ Below w.heap.size w w' := by
  have HG : Hid (chk (a, b) = 0 → chk (c, d) = 0 → ∀ W, Below w.heap.size w W → Calls Try.prog g caps W fun e w' => e = .returned (.tuple #[.agg #[.int .i64 p, .int .i64 q], .int .i64 r]) ∧ Below W.heap.size W w') := Lib.hid hgood
  clear hgood
  have HB := Lib.hid hbad
  clear hbad
  by_cases h1 : chk (a, b) = 0
  · by_cases h2 : chk (c, d) = 0
    · have H1 := Lib.hid h1
      have H2 := Lib.hid h2
      clear h1 h2
      go_enter Try.func35, Try.ntmps35
      go_wp2_with fail
      refine (check_any a b 0 _ a1 a2 b1 b2 H1.out).mono ?_
      rintro e w1 ⟨rfl, hb1⟩
      obtain ⟨hc1, hf1⟩ := bcell hb1
      have hz1 := hb1.size
      simp at hz1
      go_wp2_with fail
      refine (check_any c d 0 _ c1 c2 d1 d2 H2.out).mono ?_
      rintro e w2 ⟨rfl, hb2⟩
      obtain ⟨hc2, hf2⟩ := bcell hb2
      have hz2 := hb2.size
      go_wp2_with fail
      have hB : Below w.heap.size w w2 := (by repeat' (first | exact Below.refl _ _ | assumption | (with_reducible refine bdrewN ?_ _) | (with_reducible refine bdrew ?_) | (with_reducible refine bset ?_ ?_) | (with_reducible refine balloc0 ?_) | (with_reducible refine balloc ?_ ?_) | (apply btrans0; rotate_left; assumption) | (apply btrans; rotate_left; assumption) | (simp; done) | omega | (simp; omega)))
      refine (HG.out H1.out H2.out _ hB).mono ?_
      rintro e w3 ⟨rfl, hb3⟩
      obtain ⟨hc3, hf3⟩ := bcell hb3
      have hz3 := hb3.size
      have k1 : w.heap.size + 3 ≤ w2.heap.size := by omega
      have k2 : w.heap.size + 3 ≤ w3.heap.size := by omega
      clear hz1 hz2 hz3
      have e0 : ∀ o, w3.cell? ⟨w.heap.size + 2, o, none⟩ = w1.cell? ⟨w.heap.size + 2, o, none⟩ := fun o => by rw [hc3 _ _ (by omega), hc2 _ _ (by have := hb1.size; simp at this; omega)]
      have e1 : ∀ o, w3.frozen? ⟨w.heap.size + 2, o, none⟩ = w1.frozen? ⟨w.heap.size + 2, o, none⟩ := fun o => by rw [hf3 _ _ (by omega), hf2 _ _ (by have := hb1.size; simp at this; omega)]
      clear hc2 hc3 hf2 hf3
      go_wp2
      refine bodyPost_ret (v := .tuple #[.agg #[.int .i64 p, .int .i64 q], .int .i64 r]) (by simp [results, Try.results35, go_sem, e0, hc1]) rfl ⟨rfl, ?_⟩
      exact (by repeat' (first | exact Below.refl _ _ | assumption | (with_reducible refine bdrewN ?_ _) | (with_reducible refine bdrew ?_) | (with_reducible refine bset ?_ ?_) | (with_reducible refine balloc0 ?_) | (with_reducible refine balloc ?_ ?_) | (apply btrans0; rotate_left; assumption) | (apply btrans; rotate_left; assumption) | (simp; done) | omega | (simp; omega)))
    · obtain ⟨rfl, rfl, rfl⟩ := HB.out (fun h => h2 h.2)
      clear HB HG
      obtain ⟨k, hk⟩ : ∃ k, chk (c, d) = k := ⟨_, rfl⟩
      rw [hk] at h2
      have hk1 : (k != 0) = true := by simpa using h2
      have H1 := Lib.hid h1
      have H2 := Lib.hid hk
      clear h1 hk
      go_enter Try.func35, Try.ntmps35
      go_wp2_with fail
      refine (check_any a b 0 _ a1 a2 b1 b2 H1.out).mono ?_
      rintro e w1 ⟨rfl, hb1⟩
      obtain ⟨hc1, hf1⟩ := bcell hb1
      have hz1 := hb1.size
      simp at hz1
      go_wp2_with fail
      refine (check_any c d k _ c1 c2 d1 d2 H2.out).mono ?_
      rintro e w2 ⟨rfl, hb2⟩
      obtain ⟨hc2, hf2⟩ := bcell hb2
      have hz2 := hb2.size
      have e0 : ∀ o, w2.cell? ⟨w.heap.size + 2, o, none⟩ = w1.cell? ⟨w.heap.size + 2, o, none⟩ := fun o => by rw [hc2 _ _ (by omega)]
      have e1 : ∀ o, w2.frozen? ⟨w.heap.size + 2, o, none⟩ = w1.frozen? ⟨w.heap.size + 2, o, none⟩ := fun o => by rw [hf2 _ _ (by omega)]
      clear hc2 hf2
      go_wp2
      refine bodyPost_ret (v := .tuple #[.agg #[.int .i64 0, .int .i64 0], .int .i64 1]) (by simp [results, Try.results35, go_sem, e0, hc1]) rfl ⟨rfl, ?_⟩
      exact (by repeat' (first | exact Below.refl _ _ | assumption | (with_reducible refine bdrewN ?_ _) | (with_reducible refine bdrew ?_) | (with_reducible refine bset ?_ ?_) | (with_reducible refine balloc0 ?_) | (with_reducible refine balloc ?_ ?_) | (apply btrans0; rotate_left; assumption) | (apply btrans; rotate_left; assumption) | (simp; done) | omega | (simp; omega)))
  · obtain ⟨rfl, rfl, rfl⟩ := HB.out (fun h => h1 h.1)
    clear HB HG
    obtain ⟨k, hk⟩ : ∃ k, chk (a, b) = k := ⟨_, rfl⟩
    rw [hk] at h1
    have hk1 : (k != 0) = true := by simpa using h1
    have H1 := Lib.hid hk
    clear hk
    go_enter Try.func35, Try.ntmps35
    go_wp2_with fail
    refine (check_any a b k _ a1 a2 b1 b2 H1.out).mono ?_
    rintro e w1 ⟨rfl, hb1⟩
    obtain ⟨hc1, hf1⟩ := bcell hb1
    have hz1 := hb1.size
    simp at hz1
    go_wp2
    refine bodyPost_ret (v := .tuple #[.agg #[.int .i64 0, .int .i64 0], .int .i64 1]) (by simp [results, Try.results35, go_sem, hc1]) rfl ⟨rfl, ?_⟩
    exact (by repeat' (first | exact Below.refl _ _ | assumption | (with_reducible refine bdrewN ?_ _) | (with_reducible refine bdrew ?_) | (with_reducible refine bset ?_ ?_) | (with_reducible refine balloc0 ?_) | (with_reducible refine balloc ?_ ?_) | (apply btrans0; rotate_left; assumption) | (apply btrans; rotate_left; assumption) | (simp; done) | omega | (simp; omega)))

theorem opS_bad {f : R2 → R2 → R2 × Int} {a b : R2} {p q r : Int} (h : opS f a b = ((p, q), r)) : ¬ (chk a = 0 ∧ chk b = 0) → p = 0 ∧ q = 0 ∧ r = 1 := fun hn => by
  unfold opS at h; rw [if_neg hn] at h
  simp only [Prod.mk.injEq] at h
  omega
theorem opS_good {f : R2 → R2 → R2 × Int} {a b : R2} {x : R2 × Int} (h : opS f a b = x) (h1 : chk a = 0) (h2 : chk b = 0) : f a b = x := by
  unfold opS at h; rwa [if_pos ⟨h1, h2⟩] at h
theorem chk_bd {a b : Int} (h : chk (a, b) = 0) : -1099511627776 ≤ a ∧ a ≤ 1099511627776 ∧ 1 ≤ b ∧ b ≤ 1048576 := by
  unfold chk at h
  split at h
  · omega
  · rename_i h1; simp only at h1; omega

set_option maxHeartbeats 800000 in
theorem add_any (a b c d p q r : Int) (w : World) (a1 : -9223372036854775808 ≤ a) (a2 : a ≤ 9223372036854775807) (b1 : -9223372036854775808 ≤ b) (b2 : b ≤ 9223372036854775807) (c1 : -9223372036854775808 ≤ c) (c2 : c ≤ 9223372036854775807) (d1 : -9223372036854775808 ≤ d) (d2 : d ≤ 9223372036854775807) (hr : opS add0 (a, b) (c, d) = ((p, q), r)) :
    Calls Try.prog 22 #[.agg #[.int .i64 a, .int .i64 b], .agg #[.int .i64 c, .int .i64 d]] w fun e w' => e = .returned (.tuple #[.agg #[.int .i64 p, .int .i64 q], .int .i64 r]) ∧ Below w.heap.size w w' := by
  have HR := Lib.hid hr
  clear hr
  have hcall : ∀ caps W, (callFunc 37 caps).run Try.prog W = .ok (.enter 37 caps) W := fun _ _ => by kernel_rfl
  go_enter Try.func22, Try.ntmps22
  go_wp2_with fail
  refine (binary_any _ _ a b c d p q r _ a1 a2 b1 b2 c1 c2 d1 d2 (hcall _) (opS_bad HR.out) (fun k1 k2 W hW => ?_)).mono ?_
  · obtain ⟨hc1, hf1⟩ := bcell hW
    obtain ⟨x1, x2, x3, x4⟩ := chk_bd k1
    obtain ⟨y1, y2, y3, y4⟩ := chk_bd k2
    have k3 := opS_good HR.out k1 k2
    exact addc_any _ _ a b c d p q r W (by rw [hc1 _ _ (by simp <;> omega)]; go_simp) (by rw [hc1 _ _ (by simp <;> omega)]; go_simp) (by rw [hc1 _ _ (by simp <;> omega)]; go_simp) (by rw [hc1 _ _ (by simp <;> omega)]; go_simp) x1 x2 x3 x4 y1 y2 y3 y4 k3
  rintro e w1 ⟨rfl, hb⟩
  obtain ⟨hc1, hf1⟩ := bcell hb
  have hz := hb.size
  simp at hz
  go_wp2
  refine bodyPost_ret (v := .tuple #[.agg #[.int .i64 p, .int .i64 q], .int .i64 r]) (by simp [results, Try.results22, go_sem, hc1]) rfl ⟨rfl, ?_⟩
  exact (by repeat' (first | exact Below.refl _ _ | assumption | (with_reducible refine bdrewN ?_ _) | (with_reducible refine bdrew ?_) | (with_reducible refine bset ?_ ?_) | (with_reducible refine balloc0 ?_) | (with_reducible refine balloc ?_ ?_) | (apply btrans0; rotate_left; assumption) | (apply btrans; rotate_left; assumption) | (simp; done) | omega | (simp; omega)))

set_option maxHeartbeats 800000 in
theorem sub_any (a b c d p q r : Int) (w : World) (a1 : -9223372036854775808 ≤ a) (a2 : a ≤ 9223372036854775807) (b1 : -9223372036854775808 ≤ b) (b2 : b ≤ 9223372036854775807) (c1 : -9223372036854775808 ≤ c) (c2 : c ≤ 9223372036854775807) (d1 : -9223372036854775808 ≤ d) (d2 : d ≤ 9223372036854775807) (hr : opS sub0 (a, b) (c, d) = ((p, q), r)) :
    Calls Try.prog 21 #[.agg #[.int .i64 a, .int .i64 b], .agg #[.int .i64 c, .int .i64 d]] w fun e w' => e = .returned (.tuple #[.agg #[.int .i64 p, .int .i64 q], .int .i64 r]) ∧ Below w.heap.size w w' := by
  have HR := Lib.hid hr
  clear hr
  have hcall : ∀ caps W, (callFunc 36 caps).run Try.prog W = .ok (.enter 36 caps) W := fun _ _ => by kernel_rfl
  go_enter Try.func21, Try.ntmps21
  go_wp2_with fail
  refine (binary_any _ _ a b c d p q r _ a1 a2 b1 b2 c1 c2 d1 d2 (hcall _) (opS_bad HR.out) (fun k1 k2 W hW => ?_)).mono ?_
  · obtain ⟨hc1, hf1⟩ := bcell hW
    obtain ⟨x1, x2, x3, x4⟩ := chk_bd k1
    obtain ⟨y1, y2, y3, y4⟩ := chk_bd k2
    have k3 := opS_good HR.out k1 k2
    exact subc_any _ _ a b c d p q r W (by rw [hc1 _ _ (by simp <;> omega)]; go_simp) (by rw [hc1 _ _ (by simp <;> omega)]; go_simp) (by rw [hc1 _ _ (by simp <;> omega)]; go_simp) (by rw [hc1 _ _ (by simp <;> omega)]; go_simp) x1 x2 x3 x4 y1 y2 y3 y4 k3
  rintro e w1 ⟨rfl, hb⟩
  obtain ⟨hc1, hf1⟩ := bcell hb
  have hz := hb.size
  simp at hz
  go_wp2
  refine bodyPost_ret (v := .tuple #[.agg #[.int .i64 p, .int .i64 q], .int .i64 r]) (by simp [results, Try.results21, go_sem, hc1]) rfl ⟨rfl, ?_⟩
  exact (by repeat' (first | exact Below.refl _ _ | assumption | (with_reducible refine bdrewN ?_ _) | (with_reducible refine bdrew ?_) | (with_reducible refine bset ?_ ?_) | (with_reducible refine balloc0 ?_) | (with_reducible refine balloc ?_ ?_) | (apply btrans0; rotate_left; assumption) | (apply btrans; rotate_left; assumption) | (simp; done) | omega | (simp; omega)))

set_option maxHeartbeats 800000 in
theorem mul_any (a b c d p q r : Int) (w : World) (a1 : -9223372036854775808 ≤ a) (a2 : a ≤ 9223372036854775807) (b1 : -9223372036854775808 ≤ b) (b2 : b ≤ 9223372036854775807) (c1 : -9223372036854775808 ≤ c) (c2 : c ≤ 9223372036854775807) (d1 : -9223372036854775808 ≤ d) (d2 : d ≤ 9223372036854775807) (hr : opS mul0 (a, b) (c, d) = ((p, q), r)) :
    Calls Try.prog 23 #[.agg #[.int .i64 a, .int .i64 b], .agg #[.int .i64 c, .int .i64 d]] w fun e w' => e = .returned (.tuple #[.agg #[.int .i64 p, .int .i64 q], .int .i64 r]) ∧ Below w.heap.size w w' := by
  have HR := Lib.hid hr
  clear hr
  have hcall : ∀ caps W, (callFunc 38 caps).run Try.prog W = .ok (.enter 38 caps) W := fun _ _ => by kernel_rfl
  go_enter Try.func23, Try.ntmps23
  go_wp2_with fail
  refine (binary_any _ _ a b c d p q r _ a1 a2 b1 b2 c1 c2 d1 d2 (hcall _) (opS_bad HR.out) (fun k1 k2 W hW => ?_)).mono ?_
  · obtain ⟨hc1, hf1⟩ := bcell hW
    obtain ⟨x1, x2, x3, x4⟩ := chk_bd k1
    obtain ⟨y1, y2, y3, y4⟩ := chk_bd k2
    have k3 := opS_good HR.out k1 k2
    exact mulc_any _ _ a b c d p q r W (by rw [hc1 _ _ (by simp <;> omega)]; go_simp) (by rw [hc1 _ _ (by simp <;> omega)]; go_simp) (by rw [hc1 _ _ (by simp <;> omega)]; go_simp) (by rw [hc1 _ _ (by simp <;> omega)]; go_simp) x1 x2 x3 x4 y1 y2 y3 y4 k3
  rintro e w1 ⟨rfl, hb⟩
  obtain ⟨hc1, hf1⟩ := bcell hb
  have hz := hb.size
  simp at hz
  go_wp2
  refine bodyPost_ret (v := .tuple #[.agg #[.int .i64 p, .int .i64 q], .int .i64 r]) (by simp [results, Try.results23, go_sem, hc1]) rfl ⟨rfl, ?_⟩
  exact (by repeat' (first | exact Below.refl _ _ | assumption | (with_reducible refine bdrewN ?_ _) | (with_reducible refine bdrew ?_) | (with_reducible refine bset ?_ ?_) | (with_reducible refine balloc0 ?_) | (with_reducible refine balloc ?_ ?_) | (apply btrans0; rotate_left; assumption) | (apply btrans; rotate_left; assumption) | (simp; done) | omega | (simp; omega)))

set_option maxHeartbeats 800000 in
theorem div_any (a b c d p q r : Int) (w : World) (a1 : -9223372036854775808 ≤ a) (a2 : a ≤ 9223372036854775807) (b1 : -9223372036854775808 ≤ b) (b2 : b ≤ 9223372036854775807) (c1 : -9223372036854775808 ≤ c) (c2 : c ≤ 9223372036854775807) (d1 : -9223372036854775808 ≤ d) (d2 : d ≤ 9223372036854775807) (hr : opS div0 (a, b) (c, d) = ((p, q), r)) :
    Calls Try.prog 27 #[.agg #[.int .i64 a, .int .i64 b], .agg #[.int .i64 c, .int .i64 d]] w fun e w' => e = .returned (.tuple #[.agg #[.int .i64 p, .int .i64 q], .int .i64 r]) ∧ Below w.heap.size w w' := by
  have HR := Lib.hid hr
  clear hr
  have hcall : ∀ caps W, (callFunc 40 caps).run Try.prog W = .ok (.enter 40 caps) W := fun _ _ => by kernel_rfl
  go_enter Try.func27, Try.ntmps27
  go_wp2_with fail
  refine (binary_any _ _ a b c d p q r _ a1 a2 b1 b2 c1 c2 d1 d2 (hcall _) (opS_bad HR.out) (fun k1 k2 W hW => ?_)).mono ?_
  · obtain ⟨hc1, hf1⟩ := bcell hW
    obtain ⟨x1, x2, x3, x4⟩ := chk_bd k1
    obtain ⟨y1, y2, y3, y4⟩ := chk_bd k2
    have k3 := opS_good HR.out k1 k2
    by_cases hc : c = 0
    · unfold div0 at k3
      rw [if_pos hc] at k3
      obtain ⟨⟨rfl, rfl⟩, rfl⟩ : (0 = p ∧ 0 = q) ∧ 21 = r := by simpa using k3
      exact divc_zero _ _ W (by rw [hc1 _ _ (by simp <;> omega)]; go_simp)
    · exact divc_any _ _ a b c d p q r W (by rw [hc1 _ _ (by simp <;> omega)]; go_simp) (by rw [hc1 _ _ (by simp <;> omega)]; go_simp) (by rw [hc1 _ _ (by simp <;> omega)]; go_simp) (by rw [hc1 _ _ (by simp <;> omega)]; go_simp) x1 x2 x3 x4 y1 y2 y3 y4 hc k3
  rintro e w1 ⟨rfl, hb⟩
  obtain ⟨hc1, hf1⟩ := bcell hb
  have hz := hb.size
  simp at hz
  go_wp2
  refine bodyPost_ret (v := .tuple #[.agg #[.int .i64 p, .int .i64 q], .int .i64 r]) (by simp [results, Try.results27, go_sem, hc1]) rfl ⟨rfl, ?_⟩
  exact (by repeat' (first | exact Below.refl _ _ | assumption | (with_reducible refine bdrewN ?_ _) | (with_reducible refine bdrew ?_) | (with_reducible refine bset ?_ ?_) | (with_reducible refine balloc0 ?_) | (with_reducible refine balloc ?_ ?_) | (apply btrans0; rotate_left; assumption) | (apply btrans; rotate_left; assumption) | (simp; done) | omega | (simp; omega)))

end Go.Proofs.Ytfkdhcfedjbkfaa
