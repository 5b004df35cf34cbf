/- The ways of RationalCompares' walk, part a. -/
import Derived.Test.YtfkdhcfedjbkfaaM
namespace Go.Proofs.Ytfkdhcfedjbkfaa.rationalCompares
open Go.RowKit Go.Proofs.Ytfkdhcfedjbkfaa
attribute [local go_sem ↓] eqRat

set_option maxRecDepth 100000 in
set_option maxHeartbeats 1600000 in
theorem bad_a (an ad bn bd cn cd : Int) (w : World) (an1 : -9223372036854775808 ≤ an) (an2 : an ≤ 9223372036854775807) (ad1 : -9223372036854775808 ≤ ad) (ad2 : ad ≤ 9223372036854775807) (bn1 : -9223372036854775808 ≤ bn) (bn2 : bn ≤ 9223372036854775807) (bd1 : -9223372036854775808 ≤ bd) (bd2 : bd ≤ 9223372036854775807) (cn1 : -9223372036854775808 ≤ cn) (cn2 : cn ≤ 9223372036854775807) (cd1 : -9223372036854775808 ≤ cd) (cd2 : cd ≤ 9223372036854775807) (k : Int) (hk : chk (an, ad) = k) (z : (k != 0) = true) (h0 : cmpS (0, 0) (an, ad) = 0) :
    Calls Try.prog 6 #[.agg #[.int .i64 an, .int .i64 ad], .agg #[.int .i64 bn, .int .i64 bd], .agg #[.int .i64 cn, .int .i64 cd]] w fun e w' => e = .returned (.bool true) ∧ Below w.heap.size w w' := by
  have HK := Lib.hid hk
  have H0 := Lib.hid h0
  clear hk h0
  go_enter Try.func6, Try.ntmps6
  go_wp2_with fail
  refine (check_any an ad k _ an1 an2 ad1 ad2 HK.out).mono ?_
  rintro e w1 ⟨rfl, hb1⟩
  have cc := (bcell hb1).1
  have zz := hb1.size
  try simp at zz
  have l1_0 : w.heap.size < w1.heap.size := by first | omega | (simp at *; omega)
  have g1_0_0 : w1.cell? ⟨w.heap.size, 0, none⟩ = some (.int .i64 an) := by rw [cc _ _ (by first | omega | (simp; done) | (simp; omega))]; first | assumption | go_simp
  have g1_0_1 : w1.cell? ⟨w.heap.size, 1, none⟩ = some (.int .i64 ad) := by rw [cc _ _ (by first | omega | (simp; done) | (simp; omega))]; first | assumption | go_simp
  have l1_1 : w.heap.size + 1 < w1.heap.size := by first | omega | (simp at *; omega)
  have g1_1_0 : w1.cell? ⟨w.heap.size + 1, 0, none⟩ = some (.int .i64 bn) := by rw [cc _ _ (by first | omega | (simp; done) | (simp; omega))]; first | assumption | go_simp
  have g1_1_1 : w1.cell? ⟨w.heap.size + 1, 1, none⟩ = some (.int .i64 bd) := by rw [cc _ _ (by first | omega | (simp; done) | (simp; omega))]; first | assumption | go_simp
  have l1_2 : w.heap.size + 2 < w1.heap.size := by first | omega | (simp at *; omega)
  have g1_2_0 : w1.cell? ⟨w.heap.size + 2, 0, none⟩ = some (.int .i64 cn) := by rw [cc _ _ (by first | omega | (simp; done) | (simp; omega))]; first | assumption | go_simp
  have g1_2_1 : w1.cell? ⟨w.heap.size + 2, 1, none⟩ = some (.int .i64 cd) := by rw [cc _ _ (by first | omega | (simp; done) | (simp; omega))]; first | assumption | go_simp
  clear cc zz
  go_wp2_with fail
  refine (cmp_any 0 0 an ad 0 _ (by omega) (by omega) (by omega) (by omega) an1 an2 ad1 ad2 H0.out).mono ?_
  rintro e w2 ⟨rfl, hb2⟩
  have cc := (bcell hb2).1
  have zz := hb2.size
  try simp at zz
  have l2_0 : w.heap.size < w2.heap.size := by first | omega | (simp at *; omega)
  have g2_0_0 : w2.cell? ⟨w.heap.size, 0, none⟩ = some (.int .i64 an) := by rw [cc _ _ (by first | omega | (simp; done) | (simp; omega))]; first | assumption | go_simp
  have g2_0_1 : w2.cell? ⟨w.heap.size, 1, none⟩ = some (.int .i64 ad) := by rw [cc _ _ (by first | omega | (simp; done) | (simp; omega))]; first | assumption | go_simp
  have l2_1 : w.heap.size + 1 < w2.heap.size := by first | omega | (simp at *; omega)
  have g2_1_0 : w2.cell? ⟨w.heap.size + 1, 0, none⟩ = some (.int .i64 bn) := by rw [cc _ _ (by first | omega | (simp; done) | (simp; omega))]; first | assumption | go_simp
  have g2_1_1 : w2.cell? ⟨w.heap.size + 1, 1, none⟩ = some (.int .i64 bd) := by rw [cc _ _ (by first | omega | (simp; done) | (simp; omega))]; first | assumption | go_simp
  have l2_2 : w.heap.size + 2 < w2.heap.size := by first | omega | (simp at *; omega)
  have g2_2_0 : w2.cell? ⟨w.heap.size + 2, 0, none⟩ = some (.int .i64 cn) := by rw [cc _ _ (by first | omega | (simp; done) | (simp; omega))]; first | assumption | go_simp
  have g2_2_1 : w2.cell? ⟨w.heap.size + 2, 1, none⟩ = some (.int .i64 cd) := by rw [cc _ _ (by first | omega | (simp; done) | (simp; omega))]; first | assumption | go_simp
  clear cc zz
  clear g1_0_0 g1_0_1 g1_1_0 g1_1_1 g1_2_0 g1_2_1
  go_wp2_with fail
  refine (awake_any _).mono ?_
  rintro e w3 ⟨rfl, hb3⟩
  have cc := (bcell hb3).1
  have zz := hb3.size
  try simp at zz
  have l3_0 : w.heap.size < w3.heap.size := by first | omega | (simp at *; omega)
  have g3_0_0 : w3.cell? ⟨w.heap.size, 0, none⟩ = some (.int .i64 an) := by rw [cc _ _ (by first | omega | (simp; done) | (simp; omega))]; first | assumption | go_simp
  have g3_0_1 : w3.cell? ⟨w.heap.size, 1, none⟩ = some (.int .i64 ad) := by rw [cc _ _ (by first | omega | (simp; done) | (simp; omega))]; first | assumption | go_simp
  have l3_1 : w.heap.size + 1 < w3.heap.size := by first | omega | (simp at *; omega)
  have g3_1_0 : w3.cell? ⟨w.heap.size + 1, 0, none⟩ = some (.int .i64 bn) := by rw [cc _ _ (by first | omega | (simp; done) | (simp; omega))]; first | assumption | go_simp
  have g3_1_1 : w3.cell? ⟨w.heap.size + 1, 1, none⟩ = some (.int .i64 bd) := by rw [cc _ _ (by first | omega | (simp; done) | (simp; omega))]; first | assumption | go_simp
  have l3_2 : w.heap.size + 2 < w3.heap.size := by first | omega | (simp at *; omega)
  have g3_2_0 : w3.cell? ⟨w.heap.size + 2, 0, none⟩ = some (.int .i64 cn) := by rw [cc _ _ (by first | omega | (simp; done) | (simp; omega))]; first | assumption | go_simp
  have g3_2_1 : w3.cell? ⟨w.heap.size + 2, 1, none⟩ = some (.int .i64 cd) := by rw [cc _ _ (by first | omega | (simp; done) | (simp; omega))]; first | assumption | go_simp
  clear cc zz
  clear g2_0_0 g2_0_1 g2_1_0 g2_1_1 g2_2_0 g2_2_1
  go_wp2
  go_ret
  exact ⟨rfl, (by repeat' (first | exact Below.refl _ _ | assumption | (with_reducible refine bdrewN ?_ _) | (with_reducible refine bdrew ?_) | (with_reducible refine bset ?_ ?_) | (with_reducible refine balloc0 ?_) | (with_reducible refine balloc ?_ ?_) | (apply btrans0; rotate_left; assumption) | (apply btrans; rotate_left; assumption) | (simp; done) | omega | (simp; omega)))⟩

set_option maxRecDepth 100000 in
set_option maxHeartbeats 1600000 in
theorem bad_b (an ad bn bd cn cd : Int) (w : World) (an1 : -9223372036854775808 ≤ an) (an2 : an ≤ 9223372036854775807) (ad1 : -9223372036854775808 ≤ ad) (ad2 : ad ≤ 9223372036854775807) (bn1 : -9223372036854775808 ≤ bn) (bn2 : bn ≤ 9223372036854775807) (bd1 : -9223372036854775808 ≤ bd) (bd2 : bd ≤ 9223372036854775807) (cn1 : -9223372036854775808 ≤ cn) (cn2 : cn ≤ 9223372036854775807) (cd1 : -9223372036854775808 ≤ cd) (cd2 : cd ≤ 9223372036854775807) (ha : chk (an, ad) = 0) (k : Int) (hk : chk (bn, bd) = k) (z : (k != 0) = true) (h0 : cmpS (0, 0) (an, ad) = 0) :
    Calls Try.prog 6 #[.agg #[.int .i64 an, .int .i64 ad], .agg #[.int .i64 bn, .int .i64 bd], .agg #[.int .i64 cn, .int .i64 cd]] w fun e w' => e = .returned (.bool true) ∧ Below w.heap.size w w' := by
  have HA := Lib.hid ha
  have HK := Lib.hid hk
  have H0 := Lib.hid h0
  clear ha hk h0
  go_enter Try.func6, Try.ntmps6
  go_wp2_with fail
  refine (check_any an ad 0 _ an1 an2 ad1 ad2 HA.out).mono ?_
  rintro e w1 ⟨rfl, hb1⟩
  have cc := (bcell hb1).1
  have zz := hb1.size
  try simp at zz
  have l1_0 : w.heap.size < w1.heap.size := by first | omega | (simp at *; omega)
  have g1_0_0 : w1.cell? ⟨w.heap.size, 0, none⟩ = some (.int .i64 an) := by rw [cc _ _ (by first | omega | (simp; done) | (simp; omega))]; first | assumption | go_simp
  have g1_0_1 : w1.cell? ⟨w.heap.size, 1, none⟩ = some (.int .i64 ad) := by rw [cc _ _ (by first | omega | (simp; done) | (simp; omega))]; first | assumption | go_simp
  have l1_1 : w.heap.size + 1 < w1.heap.size := by first | omega | (simp at *; omega)
  have g1_1_0 : w1.cell? ⟨w.heap.size + 1, 0, none⟩ = some (.int .i64 bn) := by rw [cc _ _ (by first | omega | (simp; done) | (simp; omega))]; first | assumption | go_simp
  have g1_1_1 : w1.cell? ⟨w.heap.size + 1, 1, none⟩ = some (.int .i64 bd) := by rw [cc _ _ (by first | omega | (simp; done) | (simp; omega))]; first | assumption | go_simp
  have l1_2 : w.heap.size + 2 < w1.heap.size := by first | omega | (simp at *; omega)
  have g1_2_0 : w1.cell? ⟨w.heap.size + 2, 0, none⟩ = some (.int .i64 cn) := by rw [cc _ _ (by first | omega | (simp; done) | (simp; omega))]; first | assumption | go_simp
  have g1_2_1 : w1.cell? ⟨w.heap.size + 2, 1, none⟩ = some (.int .i64 cd) := by rw [cc _ _ (by first | omega | (simp; done) | (simp; omega))]; first | assumption | go_simp
  clear cc zz
  go_wp2_with fail
  refine (check_any bn bd k _ bn1 bn2 bd1 bd2 HK.out).mono ?_
  rintro e w2 ⟨rfl, hb2⟩
  have cc := (bcell hb2).1
  have zz := hb2.size
  try simp at zz
  have l2_0 : w.heap.size < w2.heap.size := by first | omega | (simp at *; omega)
  have g2_0_0 : w2.cell? ⟨w.heap.size, 0, none⟩ = some (.int .i64 an) := by rw [cc _ _ (by first | omega | (simp; done) | (simp; omega))]; first | assumption | go_simp
  have g2_0_1 : w2.cell? ⟨w.heap.size, 1, none⟩ = some (.int .i64 ad) := by rw [cc _ _ (by first | omega | (simp; done) | (simp; omega))]; first | assumption | go_simp
  have l2_1 : w.heap.size + 1 < w2.heap.size := by first | omega | (simp at *; omega)
  have g2_1_0 : w2.cell? ⟨w.heap.size + 1, 0, none⟩ = some (.int .i64 bn) := by rw [cc _ _ (by first | omega | (simp; done) | (simp; omega))]; first | assumption | go_simp
  have g2_1_1 : w2.cell? ⟨w.heap.size + 1, 1, none⟩ = some (.int .i64 bd) := by rw [cc _ _ (by first | omega | (simp; done) | (simp; omega))]; first | assumption | go_simp
  have l2_2 : w.heap.size + 2 < w2.heap.size := by first | omega | (simp at *; omega)
  have g2_2_0 : w2.cell? ⟨w.heap.size + 2, 0, none⟩ = some (.int .i64 cn) := by rw [cc _ _ (by first | omega | (simp; done) | (simp; omega))]; first | assumption | go_simp
  have g2_2_1 : w2.cell? ⟨w.heap.size + 2, 1, none⟩ = some (.int .i64 cd) := by rw [cc _ _ (by first | omega | (simp; done) | (simp; omega))]; first | assumption | go_simp
  clear cc zz
  clear g1_0_0 g1_0_1 g1_1_0 g1_1_1 g1_2_0 g1_2_1
  go_wp2_with fail
  refine (cmp_any 0 0 an ad 0 _ (by omega) (by omega) (by omega) (by omega) an1 an2 ad1 ad2 H0.out).mono ?_
  rintro e w3 ⟨rfl, hb3⟩
  have cc := (bcell hb3).1
  have zz := hb3.size
  try simp at zz
  have l3_0 : w.heap.size < w3.heap.size := by first | omega | (simp at *; omega)
  have g3_0_0 : w3.cell? ⟨w.heap.size, 0, none⟩ = some (.int .i64 an) := by rw [cc _ _ (by first | omega | (simp; done) | (simp; omega))]; first | assumption | go_simp
  have g3_0_1 : w3.cell? ⟨w.heap.size, 1, none⟩ = some (.int .i64 ad) := by rw [cc _ _ (by first | omega | (simp; done) | (simp; omega))]; first | assumption | go_simp
  have l3_1 : w.heap.size + 1 < w3.heap.size := by first | omega | (simp at *; omega)
  have g3_1_0 : w3.cell? ⟨w.heap.size + 1, 0, none⟩ = some (.int .i64 bn) := by rw [cc _ _ (by first | omega | (simp; done) | (simp; omega))]; first | assumption | go_simp
  have g3_1_1 : w3.cell? ⟨w.heap.size + 1, 1, none⟩ = some (.int .i64 bd) := by rw [cc _ _ (by first | omega | (simp; done) | (simp; omega))]; first | assumption | go_simp
  have l3_2 : w.heap.size + 2 < w3.heap.size := by first | omega | (simp at *; omega)
  have g3_2_0 : w3.cell? ⟨w.heap.size + 2, 0, none⟩ = some (.int .i64 cn) := by rw [cc _ _ (by first | omega | (simp; done) | (simp; omega))]; first | assumption | go_simp
  have g3_2_1 : w3.cell? ⟨w.heap.size + 2, 1, none⟩ = some (.int .i64 cd) := by rw [cc _ _ (by first | omega | (simp; done) | (simp; omega))]; first | assumption | go_simp
  clear cc zz
  clear g2_0_0 g2_0_1 g2_1_0 g2_1_1 g2_2_0 g2_2_1
  go_wp2_with fail
  refine (awake_any _).mono ?_
  rintro e w4 ⟨rfl, hb4⟩
  have cc := (bcell hb4).1
  have zz := hb4.size
  try simp at zz
  have l4_0 : w.heap.size < w4.heap.size := by first | omega | (simp at *; omega)
  have g4_0_0 : w4.cell? ⟨w.heap.size, 0, none⟩ = some (.int .i64 an) := by rw [cc _ _ (by first | omega | (simp; done) | (simp; omega))]; first | assumption | go_simp
  have g4_0_1 : w4.cell? ⟨w.heap.size, 1, none⟩ = some (.int .i64 ad) := by rw [cc _ _ (by first | omega | (simp; done) | (simp; omega))]; first | assumption | go_simp
  have l4_1 : w.heap.size + 1 < w4.heap.size := by first | omega | (simp at *; omega)
  have g4_1_0 : w4.cell? ⟨w.heap.size + 1, 0, none⟩ = some (.int .i64 bn) := by rw [cc _ _ (by first | omega | (simp; done) | (simp; omega))]; first | assumption | go_simp
  have g4_1_1 : w4.cell? ⟨w.heap.size + 1, 1, none⟩ = some (.int .i64 bd) := by rw [cc _ _ (by first | omega | (simp; done) | (simp; omega))]; first | assumption | go_simp
  have l4_2 : w.heap.size + 2 < w4.heap.size := by first | omega | (simp at *; omega)
  have g4_2_0 : w4.cell? ⟨w.heap.size + 2, 0, none⟩ = some (.int .i64 cn) := by rw [cc _ _ (by first | omega | (simp; done) | (simp; omega))]; first | assumption | go_simp
  have g4_2_1 : w4.cell? ⟨w.heap.size + 2, 1, none⟩ = some (.int .i64 cd) := by rw [cc _ _ (by first | omega | (simp; done) | (simp; omega))]; first | assumption | go_simp
  clear cc zz
  clear g3_0_0 g3_0_1 g3_1_0 g3_1_1 g3_2_0 g3_2_1
  go_wp2
  go_ret
  exact ⟨rfl, (by repeat' (first | exact Below.refl _ _ | assumption | (with_reducible refine bdrewN ?_ _) | (with_reducible refine bdrew ?_) | (with_reducible refine bset ?_ ?_) | (with_reducible refine balloc0 ?_) | (with_reducible refine balloc ?_ ?_) | (apply btrans0; rotate_left; assumption) | (apply btrans; rotate_left; assumption) | (simp; done) | omega | (simp; omega)))⟩

set_option maxRecDepth 100000 in
set_option maxHeartbeats 1600000 in
theorem bad_c (an ad bn bd cn cd : Int) (w : World) (an1 : -9223372036854775808 ≤ an) (an2 : an ≤ 9223372036854775807) (ad1 : -9223372036854775808 ≤ ad) (ad2 : ad ≤ 9223372036854775807) (bn1 : -9223372036854775808 ≤ bn) (bn2 : bn ≤ 9223372036854775807) (bd1 : -9223372036854775808 ≤ bd) (bd2 : bd ≤ 9223372036854775807) (cn1 : -9223372036854775808 ≤ cn) (cn2 : cn ≤ 9223372036854775807) (cd1 : -9223372036854775808 ≤ cd) (cd2 : cd ≤ 9223372036854775807) (ha : chk (an, ad) = 0) (hb : chk (bn, bd) = 0) (k : Int) (hk : chk (cn, cd) = k) (z : (k != 0) = true) (h0 : cmpS (0, 0) (an, ad) = 0) :
    Calls Try.prog 6 #[.agg #[.int .i64 an, .int .i64 ad], .agg #[.int .i64 bn, .int .i64 bd], .agg #[.int .i64 cn, .int .i64 cd]] w fun e w' => e = .returned (.bool true) ∧ Below w.heap.size w w' := by
  have HA := Lib.hid ha
  have HB := Lib.hid hb
  have HK := Lib.hid hk
  have H0 := Lib.hid h0
  clear ha hb hk h0
  go_enter Try.func6, Try.ntmps6
  go_wp2_with fail
  refine (check_any an ad 0 _ an1 an2 ad1 ad2 HA.out).mono ?_
  rintro e w1 ⟨rfl, hb1⟩
  have cc := (bcell hb1).1
  have zz := hb1.size
  try simp at zz
  have l1_0 : w.heap.size < w1.heap.size := by first | omega | (simp at *; omega)
  have g1_0_0 : w1.cell? ⟨w.heap.size, 0, none⟩ = some (.int .i64 an) := by rw [cc _ _ (by first | omega | (simp; done) | (simp; omega))]; first | assumption | go_simp
  have g1_0_1 : w1.cell? ⟨w.heap.size, 1, none⟩ = some (.int .i64 ad) := by rw [cc _ _ (by first | omega | (simp; done) | (simp; omega))]; first | assumption | go_simp
  have l1_1 : w.heap.size + 1 < w1.heap.size := by first | omega | (simp at *; omega)
  have g1_1_0 : w1.cell? ⟨w.heap.size + 1, 0, none⟩ = some (.int .i64 bn) := by rw [cc _ _ (by first | omega | (simp; done) | (simp; omega))]; first | assumption | go_simp
  have g1_1_1 : w1.cell? ⟨w.heap.size + 1, 1, none⟩ = some (.int .i64 bd) := by rw [cc _ _ (by first | omega | (simp; done) | (simp; omega))]; first | assumption | go_simp
  have l1_2 : w.heap.size + 2 < w1.heap.size := by first | omega | (simp at *; omega)
  have g1_2_0 : w1.cell? ⟨w.heap.size + 2, 0, none⟩ = some (.int .i64 cn) := by rw [cc _ _ (by first | omega | (simp; done) | (simp; omega))]; first | assumption | go_simp
  have g1_2_1 : w1.cell? ⟨w.heap.size + 2, 1, none⟩ = some (.int .i64 cd) := by rw [cc _ _ (by first | omega | (simp; done) | (simp; omega))]; first | assumption | go_simp
  clear cc zz
  go_wp2_with fail
  refine (check_any bn bd 0 _ bn1 bn2 bd1 bd2 HB.out).mono ?_
  rintro e w2 ⟨rfl, hb2⟩
  have cc := (bcell hb2).1
  have zz := hb2.size
  try simp at zz
  have l2_0 : w.heap.size < w2.heap.size := by first | omega | (simp at *; omega)
  have g2_0_0 : w2.cell? ⟨w.heap.size, 0, none⟩ = some (.int .i64 an) := by rw [cc _ _ (by first | omega | (simp; done) | (simp; omega))]; first | assumption | go_simp
  have g2_0_1 : w2.cell? ⟨w.heap.size, 1, none⟩ = some (.int .i64 ad) := by rw [cc _ _ (by first | omega | (simp; done) | (simp; omega))]; first | assumption | go_simp
  have l2_1 : w.heap.size + 1 < w2.heap.size := by first | omega | (simp at *; omega)
  have g2_1_0 : w2.cell? ⟨w.heap.size + 1, 0, none⟩ = some (.int .i64 bn) := by rw [cc _ _ (by first | omega | (simp; done) | (simp; omega))]; first | assumption | go_simp
  have g2_1_1 : w2.cell? ⟨w.heap.size + 1, 1, none⟩ = some (.int .i64 bd) := by rw [cc _ _ (by first | omega | (simp; done) | (simp; omega))]; first | assumption | go_simp
  have l2_2 : w.heap.size + 2 < w2.heap.size := by first | omega | (simp at *; omega)
  have g2_2_0 : w2.cell? ⟨w.heap.size + 2, 0, none⟩ = some (.int .i64 cn) := by rw [cc _ _ (by first | omega | (simp; done) | (simp; omega))]; first | assumption | go_simp
  have g2_2_1 : w2.cell? ⟨w.heap.size + 2, 1, none⟩ = some (.int .i64 cd) := by rw [cc _ _ (by first | omega | (simp; done) | (simp; omega))]; first | assumption | go_simp
  clear cc zz
  clear g1_0_0 g1_0_1 g1_1_0 g1_1_1 g1_2_0 g1_2_1
  go_wp2_with fail
  refine (check_any cn cd k _ cn1 cn2 cd1 cd2 HK.out).mono ?_
  rintro e w3 ⟨rfl, hb3⟩
  have cc := (bcell hb3).1
  have zz := hb3.size
  try simp at zz
  have l3_0 : w.heap.size < w3.heap.size := by first | omega | (simp at *; omega)
  have g3_0_0 : w3.cell? ⟨w.heap.size, 0, none⟩ = some (.int .i64 an) := by rw [cc _ _ (by first | omega | (simp; done) | (simp; omega))]; first | assumption | go_simp
  have g3_0_1 : w3.cell? ⟨w.heap.size, 1, none⟩ = some (.int .i64 ad) := by rw [cc _ _ (by first | omega | (simp; done) | (simp; omega))]; first | assumption | go_simp
  have l3_1 : w.heap.size + 1 < w3.heap.size := by first | omega | (simp at *; omega)
  have g3_1_0 : w3.cell? ⟨w.heap.size + 1, 0, none⟩ = some (.int .i64 bn) := by rw [cc _ _ (by first | omega | (simp; done) | (simp; omega))]; first | assumption | go_simp
  have g3_1_1 : w3.cell? ⟨w.heap.size + 1, 1, none⟩ = some (.int .i64 bd) := by rw [cc _ _ (by first | omega | (simp; done) | (simp; omega))]; first | assumption | go_simp
  have l3_2 : w.heap.size + 2 < w3.heap.size := by first | omega | (simp at *; omega)
  have g3_2_0 : w3.cell? ⟨w.heap.size + 2, 0, none⟩ = some (.int .i64 cn) := by rw [cc _ _ (by first | omega | (simp; done) | (simp; omega))]; first | assumption | go_simp
  have g3_2_1 : w3.cell? ⟨w.heap.size + 2, 1, none⟩ = some (.int .i64 cd) := by rw [cc _ _ (by first | omega | (simp; done) | (simp; omega))]; first | assumption | go_simp
  clear cc zz
  clear g2_0_0 g2_0_1 g2_1_0 g2_1_1 g2_2_0 g2_2_1
  go_wp2_with fail
  refine (cmp_any 0 0 an ad 0 _ (by omega) (by omega) (by omega) (by omega) an1 an2 ad1 ad2 H0.out).mono ?_
  rintro e w4 ⟨rfl, hb4⟩
  have cc := (bcell hb4).1
  have zz := hb4.size
  try simp at zz
  have l4_0 : w.heap.size < w4.heap.size := by first | omega | (simp at *; omega)
  have g4_0_0 : w4.cell? ⟨w.heap.size, 0, none⟩ = some (.int .i64 an) := by rw [cc _ _ (by first | omega | (simp; done) | (simp; omega))]; first | assumption | go_simp
  have g4_0_1 : w4.cell? ⟨w.heap.size, 1, none⟩ = some (.int .i64 ad) := by rw [cc _ _ (by first | omega | (simp; done) | (simp; omega))]; first | assumption | go_simp
  have l4_1 : w.heap.size + 1 < w4.heap.size := by first | omega | (simp at *; omega)
  have g4_1_0 : w4.cell? ⟨w.heap.size + 1, 0, none⟩ = some (.int .i64 bn) := by rw [cc _ _ (by first | omega | (simp; done) | (simp; omega))]; first | assumption | go_simp
  have g4_1_1 : w4.cell? ⟨w.heap.size + 1, 1, none⟩ = some (.int .i64 bd) := by rw [cc _ _ (by first | omega | (simp; done) | (simp; omega))]; first | assumption | go_simp
  have l4_2 : w.heap.size + 2 < w4.heap.size := by first | omega | (simp at *; omega)
  have g4_2_0 : w4.cell? ⟨w.heap.size + 2, 0, none⟩ = some (.int .i64 cn) := by rw [cc _ _ (by first | omega | (simp; done) | (simp; omega))]; first | assumption | go_simp
  have g4_2_1 : w4.cell? ⟨w.heap.size + 2, 1, none⟩ = some (.int .i64 cd) := by rw [cc _ _ (by first | omega | (simp; done) | (simp; omega))]; first | assumption | go_simp
  clear cc zz
  clear g3_0_0 g3_0_1 g3_1_0 g3_1_1 g3_2_0 g3_2_1
  go_wp2_with fail
  refine (awake_any _).mono ?_
  rintro e w5 ⟨rfl, hb5⟩
  have cc := (bcell hb5).1
  have zz := hb5.size
  try simp at zz
  have l5_0 : w.heap.size < w5.heap.size := by first | omega | (simp at *; omega)
  have g5_0_0 : w5.cell? ⟨w.heap.size, 0, none⟩ = some (.int .i64 an) := by rw [cc _ _ (by first | omega | (simp; done) | (simp; omega))]; first | assumption | go_simp
  have g5_0_1 : w5.cell? ⟨w.heap.size, 1, none⟩ = some (.int .i64 ad) := by rw [cc _ _ (by first | omega | (simp; done) | (simp; omega))]; first | assumption | go_simp
  have l5_1 : w.heap.size + 1 < w5.heap.size := by first | omega | (simp at *; omega)
  have g5_1_0 : w5.cell? ⟨w.heap.size + 1, 0, none⟩ = some (.int .i64 bn) := by rw [cc _ _ (by first | omega | (simp; done) | (simp; omega))]; first | assumption | go_simp
  have g5_1_1 : w5.cell? ⟨w.heap.size + 1, 1, none⟩ = some (.int .i64 bd) := by rw [cc _ _ (by first | omega | (simp; done) | (simp; omega))]; first | assumption | go_simp
  have l5_2 : w.heap.size + 2 < w5.heap.size := by first | omega | (simp at *; omega)
  have g5_2_0 : w5.cell? ⟨w.heap.size + 2, 0, none⟩ = some (.int .i64 cn) := by rw [cc _ _ (by first | omega | (simp; done) | (simp; omega))]; first | assumption | go_simp
  have g5_2_1 : w5.cell? ⟨w.heap.size + 2, 1, none⟩ = some (.int .i64 cd) := by rw [cc _ _ (by first | omega | (simp; done) | (simp; omega))]; first | assumption | go_simp
  clear cc zz
  clear g4_0_0 g4_0_1 g4_1_0 g4_1_1 g4_2_0 g4_2_1
  go_wp2
  go_ret
  exact ⟨rfl, (by repeat' (first | exact Below.refl _ _ | assumption | (with_reducible refine bdrewN ?_ _) | (with_reducible refine bdrew ?_) | (with_reducible refine bset ?_ ?_) | (with_reducible refine balloc0 ?_) | (with_reducible refine balloc ?_ ?_) | (apply btrans0; rotate_left; assumption) | (apply btrans; rotate_left; assumption) | (simp; done) | omega | (simp; omega)))⟩

set_option maxRecDepth 100000 in
set_option maxHeartbeats 2400000 in
theorem way_gt_sub_x (an ad bn bd cn cd : Int) (w : World) (an1 : -9223372036854775808 ≤ an) (an2 : an ≤ 9223372036854775807) (ad1 : -9223372036854775808 ≤ ad) (ad2 : ad ≤ 9223372036854775807) (bn1 : -9223372036854775808 ≤ bn) (bn2 : bn ≤ 9223372036854775807) (bd1 : -9223372036854775808 ≤ bd) (bd2 : bd ≤ 9223372036854775807) (cn1 : -9223372036854775808 ≤ cn) (cn2 : cn ≤ 9223372036854775807) (cd1 : -9223372036854775808 ≤ cd) (cd2 : cd ≤ 9223372036854775807) (ha : chk (an, ad) = 0) (hb : chk (bn, bd) = 0) (hc : chk (cn, cd) = 0) (n : Int) (hn : cmpS (an, ad) (bn, bd) = n) (hm : cmpS (bn, bd) (an, ad) = -n) (n1 : -1 ≤ n) (n2 : n ≤ 1) (he : ((n == 0) == (an == bn && ad == bd)) = true) (z1 : 0 < n) (dn dd : Int) (hd : opS sub0 (an, ad) (bn, bd) = ((dn, dd), 0)) (zd : (decide (n < 0) == decide (dn < 0)) = true) (xn xd yn yd xe ye : Int) (hx : opS add0 (an, ad) (cn, cd) = ((xn, xd), xe)) (hy : opS add0 (bn, bd) (cn, cd) = ((yn, yd), ye)) (zx : (xe != 0) = true) :
    Calls Try.prog 6 #[.agg #[.int .i64 an, .int .i64 ad], .agg #[.int .i64 bn, .int .i64 bd], .agg #[.int .i64 cn, .int .i64 cd]] w fun e w' => e = .returned (.bool true) ∧ Below w.heap.size w w' := by
  have HA := Lib.hid ha
  have HB := Lib.hid hb
  have HC := Lib.hid hc
  have HN := Lib.hid hn
  have HM := Lib.hid hm
  have HD := Lib.hid hd
  have HX := Lib.hid hx
  have HY := Lib.hid hy
  clear ha hb hc hn hm hd hx hy
  go_enter Try.func6, Try.ntmps6
  go_wp2_with fail
  refine (check_any an ad 0 _ an1 an2 ad1 ad2 HA.out).mono ?_
  rintro e w1 ⟨rfl, hb1⟩
  have cc := (bcell hb1).1
  have zz := hb1.size
  try simp at zz
  have l1_0 : w.heap.size < w1.heap.size := by first | omega | (simp at *; omega)
  have g1_0_0 : w1.cell? ⟨w.heap.size, 0, none⟩ = some (.int .i64 an) := by rw [cc _ _ (by first | omega | (simp; done) | (simp; omega))]; first | assumption | go_simp
  have g1_0_1 : w1.cell? ⟨w.heap.size, 1, none⟩ = some (.int .i64 ad) := by rw [cc _ _ (by first | omega | (simp; done) | (simp; omega))]; first | assumption | go_simp
  have l1_1 : w.heap.size + 1 < w1.heap.size := by first | omega | (simp at *; omega)
  have g1_1_0 : w1.cell? ⟨w.heap.size + 1, 0, none⟩ = some (.int .i64 bn) := by rw [cc _ _ (by first | omega | (simp; done) | (simp; omega))]; first | assumption | go_simp
  have g1_1_1 : w1.cell? ⟨w.heap.size + 1, 1, none⟩ = some (.int .i64 bd) := by rw [cc _ _ (by first | omega | (simp; done) | (simp; omega))]; first | assumption | go_simp
  have l1_2 : w.heap.size + 2 < w1.heap.size := by first | omega | (simp at *; omega)
  have g1_2_0 : w1.cell? ⟨w.heap.size + 2, 0, none⟩ = some (.int .i64 cn) := by rw [cc _ _ (by first | omega | (simp; done) | (simp; omega))]; first | assumption | go_simp
  have g1_2_1 : w1.cell? ⟨w.heap.size + 2, 1, none⟩ = some (.int .i64 cd) := by rw [cc _ _ (by first | omega | (simp; done) | (simp; omega))]; first | assumption | go_simp
  clear cc zz
  go_wp2_with fail
  refine (check_any bn bd 0 _ bn1 bn2 bd1 bd2 HB.out).mono ?_
  rintro e w2 ⟨rfl, hb2⟩
  have cc := (bcell hb2).1
  have zz := hb2.size
  try simp at zz
  have l2_0 : w.heap.size < w2.heap.size := by first | omega | (simp at *; omega)
  have g2_0_0 : w2.cell? ⟨w.heap.size, 0, none⟩ = some (.int .i64 an) := by rw [cc _ _ (by first | omega | (simp; done) | (simp; omega))]; first | assumption | go_simp
  have g2_0_1 : w2.cell? ⟨w.heap.size, 1, none⟩ = some (.int .i64 ad) := by rw [cc _ _ (by first | omega | (simp; done) | (simp; omega))]; first | assumption | go_simp
  have l2_1 : w.heap.size + 1 < w2.heap.size := by first | omega | (simp at *; omega)
  have g2_1_0 : w2.cell? ⟨w.heap.size + 1, 0, none⟩ = some (.int .i64 bn) := by rw [cc _ _ (by first | omega | (simp; done) | (simp; omega))]; first | assumption | go_simp
  have g2_1_1 : w2.cell? ⟨w.heap.size + 1, 1, none⟩ = some (.int .i64 bd) := by rw [cc _ _ (by first | omega | (simp; done) | (simp; omega))]; first | assumption | go_simp
  have l2_2 : w.heap.size + 2 < w2.heap.size := by first | omega | (simp at *; omega)
  have g2_2_0 : w2.cell? ⟨w.heap.size + 2, 0, none⟩ = some (.int .i64 cn) := by rw [cc _ _ (by first | omega | (simp; done) | (simp; omega))]; first | assumption | go_simp
  have g2_2_1 : w2.cell? ⟨w.heap.size + 2, 1, none⟩ = some (.int .i64 cd) := by rw [cc _ _ (by first | omega | (simp; done) | (simp; omega))]; first | assumption | go_simp
  clear cc zz
  clear g1_0_0 g1_0_1 g1_1_0 g1_1_1 g1_2_0 g1_2_1
  go_wp2_with fail
  refine (check_any cn cd 0 _ cn1 cn2 cd1 cd2 HC.out).mono ?_
  rintro e w3 ⟨rfl, hb3⟩
  have cc := (bcell hb3).1
  have zz := hb3.size
  try simp at zz
  have l3_0 : w.heap.size < w3.heap.size := by first | omega | (simp at *; omega)
  have g3_0_0 : w3.cell? ⟨w.heap.size, 0, none⟩ = some (.int .i64 an) := by rw [cc _ _ (by first | omega | (simp; done) | (simp; omega))]; first | assumption | go_simp
  have g3_0_1 : w3.cell? ⟨w.heap.size, 1, none⟩ = some (.int .i64 ad) := by rw [cc _ _ (by first | omega | (simp; done) | (simp; omega))]; first | assumption | go_simp
  have l3_1 : w.heap.size + 1 < w3.heap.size := by first | omega | (simp at *; omega)
  have g3_1_0 : w3.cell? ⟨w.heap.size + 1, 0, none⟩ = some (.int .i64 bn) := by rw [cc _ _ (by first | omega | (simp; done) | (simp; omega))]; first | assumption | go_simp
  have g3_1_1 : w3.cell? ⟨w.heap.size + 1, 1, none⟩ = some (.int .i64 bd) := by rw [cc _ _ (by first | omega | (simp; done) | (simp; omega))]; first | assumption | go_simp
  have l3_2 : w.heap.size + 2 < w3.heap.size := by first | omega | (simp at *; omega)
  have g3_2_0 : w3.cell? ⟨w.heap.size + 2, 0, none⟩ = some (.int .i64 cn) := by rw [cc _ _ (by first | omega | (simp; done) | (simp; omega))]; first | assumption | go_simp
  have g3_2_1 : w3.cell? ⟨w.heap.size + 2, 1, none⟩ = some (.int .i64 cd) := by rw [cc _ _ (by first | omega | (simp; done) | (simp; omega))]; first | assumption | go_simp
  clear cc zz
  clear g2_0_0 g2_0_1 g2_1_0 g2_1_1 g2_2_0 g2_2_1
  go_wp2_with fail
  refine (cmp_any an ad bn bd n _ an1 an2 ad1 ad2 bn1 bn2 bd1 bd2 HN.out).mono ?_
  rintro e w4 ⟨rfl, hb4⟩
  have cc := (bcell hb4).1
  have zz := hb4.size
  try simp at zz
  have l4_0 : w.heap.size < w4.heap.size := by first | omega | (simp at *; omega)
  have g4_0_0 : w4.cell? ⟨w.heap.size, 0, none⟩ = some (.int .i64 an) := by rw [cc _ _ (by first | omega | (simp; done) | (simp; omega))]; first | assumption | go_simp
  have g4_0_1 : w4.cell? ⟨w.heap.size, 1, none⟩ = some (.int .i64 ad) := by rw [cc _ _ (by first | omega | (simp; done) | (simp; omega))]; first | assumption | go_simp
  have l4_1 : w.heap.size + 1 < w4.heap.size := by first | omega | (simp at *; omega)
  have g4_1_0 : w4.cell? ⟨w.heap.size + 1, 0, none⟩ = some (.int .i64 bn) := by rw [cc _ _ (by first | omega | (simp; done) | (simp; omega))]; first | assumption | go_simp
  have g4_1_1 : w4.cell? ⟨w.heap.size + 1, 1, none⟩ = some (.int .i64 bd) := by rw [cc _ _ (by first | omega | (simp; done) | (simp; omega))]; first | assumption | go_simp
  have l4_2 : w.heap.size + 2 < w4.heap.size := by first | omega | (simp at *; omega)
  have g4_2_0 : w4.cell? ⟨w.heap.size + 2, 0, none⟩ = some (.int .i64 cn) := by rw [cc _ _ (by first | omega | (simp; done) | (simp; omega))]; first | assumption | go_simp
  have g4_2_1 : w4.cell? ⟨w.heap.size + 2, 1, none⟩ = some (.int .i64 cd) := by rw [cc _ _ (by first | omega | (simp; done) | (simp; omega))]; first | assumption | go_simp
  clear cc zz
  clear g3_0_0 g3_0_1 g3_1_0 g3_1_1 g3_2_0 g3_2_1
  go_wp2_with fail
  refine (cmp_any bn bd an ad (-n) _ bn1 bn2 bd1 bd2 an1 an2 ad1 ad2 HM.out).mono ?_
  rintro e w5 ⟨rfl, hb5⟩
  have cc := (bcell hb5).1
  have zz := hb5.size
  try simp at zz
  have l5_0 : w.heap.size < w5.heap.size := by first | omega | (simp at *; omega)
  have g5_0_0 : w5.cell? ⟨w.heap.size, 0, none⟩ = some (.int .i64 an) := by rw [cc _ _ (by first | omega | (simp; done) | (simp; omega))]; first | assumption | go_simp
  have g5_0_1 : w5.cell? ⟨w.heap.size, 1, none⟩ = some (.int .i64 ad) := by rw [cc _ _ (by first | omega | (simp; done) | (simp; omega))]; first | assumption | go_simp
  have l5_1 : w.heap.size + 1 < w5.heap.size := by first | omega | (simp at *; omega)
  have g5_1_0 : w5.cell? ⟨w.heap.size + 1, 0, none⟩ = some (.int .i64 bn) := by rw [cc _ _ (by first | omega | (simp; done) | (simp; omega))]; first | assumption | go_simp
  have g5_1_1 : w5.cell? ⟨w.heap.size + 1, 1, none⟩ = some (.int .i64 bd) := by rw [cc _ _ (by first | omega | (simp; done) | (simp; omega))]; first | assumption | go_simp
  have l5_2 : w.heap.size + 2 < w5.heap.size := by first | omega | (simp at *; omega)
  have g5_2_0 : w5.cell? ⟨w.heap.size + 2, 0, none⟩ = some (.int .i64 cn) := by rw [cc _ _ (by first | omega | (simp; done) | (simp; omega))]; first | assumption | go_simp
  have g5_2_1 : w5.cell? ⟨w.heap.size + 2, 1, none⟩ = some (.int .i64 cd) := by rw [cc _ _ (by first | omega | (simp; done) | (simp; omega))]; first | assumption | go_simp
  clear cc zz
  clear g4_0_0 g4_0_1 g4_1_0 g4_1_1 g4_2_0 g4_2_1
  go_wp2_with fail
  refine (sub_any an ad bn bd dn dd 0 _ an1 an2 ad1 ad2 bn1 bn2 bd1 bd2 HD.out).mono ?_
  rintro e w6 ⟨rfl, hb6⟩
  have cc := (bcell hb6).1
  have zz := hb6.size
  try simp at zz
  have l6_0 : w.heap.size < w6.heap.size := by first | omega | (simp at *; omega)
  have g6_0_0 : w6.cell? ⟨w.heap.size, 0, none⟩ = some (.int .i64 an) := by rw [cc _ _ (by first | omega | (simp; done) | (simp; omega))]; first | assumption | go_simp
  have g6_0_1 : w6.cell? ⟨w.heap.size, 1, none⟩ = some (.int .i64 ad) := by rw [cc _ _ (by first | omega | (simp; done) | (simp; omega))]; first | assumption | go_simp
  have l6_1 : w.heap.size + 1 < w6.heap.size := by first | omega | (simp at *; omega)
  have g6_1_0 : w6.cell? ⟨w.heap.size + 1, 0, none⟩ = some (.int .i64 bn) := by rw [cc _ _ (by first | omega | (simp; done) | (simp; omega))]; first | assumption | go_simp
  have g6_1_1 : w6.cell? ⟨w.heap.size + 1, 1, none⟩ = some (.int .i64 bd) := by rw [cc _ _ (by first | omega | (simp; done) | (simp; omega))]; first | assumption | go_simp
  have l6_2 : w.heap.size + 2 < w6.heap.size := by first | omega | (simp at *; omega)
  have g6_2_0 : w6.cell? ⟨w.heap.size + 2, 0, none⟩ = some (.int .i64 cn) := by rw [cc _ _ (by first | omega | (simp; done) | (simp; omega))]; first | assumption | go_simp
  have g6_2_1 : w6.cell? ⟨w.heap.size + 2, 1, none⟩ = some (.int .i64 cd) := by rw [cc _ _ (by first | omega | (simp; done) | (simp; omega))]; first | assumption | go_simp
  clear cc zz
  clear g5_0_0 g5_0_1 g5_1_0 g5_1_1 g5_2_0 g5_2_1
  go_wp2_with fail
  refine (add_any an ad cn cd xn xd xe _ an1 an2 ad1 ad2 cn1 cn2 cd1 cd2 HX.out).mono ?_
  rintro e w7 ⟨rfl, hb7⟩
  have cc := (bcell hb7).1
  have zz := hb7.size
  try simp at zz
  have l7_0 : w.heap.size < w7.heap.size := by first | omega | (simp at *; omega)
  have g7_0_0 : w7.cell? ⟨w.heap.size, 0, none⟩ = some (.int .i64 an) := by rw [cc _ _ (by first | omega | (simp; done) | (simp; omega))]; first | assumption | go_simp
  have g7_0_1 : w7.cell? ⟨w.heap.size, 1, none⟩ = some (.int .i64 ad) := by rw [cc _ _ (by first | omega | (simp; done) | (simp; omega))]; first | assumption | go_simp
  have l7_1 : w.heap.size + 1 < w7.heap.size := by first | omega | (simp at *; omega)
  have g7_1_0 : w7.cell? ⟨w.heap.size + 1, 0, none⟩ = some (.int .i64 bn) := by rw [cc _ _ (by first | omega | (simp; done) | (simp; omega))]; first | assumption | go_simp
  have g7_1_1 : w7.cell? ⟨w.heap.size + 1, 1, none⟩ = some (.int .i64 bd) := by rw [cc _ _ (by first | omega | (simp; done) | (simp; omega))]; first | assumption | go_simp
  have l7_2 : w.heap.size + 2 < w7.heap.size := by first | omega | (simp at *; omega)
  have g7_2_0 : w7.cell? ⟨w.heap.size + 2, 0, none⟩ = some (.int .i64 cn) := by rw [cc _ _ (by first | omega | (simp; done) | (simp; omega))]; first | assumption | go_simp
  have g7_2_1 : w7.cell? ⟨w.heap.size + 2, 1, none⟩ = some (.int .i64 cd) := by rw [cc _ _ (by first | omega | (simp; done) | (simp; omega))]; first | assumption | go_simp
  have l7_3 : w6.heap.size < w7.heap.size := by first | omega | (simp at *; omega)
  have g7_3_0 : w7.cell? ⟨w6.heap.size, 0, none⟩ = some (.int .i64 dn) := by rw [cc _ _ (by first | omega | (simp; done) | (simp; omega))]; first | assumption | go_simp
  have g7_3_1 : w7.cell? ⟨w6.heap.size, 1, none⟩ = some (.int .i64 dd) := by rw [cc _ _ (by first | omega | (simp; done) | (simp; omega))]; first | assumption | go_simp
  clear cc zz
  clear g6_0_0 g6_0_1 g6_1_0 g6_1_1 g6_2_0 g6_2_1
  go_wp2_with fail
  refine (add_any bn bd cn cd yn yd ye _ bn1 bn2 bd1 bd2 cn1 cn2 cd1 cd2 HY.out).mono ?_
  rintro e w8 ⟨rfl, hb8⟩
  have cc := (bcell hb8).1
  have zz := hb8.size
  try simp at zz
  have l8_0 : w.heap.size < w8.heap.size := by first | omega | (simp at *; omega)
  have g8_0_0 : w8.cell? ⟨w.heap.size, 0, none⟩ = some (.int .i64 an) := by rw [cc _ _ (by first | omega | (simp; done) | (simp; omega))]; first | assumption | go_simp
  have g8_0_1 : w8.cell? ⟨w.heap.size, 1, none⟩ = some (.int .i64 ad) := by rw [cc _ _ (by first | omega | (simp; done) | (simp; omega))]; first | assumption | go_simp
  have l8_1 : w.heap.size + 1 < w8.heap.size := by first | omega | (simp at *; omega)
  have g8_1_0 : w8.cell? ⟨w.heap.size + 1, 0, none⟩ = some (.int .i64 bn) := by rw [cc _ _ (by first | omega | (simp; done) | (simp; omega))]; first | assumption | go_simp
  have g8_1_1 : w8.cell? ⟨w.heap.size + 1, 1, none⟩ = some (.int .i64 bd) := by rw [cc _ _ (by first | omega | (simp; done) | (simp; omega))]; first | assumption | go_simp
  have l8_2 : w.heap.size + 2 < w8.heap.size := by first | omega | (simp at *; omega)
  have g8_2_0 : w8.cell? ⟨w.heap.size + 2, 0, none⟩ = some (.int .i64 cn) := by rw [cc _ _ (by first | omega | (simp; done) | (simp; omega))]; first | assumption | go_simp
  have g8_2_1 : w8.cell? ⟨w.heap.size + 2, 1, none⟩ = some (.int .i64 cd) := by rw [cc _ _ (by first | omega | (simp; done) | (simp; omega))]; first | assumption | go_simp
  have l8_3 : w6.heap.size < w8.heap.size := by first | omega | (simp at *; omega)
  have g8_3_0 : w8.cell? ⟨w6.heap.size, 0, none⟩ = some (.int .i64 dn) := by rw [cc _ _ (by first | omega | (simp; done) | (simp; omega))]; first | assumption | go_simp
  have g8_3_1 : w8.cell? ⟨w6.heap.size, 1, none⟩ = some (.int .i64 dd) := by rw [cc _ _ (by first | omega | (simp; done) | (simp; omega))]; first | assumption | go_simp
  have l8_4 : w7.heap.size < w8.heap.size := by first | omega | (simp at *; omega)
  have g8_4_0 : w8.cell? ⟨w7.heap.size, 0, none⟩ = some (.int .i64 xn) := by rw [cc _ _ (by first | omega | (simp; done) | (simp; omega))]; first | assumption | go_simp
  have g8_4_1 : w8.cell? ⟨w7.heap.size, 1, none⟩ = some (.int .i64 xd) := by rw [cc _ _ (by first | omega | (simp; done) | (simp; omega))]; first | assumption | go_simp
  clear cc zz
  clear g7_0_0 g7_0_1 g7_1_0 g7_1_1 g7_2_0 g7_2_1 g7_3_0 g7_3_1
  go_wp2_with fail
  refine (awake_any _).mono ?_
  rintro e w9 ⟨rfl, hb9⟩
  have cc := (bcell hb9).1
  have zz := hb9.size
  try simp at zz
  have l9_0 : w.heap.size < w9.heap.size := by first | omega | (simp at *; omega)
  have g9_0_0 : w9.cell? ⟨w.heap.size, 0, none⟩ = some (.int .i64 an) := by rw [cc _ _ (by first | omega | (simp; done) | (simp; omega))]; first | assumption | go_simp
  have g9_0_1 : w9.cell? ⟨w.heap.size, 1, none⟩ = some (.int .i64 ad) := by rw [cc _ _ (by first | omega | (simp; done) | (simp; omega))]; first | assumption | go_simp
  have l9_1 : w.heap.size + 1 < w9.heap.size := by first | omega | (simp at *; omega)
  have g9_1_0 : w9.cell? ⟨w.heap.size + 1, 0, none⟩ = some (.int .i64 bn) := by rw [cc _ _ (by first | omega | (simp; done) | (simp; omega))]; first | assumption | go_simp
  have g9_1_1 : w9.cell? ⟨w.heap.size + 1, 1, none⟩ = some (.int .i64 bd) := by rw [cc _ _ (by first | omega | (simp; done) | (simp; omega))]; first | assumption | go_simp
  have l9_2 : w.heap.size + 2 < w9.heap.size := by first | omega | (simp at *; omega)
  have g9_2_0 : w9.cell? ⟨w.heap.size + 2, 0, none⟩ = some (.int .i64 cn) := by rw [cc _ _ (by first | omega | (simp; done) | (simp; omega))]; first | assumption | go_simp
  have g9_2_1 : w9.cell? ⟨w.heap.size + 2, 1, none⟩ = some (.int .i64 cd) := by rw [cc _ _ (by first | omega | (simp; done) | (simp; omega))]; first | assumption | go_simp
  have l9_3 : w6.heap.size < w9.heap.size := by first | omega | (simp at *; omega)
  have g9_3_0 : w9.cell? ⟨w6.heap.size, 0, none⟩ = some (.int .i64 dn) := by rw [cc _ _ (by first | omega | (simp; done) | (simp; omega))]; first | assumption | go_simp
  have g9_3_1 : w9.cell? ⟨w6.heap.size, 1, none⟩ = some (.int .i64 dd) := by rw [cc _ _ (by first | omega | (simp; done) | (simp; omega))]; first | assumption | go_simp
  have l9_4 : w7.heap.size < w9.heap.size := by first | omega | (simp at *; omega)
  have g9_4_0 : w9.cell? ⟨w7.heap.size, 0, none⟩ = some (.int .i64 xn) := by rw [cc _ _ (by first | omega | (simp; done) | (simp; omega))]; first | assumption | go_simp
  have g9_4_1 : w9.cell? ⟨w7.heap.size, 1, none⟩ = some (.int .i64 xd) := by rw [cc _ _ (by first | omega | (simp; done) | (simp; omega))]; first | assumption | go_simp
  have l9_5 : w8.heap.size < w9.heap.size := by first | omega | (simp at *; omega)
  have g9_5_0 : w9.cell? ⟨w8.heap.size, 0, none⟩ = some (.int .i64 yn) := by rw [cc _ _ (by first | omega | (simp; done) | (simp; omega))]; first | assumption | go_simp
  have g9_5_1 : w9.cell? ⟨w8.heap.size, 1, none⟩ = some (.int .i64 yd) := by rw [cc _ _ (by first | omega | (simp; done) | (simp; omega))]; first | assumption | go_simp
  clear cc zz
  clear g8_0_0 g8_0_1 g8_1_0 g8_1_1 g8_2_0 g8_2_1 g8_3_0 g8_3_1 g8_4_0 g8_4_1
  go_wp2
  go_ret
  exact ⟨rfl, (by repeat' (first | exact Below.refl _ _ | assumption | (with_reducible refine bdrewN ?_ _) | (with_reducible refine bdrew ?_) | (with_reducible refine bset ?_ ?_) | (with_reducible refine balloc0 ?_) | (with_reducible refine balloc ?_ ?_) | (apply btrans0; rotate_left; assumption) | (apply btrans; rotate_left; assumption) | (simp; done) | omega | (simp; omega)))⟩

set_option maxRecDepth 100000 in
set_option maxHeartbeats 2400000 in
theorem way_gt_sub_y (an ad bn bd cn cd : Int) (w : World) (an1 : -9223372036854775808 ≤ an) (an2 : an ≤ 9223372036854775807) (ad1 : -9223372036854775808 ≤ ad) (ad2 : ad ≤ 9223372036854775807) (bn1 : -9223372036854775808 ≤ bn) (bn2 : bn ≤ 9223372036854775807) (bd1 : -9223372036854775808 ≤ bd) (bd2 : bd ≤ 9223372036854775807) (cn1 : -9223372036854775808 ≤ cn) (cn2 : cn ≤ 9223372036854775807) (cd1 : -9223372036854775808 ≤ cd) (cd2 : cd ≤ 9223372036854775807) (ha : chk (an, ad) = 0) (hb : chk (bn, bd) = 0) (hc : chk (cn, cd) = 0) (n : Int) (hn : cmpS (an, ad) (bn, bd) = n) (hm : cmpS (bn, bd) (an, ad) = -n) (n1 : -1 ≤ n) (n2 : n ≤ 1) (he : ((n == 0) == (an == bn && ad == bd)) = true) (z1 : 0 < n) (dn dd : Int) (hd : opS sub0 (an, ad) (bn, bd) = ((dn, dd), 0)) (zd : (decide (n < 0) == decide (dn < 0)) = true) (xn xd yn yd ye : Int) (hx : opS add0 (an, ad) (cn, cd) = ((xn, xd), 0)) (hy : opS add0 (bn, bd) (cn, cd) = ((yn, yd), ye)) (zy : (ye != 0) = true) :
    Calls Try.prog 6 #[.agg #[.int .i64 an, .int .i64 ad], .agg #[.int .i64 bn, .int .i64 bd], .agg #[.int .i64 cn, .int .i64 cd]] w fun e w' => e = .returned (.bool true) ∧ Below w.heap.size w w' := by
  have HA := Lib.hid ha
  have HB := Lib.hid hb
  have HC := Lib.hid hc
  have HN := Lib.hid hn
  have HM := Lib.hid hm
  have HD := Lib.hid hd
  have HX := Lib.hid hx
  have HY := Lib.hid hy
  clear ha hb hc hn hm hd hx hy
  go_enter Try.func6, Try.ntmps6
  go_wp2_with fail
  refine (check_any an ad 0 _ an1 an2 ad1 ad2 HA.out).mono ?_
  rintro e w1 ⟨rfl, hb1⟩
  have cc := (bcell hb1).1
  have zz := hb1.size
  try simp at zz
  have l1_0 : w.heap.size < w1.heap.size := by first | omega | (simp at *; omega)
  have g1_0_0 : w1.cell? ⟨w.heap.size, 0, none⟩ = some (.int .i64 an) := by rw [cc _ _ (by first | omega | (simp; done) | (simp; omega))]; first | assumption | go_simp
  have g1_0_1 : w1.cell? ⟨w.heap.size, 1, none⟩ = some (.int .i64 ad) := by rw [cc _ _ (by first | omega | (simp; done) | (simp; omega))]; first | assumption | go_simp
  have l1_1 : w.heap.size + 1 < w1.heap.size := by first | omega | (simp at *; omega)
  have g1_1_0 : w1.cell? ⟨w.heap.size + 1, 0, none⟩ = some (.int .i64 bn) := by rw [cc _ _ (by first | omega | (simp; done) | (simp; omega))]; first | assumption | go_simp
  have g1_1_1 : w1.cell? ⟨w.heap.size + 1, 1, none⟩ = some (.int .i64 bd) := by rw [cc _ _ (by first | omega | (simp; done) | (simp; omega))]; first | assumption | go_simp
  have l1_2 : w.heap.size + 2 < w1.heap.size := by first | omega | (simp at *; omega)
  have g1_2_0 : w1.cell? ⟨w.heap.size + 2, 0, none⟩ = some (.int .i64 cn) := by rw [cc _ _ (by first | omega | (simp; done) | (simp; omega))]; first | assumption | go_simp
  have g1_2_1 : w1.cell? ⟨w.heap.size + 2, 1, none⟩ = some (.int .i64 cd) := by rw [cc _ _ (by first | omega | (simp; done) | (simp; omega))]; first | assumption | go_simp
  clear cc zz
  go_wp2_with fail
  refine (check_any bn bd 0 _ bn1 bn2 bd1 bd2 HB.out).mono ?_
  rintro e w2 ⟨rfl, hb2⟩
  have cc := (bcell hb2).1
  have zz := hb2.size
  try simp at zz
  have l2_0 : w.heap.size < w2.heap.size := by first | omega | (simp at *; omega)
  have g2_0_0 : w2.cell? ⟨w.heap.size, 0, none⟩ = some (.int .i64 an) := by rw [cc _ _ (by first | omega | (simp; done) | (simp; omega))]; first | assumption | go_simp
  have g2_0_1 : w2.cell? ⟨w.heap.size, 1, none⟩ = some (.int .i64 ad) := by rw [cc _ _ (by first | omega | (simp; done) | (simp; omega))]; first | assumption | go_simp
  have l2_1 : w.heap.size + 1 < w2.heap.size := by first | omega | (simp at *; omega)
  have g2_1_0 : w2.cell? ⟨w.heap.size + 1, 0, none⟩ = some (.int .i64 bn) := by rw [cc _ _ (by first | omega | (simp; done) | (simp; omega))]; first | assumption | go_simp
  have g2_1_1 : w2.cell? ⟨w.heap.size + 1, 1, none⟩ = some (.int .i64 bd) := by rw [cc _ _ (by first | omega | (simp; done) | (simp; omega))]; first | assumption | go_simp
  have l2_2 : w.heap.size + 2 < w2.heap.size := by first | omega | (simp at *; omega)
  have g2_2_0 : w2.cell? ⟨w.heap.size + 2, 0, none⟩ = some (.int .i64 cn) := by rw [cc _ _ (by first | omega | (simp; done) | (simp; omega))]; first | assumption | go_simp
  have g2_2_1 : w2.cell? ⟨w.heap.size + 2, 1, none⟩ = some (.int .i64 cd) := by rw [cc _ _ (by first | omega | (simp; done) | (simp; omega))]; first | assumption | go_simp
  clear cc zz
  clear g1_0_0 g1_0_1 g1_1_0 g1_1_1 g1_2_0 g1_2_1
  go_wp2_with fail
  refine (check_any cn cd 0 _ cn1 cn2 cd1 cd2 HC.out).mono ?_
  rintro e w3 ⟨rfl, hb3⟩
  have cc := (bcell hb3).1
  have zz := hb3.size
  try simp at zz
  have l3_0 : w.heap.size < w3.heap.size := by first | omega | (simp at *; omega)
  have g3_0_0 : w3.cell? ⟨w.heap.size, 0, none⟩ = some (.int .i64 an) := by rw [cc _ _ (by first | omega | (simp; done) | (simp; omega))]; first | assumption | go_simp
  have g3_0_1 : w3.cell? ⟨w.heap.size, 1, none⟩ = some (.int .i64 ad) := by rw [cc _ _ (by first | omega | (simp; done) | (simp; omega))]; first | assumption | go_simp
  have l3_1 : w.heap.size + 1 < w3.heap.size := by first | omega | (simp at *; omega)
  have g3_1_0 : w3.cell? ⟨w.heap.size + 1, 0, none⟩ = some (.int .i64 bn) := by rw [cc _ _ (by first | omega | (simp; done) | (simp; omega))]; first | assumption | go_simp
  have g3_1_1 : w3.cell? ⟨w.heap.size + 1, 1, none⟩ = some (.int .i64 bd) := by rw [cc _ _ (by first | omega | (simp; done) | (simp; omega))]; first | assumption | go_simp
  have l3_2 : w.heap.size + 2 < w3.heap.size := by first | omega | (simp at *; omega)
  have g3_2_0 : w3.cell? ⟨w.heap.size + 2, 0, none⟩ = some (.int .i64 cn) := by rw [cc _ _ (by first | omega | (simp; done) | (simp; omega))]; first | assumption | go_simp
  have g3_2_1 : w3.cell? ⟨w.heap.size + 2, 1, none⟩ = some (.int .i64 cd) := by rw [cc _ _ (by first | omega | (simp; done) | (simp; omega))]; first | assumption | go_simp
  clear cc zz
  clear g2_0_0 g2_0_1 g2_1_0 g2_1_1 g2_2_0 g2_2_1
  go_wp2_with fail
  refine (cmp_any an ad bn bd n _ an1 an2 ad1 ad2 bn1 bn2 bd1 bd2 HN.out).mono ?_
  rintro e w4 ⟨rfl, hb4⟩
  have cc := (bcell hb4).1
  have zz := hb4.size
  try simp at zz
  have l4_0 : w.heap.size < w4.heap.size := by first | omega | (simp at *; omega)
  have g4_0_0 : w4.cell? ⟨w.heap.size, 0, none⟩ = some (.int .i64 an) := by rw [cc _ _ (by first | omega | (simp; done) | (simp; omega))]; first | assumption | go_simp
  have g4_0_1 : w4.cell? ⟨w.heap.size, 1, none⟩ = some (.int .i64 ad) := by rw [cc _ _ (by first | omega | (simp; done) | (simp; omega))]; first | assumption | go_simp
  have l4_1 : w.heap.size + 1 < w4.heap.size := by first | omega | (simp at *; omega)
  have g4_1_0 : w4.cell? ⟨w.heap.size + 1, 0, none⟩ = some (.int .i64 bn) := by rw [cc _ _ (by first | omega | (simp; done) | (simp; omega))]; first | assumption | go_simp
  have g4_1_1 : w4.cell? ⟨w.heap.size + 1, 1, none⟩ = some (.int .i64 bd) := by rw [cc _ _ (by first | omega | (simp; done) | (simp; omega))]; first | assumption | go_simp
  have l4_2 : w.heap.size + 2 < w4.heap.size := by first | omega | (simp at *; omega)
  have g4_2_0 : w4.cell? ⟨w.heap.size + 2, 0, none⟩ = some (.int .i64 cn) := by rw [cc _ _ (by first | omega | (simp; done) | (simp; omega))]; first | assumption | go_simp
  have g4_2_1 : w4.cell? ⟨w.heap.size + 2, 1, none⟩ = some (.int .i64 cd) := by rw [cc _ _ (by first | omega | (simp; done) | (simp; omega))]; first | assumption | go_simp
  clear cc zz
  clear g3_0_0 g3_0_1 g3_1_0 g3_1_1 g3_2_0 g3_2_1
  go_wp2_with fail
  refine (cmp_any bn bd an ad (-n) _ bn1 bn2 bd1 bd2 an1 an2 ad1 ad2 HM.out).mono ?_
  rintro e w5 ⟨rfl, hb5⟩
  have cc := (bcell hb5).1
  have zz := hb5.size
  try simp at zz
  have l5_0 : w.heap.size < w5.heap.size := by first | omega | (simp at *; omega)
  have g5_0_0 : w5.cell? ⟨w.heap.size, 0, none⟩ = some (.int .i64 an) := by rw [cc _ _ (by first | omega | (simp; done) | (simp; omega))]; first | assumption | go_simp
  have g5_0_1 : w5.cell? ⟨w.heap.size, 1, none⟩ = some (.int .i64 ad) := by rw [cc _ _ (by first | omega | (simp; done) | (simp; omega))]; first | assumption | go_simp
  have l5_1 : w.heap.size + 1 < w5.heap.size := by first | omega | (simp at *; omega)
  have g5_1_0 : w5.cell? ⟨w.heap.size + 1, 0, none⟩ = some (.int .i64 bn) := by rw [cc _ _ (by first | omega | (simp; done) | (simp; omega))]; first | assumption | go_simp
  have g5_1_1 : w5.cell? ⟨w.heap.size + 1, 1, none⟩ = some (.int .i64 bd) := by rw [cc _ _ (by first | omega | (simp; done) | (simp; omega))]; first | assumption | go_simp
  have l5_2 : w.heap.size + 2 < w5.heap.size := by first | omega | (simp at *; omega)
  have g5_2_0 : w5.cell? ⟨w.heap.size + 2, 0, none⟩ = some (.int .i64 cn) := by rw [cc _ _ (by first | omega | (simp; done) | (simp; omega))]; first | assumption | go_simp
  have g5_2_1 : w5.cell? ⟨w.heap.size + 2, 1, none⟩ = some (.int .i64 cd) := by rw [cc _ _ (by first | omega | (simp; done) | (simp; omega))]; first | assumption | go_simp
  clear cc zz
  clear g4_0_0 g4_0_1 g4_1_0 g4_1_1 g4_2_0 g4_2_1
  go_wp2_with fail
  refine (sub_any an ad bn bd dn dd 0 _ an1 an2 ad1 ad2 bn1 bn2 bd1 bd2 HD.out).mono ?_
  rintro e w6 ⟨rfl, hb6⟩
  have cc := (bcell hb6).1
  have zz := hb6.size
  try simp at zz
  have l6_0 : w.heap.size < w6.heap.size := by first | omega | (simp at *; omega)
  have g6_0_0 : w6.cell? ⟨w.heap.size, 0, none⟩ = some (.int .i64 an) := by rw [cc _ _ (by first | omega | (simp; done) | (simp; omega))]; first | assumption | go_simp
  have g6_0_1 : w6.cell? ⟨w.heap.size, 1, none⟩ = some (.int .i64 ad) := by rw [cc _ _ (by first | omega | (simp; done) | (simp; omega))]; first | assumption | go_simp
  have l6_1 : w.heap.size + 1 < w6.heap.size := by first | omega | (simp at *; omega)
  have g6_1_0 : w6.cell? ⟨w.heap.size + 1, 0, none⟩ = some (.int .i64 bn) := by rw [cc _ _ (by first | omega | (simp; done) | (simp; omega))]; first | assumption | go_simp
  have g6_1_1 : w6.cell? ⟨w.heap.size + 1, 1, none⟩ = some (.int .i64 bd) := by rw [cc _ _ (by first | omega | (simp; done) | (simp; omega))]; first | assumption | go_simp
  have l6_2 : w.heap.size + 2 < w6.heap.size := by first | omega | (simp at *; omega)
  have g6_2_0 : w6.cell? ⟨w.heap.size + 2, 0, none⟩ = some (.int .i64 cn) := by rw [cc _ _ (by first | omega | (simp; done) | (simp; omega))]; first | assumption | go_simp
  have g6_2_1 : w6.cell? ⟨w.heap.size + 2, 1, none⟩ = some (.int .i64 cd) := by rw [cc _ _ (by first | omega | (simp; done) | (simp; omega))]; first | assumption | go_simp
  clear cc zz
  clear g5_0_0 g5_0_1 g5_1_0 g5_1_1 g5_2_0 g5_2_1
  go_wp2_with fail
  refine (add_any an ad cn cd xn xd 0 _ an1 an2 ad1 ad2 cn1 cn2 cd1 cd2 HX.out).mono ?_
  rintro e w7 ⟨rfl, hb7⟩
  have cc := (bcell hb7).1
  have zz := hb7.size
  try simp at zz
  have l7_0 : w.heap.size < w7.heap.size := by first | omega | (simp at *; omega)
  have g7_0_0 : w7.cell? ⟨w.heap.size, 0, none⟩ = some (.int .i64 an) := by rw [cc _ _ (by first | omega | (simp; done) | (simp; omega))]; first | assumption | go_simp
  have g7_0_1 : w7.cell? ⟨w.heap.size, 1, none⟩ = some (.int .i64 ad) := by rw [cc _ _ (by first | omega | (simp; done) | (simp; omega))]; first | assumption | go_simp
  have l7_1 : w.heap.size + 1 < w7.heap.size := by first | omega | (simp at *; omega)
  have g7_1_0 : w7.cell? ⟨w.heap.size + 1, 0, none⟩ = some (.int .i64 bn) := by rw [cc _ _ (by first | omega | (simp; done) | (simp; omega))]; first | assumption | go_simp
  have g7_1_1 : w7.cell? ⟨w.heap.size + 1, 1, none⟩ = some (.int .i64 bd) := by rw [cc _ _ (by first | omega | (simp; done) | (simp; omega))]; first | assumption | go_simp
  have l7_2 : w.heap.size + 2 < w7.heap.size := by first | omega | (simp at *; omega)
  have g7_2_0 : w7.cell? ⟨w.heap.size + 2, 0, none⟩ = some (.int .i64 cn) := by rw [cc _ _ (by first | omega | (simp; done) | (simp; omega))]; first | assumption | go_simp
  have g7_2_1 : w7.cell? ⟨w.heap.size + 2, 1, none⟩ = some (.int .i64 cd) := by rw [cc _ _ (by first | omega | (simp; done) | (simp; omega))]; first | assumption | go_simp
  have l7_3 : w6.heap.size < w7.heap.size := by first | omega | (simp at *; omega)
  have g7_3_0 : w7.cell? ⟨w6.heap.size, 0, none⟩ = some (.int .i64 dn) := by rw [cc _ _ (by first | omega | (simp; done) | (simp; omega))]; first | assumption | go_simp
  have g7_3_1 : w7.cell? ⟨w6.heap.size, 1, none⟩ = some (.int .i64 dd) := by rw [cc _ _ (by first | omega | (simp; done) | (simp; omega))]; first | assumption | go_simp
  clear cc zz
  clear g6_0_0 g6_0_1 g6_1_0 g6_1_1 g6_2_0 g6_2_1
  go_wp2_with fail
  refine (add_any bn bd cn cd yn yd ye _ bn1 bn2 bd1 bd2 cn1 cn2 cd1 cd2 HY.out).mono ?_
  rintro e w8 ⟨rfl, hb8⟩
  have cc := (bcell hb8).1
  have zz := hb8.size
  try simp at zz
  have l8_0 : w.heap.size < w8.heap.size := by first | omega | (simp at *; omega)
  have g8_0_0 : w8.cell? ⟨w.heap.size, 0, none⟩ = some (.int .i64 an) := by rw [cc _ _ (by first | omega | (simp; done) | (simp; omega))]; first | assumption | go_simp
  have g8_0_1 : w8.cell? ⟨w.heap.size, 1, none⟩ = some (.int .i64 ad) := by rw [cc _ _ (by first | omega | (simp; done) | (simp; omega))]; first | assumption | go_simp
  have l8_1 : w.heap.size + 1 < w8.heap.size := by first | omega | (simp at *; omega)
  have g8_1_0 : w8.cell? ⟨w.heap.size + 1, 0, none⟩ = some (.int .i64 bn) := by rw [cc _ _ (by first | omega | (simp; done) | (simp; omega))]; first | assumption | go_simp
  have g8_1_1 : w8.cell? ⟨w.heap.size + 1, 1, none⟩ = some (.int .i64 bd) := by rw [cc _ _ (by first | omega | (simp; done) | (simp; omega))]; first | assumption | go_simp
  have l8_2 : w.heap.size + 2 < w8.heap.size := by first | omega | (simp at *; omega)
  have g8_2_0 : w8.cell? ⟨w.heap.size + 2, 0, none⟩ = some (.int .i64 cn) := by rw [cc _ _ (by first | omega | (simp; done) | (simp; omega))]; first | assumption | go_simp
  have g8_2_1 : w8.cell? ⟨w.heap.size + 2, 1, none⟩ = some (.int .i64 cd) := by rw [cc _ _ (by first | omega | (simp; done) | (simp; omega))]; first | assumption | go_simp
  have l8_3 : w6.heap.size < w8.heap.size := by first | omega | (simp at *; omega)
  have g8_3_0 : w8.cell? ⟨w6.heap.size, 0, none⟩ = some (.int .i64 dn) := by rw [cc _ _ (by first | omega | (simp; done) | (simp; omega))]; first | assumption | go_simp
  have g8_3_1 : w8.cell? ⟨w6.heap.size, 1, none⟩ = some (.int .i64 dd) := by rw [cc _ _ (by first | omega | (simp; done) | (simp; omega))]; first | assumption | go_simp
  have l8_4 : w7.heap.size < w8.heap.size := by first | omega | (simp at *; omega)
  have g8_4_0 : w8.cell? ⟨w7.heap.size, 0, none⟩ = some (.int .i64 xn) := by rw [cc _ _ (by first | omega | (simp; done) | (simp; omega))]; first | assumption | go_simp
  have g8_4_1 : w8.cell? ⟨w7.heap.size, 1, none⟩ = some (.int .i64 xd) := by rw [cc _ _ (by first | omega | (simp; done) | (simp; omega))]; first | assumption | go_simp
  clear cc zz
  clear g7_0_0 g7_0_1 g7_1_0 g7_1_1 g7_2_0 g7_2_1 g7_3_0 g7_3_1
  go_wp2_with fail
  refine (awake_any _).mono ?_
  rintro e w9 ⟨rfl, hb9⟩
  have cc := (bcell hb9).1
  have zz := hb9.size
  try simp at zz
  have l9_0 : w.heap.size < w9.heap.size := by first | omega | (simp at *; omega)
  have g9_0_0 : w9.cell? ⟨w.heap.size, 0, none⟩ = some (.int .i64 an) := by rw [cc _ _ (by first | omega | (simp; done) | (simp; omega))]; first | assumption | go_simp
  have g9_0_1 : w9.cell? ⟨w.heap.size, 1, none⟩ = some (.int .i64 ad) := by rw [cc _ _ (by first | omega | (simp; done) | (simp; omega))]; first | assumption | go_simp
  have l9_1 : w.heap.size + 1 < w9.heap.size := by first | omega | (simp at *; omega)
  have g9_1_0 : w9.cell? ⟨w.heap.size + 1, 0, none⟩ = some (.int .i64 bn) := by rw [cc _ _ (by first | omega | (simp; done) | (simp; omega))]; first | assumption | go_simp
  have g9_1_1 : w9.cell? ⟨w.heap.size + 1, 1, none⟩ = some (.int .i64 bd) := by rw [cc _ _ (by first | omega | (simp; done) | (simp; omega))]; first | assumption | go_simp
  have l9_2 : w.heap.size + 2 < w9.heap.size := by first | omega | (simp at *; omega)
  have g9_2_0 : w9.cell? ⟨w.heap.size + 2, 0, none⟩ = some (.int .i64 cn) := by rw [cc _ _ (by first | omega | (simp; done) | (simp; omega))]; first | assumption | go_simp
  have g9_2_1 : w9.cell? ⟨w.heap.size + 2, 1, none⟩ = some (.int .i64 cd) := by rw [cc _ _ (by first | omega | (simp; done) | (simp; omega))]; first | assumption | go_simp
  have l9_3 : w6.heap.size < w9.heap.size := by first | omega | (simp at *; omega)
  have g9_3_0 : w9.cell? ⟨w6.heap.size, 0, none⟩ = some (.int .i64 dn) := by rw [cc _ _ (by first | omega | (simp; done) | (simp; omega))]; first | assumption | go_simp
  have g9_3_1 : w9.cell? ⟨w6.heap.size, 1, none⟩ = some (.int .i64 dd) := by rw [cc _ _ (by first | omega | (simp; done) | (simp; omega))]; first | assumption | go_simp
  have l9_4 : w7.heap.size < w9.heap.size := by first | omega | (simp at *; omega)
  have g9_4_0 : w9.cell? ⟨w7.heap.size, 0, none⟩ = some (.int .i64 xn) := by rw [cc _ _ (by first | omega | (simp; done) | (simp; omega))]; first | assumption | go_simp
  have g9_4_1 : w9.cell? ⟨w7.heap.size, 1, none⟩ = some (.int .i64 xd) := by rw [cc _ _ (by first | omega | (simp; done) | (simp; omega))]; first | assumption | go_simp
  have l9_5 : w8.heap.size < w9.heap.size := by first | omega | (simp at *; omega)
  have g9_5_0 : w9.cell? ⟨w8.heap.size, 0, none⟩ = some (.int .i64 yn) := by rw [cc _ _ (by first | omega | (simp; done) | (simp; omega))]; first | assumption | go_simp
  have g9_5_1 : w9.cell? ⟨w8.heap.size, 1, none⟩ = some (.int .i64 yd) := by rw [cc _ _ (by first | omega | (simp; done) | (simp; omega))]; first | assumption | go_simp
  clear cc zz
  clear g8_0_0 g8_0_1 g8_1_0 g8_1_1 g8_2_0 g8_2_1 g8_3_0 g8_3_1 g8_4_0 g8_4_1
  go_wp2
  go_ret
  exact ⟨rfl, (by repeat' (first | exact Below.refl _ _ | assumption | (with_reducible refine bdrewN ?_ _) | (with_reducible refine bdrew ?_) | (with_reducible refine bset ?_ ?_) | (with_reducible refine balloc0 ?_) | (with_reducible refine balloc ?_ ?_) | (apply btrans0; rotate_left; assumption) | (apply btrans; rotate_left; assumption) | (simp; done) | omega | (simp; omega)))⟩

set_option maxRecDepth 100000 in
set_option maxHeartbeats 2400000 in
theorem way_gt_sub_ok (an ad bn bd cn cd : Int) (w : World) (an1 : -9223372036854775808 ≤ an) (an2 : an ≤ 9223372036854775807) (ad1 : -9223372036854775808 ≤ ad) (ad2 : ad ≤ 9223372036854775807) (bn1 : -9223372036854775808 ≤ bn) (bn2 : bn ≤ 9223372036854775807) (bd1 : -9223372036854775808 ≤ bd) (bd2 : bd ≤ 9223372036854775807) (cn1 : -9223372036854775808 ≤ cn) (cn2 : cn ≤ 9223372036854775807) (cd1 : -9223372036854775808 ≤ cd) (cd2 : cd ≤ 9223372036854775807) (ha : chk (an, ad) = 0) (hb : chk (bn, bd) = 0) (hc : chk (cn, cd) = 0) (n : Int) (hn : cmpS (an, ad) (bn, bd) = n) (hm : cmpS (bn, bd) (an, ad) = -n) (n1 : -1 ≤ n) (n2 : n ≤ 1) (he : ((n == 0) == (an == bn && ad == bd)) = true) (z1 : 0 < n) (dn dd : Int) (hd : opS sub0 (an, ad) (bn, bd) = ((dn, dd), 0)) (zd : (decide (n < 0) == decide (dn < 0)) = true) (xn xd yn yd : Int) (hx : opS add0 (an, ad) (cn, cd) = ((xn, xd), 0)) (hy : opS add0 (bn, bd) (cn, cd) = ((yn, yd), 0)) (xn1 : -9223372036854775808 ≤ xn) (xn2 : xn ≤ 9223372036854775807) (xd1 : -9223372036854775808 ≤ xd) (xd2 : xd ≤ 9223372036854775807) (yn1 : -9223372036854775808 ≤ yn) (yn2 : yn ≤ 9223372036854775807) (yd1 : -9223372036854775808 ≤ yd) (yd2 : yd ≤ 9223372036854775807) (hz : cmpS (xn, xd) (yn, yd) = n) :
    Calls Try.prog 6 #[.agg #[.int .i64 an, .int .i64 ad], .agg #[.int .i64 bn, .int .i64 bd], .agg #[.int .i64 cn, .int .i64 cd]] w fun e w' => e = .returned (.bool true) ∧ Below w.heap.size w w' := by
  have HA := Lib.hid ha
  have HB := Lib.hid hb
  have HC := Lib.hid hc
  have HN := Lib.hid hn
  have HM := Lib.hid hm
  have HD := Lib.hid hd
  have HX := Lib.hid hx
  have HY := Lib.hid hy
  have HZ := Lib.hid hz
  clear ha hb hc hn hm hd hx hy hz
  go_enter Try.func6, Try.ntmps6
  go_wp2_with fail
  refine (check_any an ad 0 _ an1 an2 ad1 ad2 HA.out).mono ?_
  rintro e w1 ⟨rfl, hb1⟩
  have cc := (bcell hb1).1
  have zz := hb1.size
  try simp at zz
  have l1_0 : w.heap.size < w1.heap.size := by first | omega | (simp at *; omega)
  have g1_0_0 : w1.cell? ⟨w.heap.size, 0, none⟩ = some (.int .i64 an) := by rw [cc _ _ (by first | omega | (simp; done) | (simp; omega))]; first | assumption | go_simp
  have g1_0_1 : w1.cell? ⟨w.heap.size, 1, none⟩ = some (.int .i64 ad) := by rw [cc _ _ (by first | omega | (simp; done) | (simp; omega))]; first | assumption | go_simp
  have l1_1 : w.heap.size + 1 < w1.heap.size := by first | omega | (simp at *; omega)
  have g1_1_0 : w1.cell? ⟨w.heap.size + 1, 0, none⟩ = some (.int .i64 bn) := by rw [cc _ _ (by first | omega | (simp; done) | (simp; omega))]; first | assumption | go_simp
  have g1_1_1 : w1.cell? ⟨w.heap.size + 1, 1, none⟩ = some (.int .i64 bd) := by rw [cc _ _ (by first | omega | (simp; done) | (simp; omega))]; first | assumption | go_simp
  have l1_2 : w.heap.size + 2 < w1.heap.size := by first | omega | (simp at *; omega)
  have g1_2_0 : w1.cell? ⟨w.heap.size + 2, 0, none⟩ = some (.int .i64 cn) := by rw [cc _ _ (by first | omega | (simp; done) | (simp; omega))]; first | assumption | go_simp
  have g1_2_1 : w1.cell? ⟨w.heap.size + 2, 1, none⟩ = some (.int .i64 cd) := by rw [cc _ _ (by first | omega | (simp; done) | (simp; omega))]; first | assumption | go_simp
  clear cc zz
  go_wp2_with fail
  refine (check_any bn bd 0 _ bn1 bn2 bd1 bd2 HB.out).mono ?_
  rintro e w2 ⟨rfl, hb2⟩
  have cc := (bcell hb2).1
  have zz := hb2.size
  try simp at zz
  have l2_0 : w.heap.size < w2.heap.size := by first | omega | (simp at *; omega)
  have g2_0_0 : w2.cell? ⟨w.heap.size, 0, none⟩ = some (.int .i64 an) := by rw [cc _ _ (by first | omega | (simp; done) | (simp; omega))]; first | assumption | go_simp
  have g2_0_1 : w2.cell? ⟨w.heap.size, 1, none⟩ = some (.int .i64 ad) := by rw [cc _ _ (by first | omega | (simp; done) | (simp; omega))]; first | assumption | go_simp
  have l2_1 : w.heap.size + 1 < w2.heap.size := by first | omega | (simp at *; omega)
  have g2_1_0 : w2.cell? ⟨w.heap.size + 1, 0, none⟩ = some (.int .i64 bn) := by rw [cc _ _ (by first | omega | (simp; done) | (simp; omega))]; first | assumption | go_simp
  have g2_1_1 : w2.cell? ⟨w.heap.size + 1, 1, none⟩ = some (.int .i64 bd) := by rw [cc _ _ (by first | omega | (simp; done) | (simp; omega))]; first | assumption | go_simp
  have l2_2 : w.heap.size + 2 < w2.heap.size := by first | omega | (simp at *; omega)
  have g2_2_0 : w2.cell? ⟨w.heap.size + 2, 0, none⟩ = some (.int .i64 cn) := by rw [cc _ _ (by first | omega | (simp; done) | (simp; omega))]; first | assumption | go_simp
  have g2_2_1 : w2.cell? ⟨w.heap.size + 2, 1, none⟩ = some (.int .i64 cd) := by rw [cc _ _ (by first | omega | (simp; done) | (simp; omega))]; first | assumption | go_simp
  clear cc zz
  clear g1_0_0 g1_0_1 g1_1_0 g1_1_1 g1_2_0 g1_2_1
  go_wp2_with fail
  refine (check_any cn cd 0 _ cn1 cn2 cd1 cd2 HC.out).mono ?_
  rintro e w3 ⟨rfl, hb3⟩
  have cc := (bcell hb3).1
  have zz := hb3.size
  try simp at zz
  have l3_0 : w.heap.size < w3.heap.size := by first | omega | (simp at *; omega)
  have g3_0_0 : w3.cell? ⟨w.heap.size, 0, none⟩ = some (.int .i64 an) := by rw [cc _ _ (by first | omega | (simp; done) | (simp; omega))]; first | assumption | go_simp
  have g3_0_1 : w3.cell? ⟨w.heap.size, 1, none⟩ = some (.int .i64 ad) := by rw [cc _ _ (by first | omega | (simp; done) | (simp; omega))]; first | assumption | go_simp
  have l3_1 : w.heap.size + 1 < w3.heap.size := by first | omega | (simp at *; omega)
  have g3_1_0 : w3.cell? ⟨w.heap.size + 1, 0, none⟩ = some (.int .i64 bn) := by rw [cc _ _ (by first | omega | (simp; done) | (simp; omega))]; first | assumption | go_simp
  have g3_1_1 : w3.cell? ⟨w.heap.size + 1, 1, none⟩ = some (.int .i64 bd) := by rw [cc _ _ (by first | omega | (simp; done) | (simp; omega))]; first | assumption | go_simp
  have l3_2 : w.heap.size + 2 < w3.heap.size := by first | omega | (simp at *; omega)
  have g3_2_0 : w3.cell? ⟨w.heap.size + 2, 0, none⟩ = some (.int .i64 cn) := by rw [cc _ _ (by first | omega | (simp; done) | (simp; omega))]; first | assumption | go_simp
  have g3_2_1 : w3.cell? ⟨w.heap.size + 2, 1, none⟩ = some (.int .i64 cd) := by rw [cc _ _ (by first | omega | (simp; done) | (simp; omega))]; first | assumption | go_simp
  clear cc zz
  clear g2_0_0 g2_0_1 g2_1_0 g2_1_1 g2_2_0 g2_2_1
  go_wp2_with fail
  refine (cmp_any an ad bn bd n _ an1 an2 ad1 ad2 bn1 bn2 bd1 bd2 HN.out).mono ?_
  rintro e w4 ⟨rfl, hb4⟩
  have cc := (bcell hb4).1
  have zz := hb4.size
  try simp at zz
  have l4_0 : w.heap.size < w4.heap.size := by first | omega | (simp at *; omega)
  have g4_0_0 : w4.cell? ⟨w.heap.size, 0, none⟩ = some (.int .i64 an) := by rw [cc _ _ (by first | omega | (simp; done) | (simp; omega))]; first | assumption | go_simp
  have g4_0_1 : w4.cell? ⟨w.heap.size, 1, none⟩ = some (.int .i64 ad) := by rw [cc _ _ (by first | omega | (simp; done) | (simp; omega))]; first | assumption | go_simp
  have l4_1 : w.heap.size + 1 < w4.heap.size := by first | omega | (simp at *; omega)
  have g4_1_0 : w4.cell? ⟨w.heap.size + 1, 0, none⟩ = some (.int .i64 bn) := by rw [cc _ _ (by first | omega | (simp; done) | (simp; omega))]; first | assumption | go_simp
  have g4_1_1 : w4.cell? ⟨w.heap.size + 1, 1, none⟩ = some (.int .i64 bd) := by rw [cc _ _ (by first | omega | (simp; done) | (simp; omega))]; first | assumption | go_simp
  have l4_2 : w.heap.size + 2 < w4.heap.size := by first | omega | (simp at *; omega)
  have g4_2_0 : w4.cell? ⟨w.heap.size + 2, 0, none⟩ = some (.int .i64 cn) := by rw [cc _ _ (by first | omega | (simp; done) | (simp; omega))]; first | assumption | go_simp
  have g4_2_1 : w4.cell? ⟨w.heap.size + 2, 1, none⟩ = some (.int .i64 cd) := by rw [cc _ _ (by first | omega | (simp; done) | (simp; omega))]; first | assumption | go_simp
  clear cc zz
  clear g3_0_0 g3_0_1 g3_1_0 g3_1_1 g3_2_0 g3_2_1
  go_wp2_with fail
  refine (cmp_any bn bd an ad (-n) _ bn1 bn2 bd1 bd2 an1 an2 ad1 ad2 HM.out).mono ?_
  rintro e w5 ⟨rfl, hb5⟩
  have cc := (bcell hb5).1
  have zz := hb5.size
  try simp at zz
  have l5_0 : w.heap.size < w5.heap.size := by first | omega | (simp at *; omega)
  have g5_0_0 : w5.cell? ⟨w.heap.size, 0, none⟩ = some (.int .i64 an) := by rw [cc _ _ (by first | omega | (simp; done) | (simp; omega))]; first | assumption | go_simp
  have g5_0_1 : w5.cell? ⟨w.heap.size, 1, none⟩ = some (.int .i64 ad) := by rw [cc _ _ (by first | omega | (simp; done) | (simp; omega))]; first | assumption | go_simp
  have l5_1 : w.heap.size + 1 < w5.heap.size := by first | omega | (simp at *; omega)
  have g5_1_0 : w5.cell? ⟨w.heap.size + 1, 0, none⟩ = some (.int .i64 bn) := by rw [cc _ _ (by first | omega | (simp; done) | (simp; omega))]; first | assumption | go_simp
  have g5_1_1 : w5.cell? ⟨w.heap.size + 1, 1, none⟩ = some (.int .i64 bd) := by rw [cc _ _ (by first | omega | (simp; done) | (simp; omega))]; first | assumption | go_simp
  have l5_2 : w.heap.size + 2 < w5.heap.size := by first | omega | (simp at *; omega)
  have g5_2_0 : w5.cell? ⟨w.heap.size + 2, 0, none⟩ = some (.int .i64 cn) := by rw [cc _ _ (by first | omega | (simp; done) | (simp; omega))]; first | assumption | go_simp
  have g5_2_1 : w5.cell? ⟨w.heap.size + 2, 1, none⟩ = some (.int .i64 cd) := by rw [cc _ _ (by first | omega | (simp; done) | (simp; omega))]; first | assumption | go_simp
  clear cc zz
  clear g4_0_0 g4_0_1 g4_1_0 g4_1_1 g4_2_0 g4_2_1
  go_wp2_with fail
  refine (sub_any an ad bn bd dn dd 0 _ an1 an2 ad1 ad2 bn1 bn2 bd1 bd2 HD.out).mono ?_
  rintro e w6 ⟨rfl, hb6⟩
  have cc := (bcell hb6).1
  have zz := hb6.size
  try simp at zz
  have l6_0 : w.heap.size < w6.heap.size := by first | omega | (simp at *; omega)
  have g6_0_0 : w6.cell? ⟨w.heap.size, 0, none⟩ = some (.int .i64 an) := by rw [cc _ _ (by first | omega | (simp; done) | (simp; omega))]; first | assumption | go_simp
  have g6_0_1 : w6.cell? ⟨w.heap.size, 1, none⟩ = some (.int .i64 ad) := by rw [cc _ _ (by first | omega | (simp; done) | (simp; omega))]; first | assumption | go_simp
  have l6_1 : w.heap.size + 1 < w6.heap.size := by first | omega | (simp at *; omega)
  have g6_1_0 : w6.cell? ⟨w.heap.size + 1, 0, none⟩ = some (.int .i64 bn) := by rw [cc _ _ (by first | omega | (simp; done) | (simp; omega))]; first | assumption | go_simp
  have g6_1_1 : w6.cell? ⟨w.heap.size + 1, 1, none⟩ = some (.int .i64 bd) := by rw [cc _ _ (by first | omega | (simp; done) | (simp; omega))]; first | assumption | go_simp
  have l6_2 : w.heap.size + 2 < w6.heap.size := by first | omega | (simp at *; omega)
  have g6_2_0 : w6.cell? ⟨w.heap.size + 2, 0, none⟩ = some (.int .i64 cn) := by rw [cc _ _ (by first | omega | (simp; done) | (simp; omega))]; first | assumption | go_simp
  have g6_2_1 : w6.cell? ⟨w.heap.size + 2, 1, none⟩ = some (.int .i64 cd) := by rw [cc _ _ (by first | omega | (simp; done) | (simp; omega))]; first | assumption | go_simp
  clear cc zz
  clear g5_0_0 g5_0_1 g5_1_0 g5_1_1 g5_2_0 g5_2_1
  go_wp2_with fail
  refine (add_any an ad cn cd xn xd 0 _ an1 an2 ad1 ad2 cn1 cn2 cd1 cd2 HX.out).mono ?_
  rintro e w7 ⟨rfl, hb7⟩
  have cc := (bcell hb7).1
  have zz := hb7.size
  try simp at zz
  have l7_0 : w.heap.size < w7.heap.size := by first | omega | (simp at *; omega)
  have g7_0_0 : w7.cell? ⟨w.heap.size, 0, none⟩ = some (.int .i64 an) := by rw [cc _ _ (by first | omega | (simp; done) | (simp; omega))]; first | assumption | go_simp
  have g7_0_1 : w7.cell? ⟨w.heap.size, 1, none⟩ = some (.int .i64 ad) := by rw [cc _ _ (by first | omega | (simp; done) | (simp; omega))]; first | assumption | go_simp
  have l7_1 : w.heap.size + 1 < w7.heap.size := by first | omega | (simp at *; omega)
  have g7_1_0 : w7.cell? ⟨w.heap.size + 1, 0, none⟩ = some (.int .i64 bn) := by rw [cc _ _ (by first | omega | (simp; done) | (simp; omega))]; first | assumption | go_simp
  have g7_1_1 : w7.cell? ⟨w.heap.size + 1, 1, none⟩ = some (.int .i64 bd) := by rw [cc _ _ (by first | omega | (simp; done) | (simp; omega))]; first | assumption | go_simp
  have l7_2 : w.heap.size + 2 < w7.heap.size := by first | omega | (simp at *; omega)
  have g7_2_0 : w7.cell? ⟨w.heap.size + 2, 0, none⟩ = some (.int .i64 cn) := by rw [cc _ _ (by first | omega | (simp; done) | (simp; omega))]; first | assumption | go_simp
  have g7_2_1 : w7.cell? ⟨w.heap.size + 2, 1, none⟩ = some (.int .i64 cd) := by rw [cc _ _ (by first | omega | (simp; done) | (simp; omega))]; first | assumption | go_simp
  have l7_3 : w6.heap.size < w7.heap.size := by first | omega | (simp at *; omega)
  have g7_3_0 : w7.cell? ⟨w6.heap.size, 0, none⟩ = some (.int .i64 dn) := by rw [cc _ _ (by first | omega | (simp; done) | (simp; omega))]; first | assumption | go_simp
  have g7_3_1 : w7.cell? ⟨w6.heap.size, 1, none⟩ = some (.int .i64 dd) := by rw [cc _ _ (by first | omega | (simp; done) | (simp; omega))]; first | assumption | go_simp
  clear cc zz
  clear g6_0_0 g6_0_1 g6_1_0 g6_1_1 g6_2_0 g6_2_1
  go_wp2_with fail
  refine (add_any bn bd cn cd yn yd 0 _ bn1 bn2 bd1 bd2 cn1 cn2 cd1 cd2 HY.out).mono ?_
  rintro e w8 ⟨rfl, hb8⟩
  have cc := (bcell hb8).1
  have zz := hb8.size
  try simp at zz
  have l8_0 : w.heap.size < w8.heap.size := by first | omega | (simp at *; omega)
  have g8_0_0 : w8.cell? ⟨w.heap.size, 0, none⟩ = some (.int .i64 an) := by rw [cc _ _ (by first | omega | (simp; done) | (simp; omega))]; first | assumption | go_simp
  have g8_0_1 : w8.cell? ⟨w.heap.size, 1, none⟩ = some (.int .i64 ad) := by rw [cc _ _ (by first | omega | (simp; done) | (simp; omega))]; first | assumption | go_simp
  have l8_1 : w.heap.size + 1 < w8.heap.size := by first | omega | (simp at *; omega)
  have g8_1_0 : w8.cell? ⟨w.heap.size + 1, 0, none⟩ = some (.int .i64 bn) := by rw [cc _ _ (by first | omega | (simp; done) | (simp; omega))]; first | assumption | go_simp
  have g8_1_1 : w8.cell? ⟨w.heap.size + 1, 1, none⟩ = some (.int .i64 bd) := by rw [cc _ _ (by first | omega | (simp; done) | (simp; omega))]; first | assumption | go_simp
  have l8_2 : w.heap.size + 2 < w8.heap.size := by first | omega | (simp at *; omega)
  have g8_2_0 : w8.cell? ⟨w.heap.size + 2, 0, none⟩ = some (.int .i64 cn) := by rw [cc _ _ (by first | omega | (simp; done) | (simp; omega))]; first | assumption | go_simp
  have g8_2_1 : w8.cell? ⟨w.heap.size + 2, 1, none⟩ = some (.int .i64 cd) := by rw [cc _ _ (by first | omega | (simp; done) | (simp; omega))]; first | assumption | go_simp
  have l8_3 : w6.heap.size < w8.heap.size := by first | omega | (simp at *; omega)
  have g8_3_0 : w8.cell? ⟨w6.heap.size, 0, none⟩ = some (.int .i64 dn) := by rw [cc _ _ (by first | omega | (simp; done) | (simp; omega))]; first | assumption | go_simp
  have g8_3_1 : w8.cell? ⟨w6.heap.size, 1, none⟩ = some (.int .i64 dd) := by rw [cc _ _ (by first | omega | (simp; done) | (simp; omega))]; first | assumption | go_simp
  have l8_4 : w7.heap.size < w8.heap.size := by first | omega | (simp at *; omega)
  have g8_4_0 : w8.cell? ⟨w7.heap.size, 0, none⟩ = some (.int .i64 xn) := by rw [cc _ _ (by first | omega | (simp; done) | (simp; omega))]; first | assumption | go_simp
  have g8_4_1 : w8.cell? ⟨w7.heap.size, 1, none⟩ = some (.int .i64 xd) := by rw [cc _ _ (by first | omega | (simp; done) | (simp; omega))]; first | assumption | go_simp
  clear cc zz
  clear g7_0_0 g7_0_1 g7_1_0 g7_1_1 g7_2_0 g7_2_1 g7_3_0 g7_3_1
  go_wp2_with fail
  refine (cmp_any xn xd yn yd n _ xn1 xn2 xd1 xd2 yn1 yn2 yd1 yd2 HZ.out).mono ?_
  rintro e w9 ⟨rfl, hb9⟩
  have cc := (bcell hb9).1
  have zz := hb9.size
  try simp at zz
  have l9_0 : w.heap.size < w9.heap.size := by first | omega | (simp at *; omega)
  have g9_0_0 : w9.cell? ⟨w.heap.size, 0, none⟩ = some (.int .i64 an) := by rw [cc _ _ (by first | omega | (simp; done) | (simp; omega))]; first | assumption | go_simp
  have g9_0_1 : w9.cell? ⟨w.heap.size, 1, none⟩ = some (.int .i64 ad) := by rw [cc _ _ (by first | omega | (simp; done) | (simp; omega))]; first | assumption | go_simp
  have l9_1 : w.heap.size + 1 < w9.heap.size := by first | omega | (simp at *; omega)
  have g9_1_0 : w9.cell? ⟨w.heap.size + 1, 0, none⟩ = some (.int .i64 bn) := by rw [cc _ _ (by first | omega | (simp; done) | (simp; omega))]; first | assumption | go_simp
  have g9_1_1 : w9.cell? ⟨w.heap.size + 1, 1, none⟩ = some (.int .i64 bd) := by rw [cc _ _ (by first | omega | (simp; done) | (simp; omega))]; first | assumption | go_simp
  have l9_2 : w.heap.size + 2 < w9.heap.size := by first | omega | (simp at *; omega)
  have g9_2_0 : w9.cell? ⟨w.heap.size + 2, 0, none⟩ = some (.int .i64 cn) := by rw [cc _ _ (by first | omega | (simp; done) | (simp; omega))]; first | assumption | go_simp
  have g9_2_1 : w9.cell? ⟨w.heap.size + 2, 1, none⟩ = some (.int .i64 cd) := by rw [cc _ _ (by first | omega | (simp; done) | (simp; omega))]; first | assumption | go_simp
  have l9_3 : w6.heap.size < w9.heap.size := by first | omega | (simp at *; omega)
  have g9_3_0 : w9.cell? ⟨w6.heap.size, 0, none⟩ = some (.int .i64 dn) := by rw [cc _ _ (by first | omega | (simp; done) | (simp; omega))]; first | assumption | go_simp
  have g9_3_1 : w9.cell? ⟨w6.heap.size, 1, none⟩ = some (.int .i64 dd) := by rw [cc _ _ (by first | omega | (simp; done) | (simp; omega))]; first | assumption | go_simp
  have l9_4 : w7.heap.size < w9.heap.size := by first | omega | (simp at *; omega)
  have g9_4_0 : w9.cell? ⟨w7.heap.size, 0, none⟩ = some (.int .i64 xn) := by rw [cc _ _ (by first | omega | (simp; done) | (simp; omega))]; first | assumption | go_simp
  have g9_4_1 : w9.cell? ⟨w7.heap.size, 1, none⟩ = some (.int .i64 xd) := by rw [cc _ _ (by first | omega | (simp; done) | (simp; omega))]; first | assumption | go_simp
  have l9_5 : w8.heap.size < w9.heap.size := by first | omega | (simp at *; omega)
  have g9_5_0 : w9.cell? ⟨w8.heap.size, 0, none⟩ = some (.int .i64 yn) := by rw [cc _ _ (by first | omega | (simp; done) | (simp; omega))]; first | assumption | go_simp
  have g9_5_1 : w9.cell? ⟨w8.heap.size, 1, none⟩ = some (.int .i64 yd) := by rw [cc _ _ (by first | omega | (simp; done) | (simp; omega))]; first | assumption | go_simp
  clear cc zz
  clear g8_0_0 g8_0_1 g8_1_0 g8_1_1 g8_2_0 g8_2_1 g8_3_0 g8_3_1 g8_4_0 g8_4_1
  go_wp2_with fail
  refine (awake_any _).mono ?_
  rintro e w10 ⟨rfl, hb10⟩
  have cc := (bcell hb10).1
  have zz := hb10.size
  try simp at zz
  have l10_0 : w.heap.size < w10.heap.size := by first | omega | (simp at *; omega)
  have g10_0_0 : w10.cell? ⟨w.heap.size, 0, none⟩ = some (.int .i64 an) := by rw [cc _ _ (by first | omega | (simp; done) | (simp; omega))]; first | assumption | go_simp
  have g10_0_1 : w10.cell? ⟨w.heap.size, 1, none⟩ = some (.int .i64 ad) := by rw [cc _ _ (by first | omega | (simp; done) | (simp; omega))]; first | assumption | go_simp
  have l10_1 : w.heap.size + 1 < w10.heap.size := by first | omega | (simp at *; omega)
  have g10_1_0 : w10.cell? ⟨w.heap.size + 1, 0, none⟩ = some (.int .i64 bn) := by rw [cc _ _ (by first | omega | (simp; done) | (simp; omega))]; first | assumption | go_simp
  have g10_1_1 : w10.cell? ⟨w.heap.size + 1, 1, none⟩ = some (.int .i64 bd) := by rw [cc _ _ (by first | omega | (simp; done) | (simp; omega))]; first | assumption | go_simp
  have l10_2 : w.heap.size + 2 < w10.heap.size := by first | omega | (simp at *; omega)
  have g10_2_0 : w10.cell? ⟨w.heap.size + 2, 0, none⟩ = some (.int .i64 cn) := by rw [cc _ _ (by first | omega | (simp; done) | (simp; omega))]; first | assumption | go_simp
  have g10_2_1 : w10.cell? ⟨w.heap.size + 2, 1, none⟩ = some (.int .i64 cd) := by rw [cc _ _ (by first | omega | (simp; done) | (simp; omega))]; first | assumption | go_simp
  have l10_3 : w6.heap.size < w10.heap.size := by first | omega | (simp at *; omega)
  have g10_3_0 : w10.cell? ⟨w6.heap.size, 0, none⟩ = some (.int .i64 dn) := by rw [cc _ _ (by first | omega | (simp; done) | (simp; omega))]; first | assumption | go_simp
  have g10_3_1 : w10.cell? ⟨w6.heap.size, 1, none⟩ = some (.int .i64 dd) := by rw [cc _ _ (by first | omega | (simp; done) | (simp; omega))]; first | assumption | go_simp
  have l10_4 : w7.heap.size < w10.heap.size := by first | omega | (simp at *; omega)
  have g10_4_0 : w10.cell? ⟨w7.heap.size, 0, none⟩ = some (.int .i64 xn) := by rw [cc _ _ (by first | omega | (simp; done) | (simp; omega))]; first | assumption | go_simp
  have g10_4_1 : w10.cell? ⟨w7.heap.size, 1, none⟩ = some (.int .i64 xd) := by rw [cc _ _ (by first | omega | (simp; done) | (simp; omega))]; first | assumption | go_simp
  have l10_5 : w8.heap.size < w10.heap.size := by first | omega | (simp at *; omega)
  have g10_5_0 : w10.cell? ⟨w8.heap.size, 0, none⟩ = some (.int .i64 yn) := by rw [cc _ _ (by first | omega | (simp; done) | (simp; omega))]; first | assumption | go_simp
  have g10_5_1 : w10.cell? ⟨w8.heap.size, 1, none⟩ = some (.int .i64 yd) := by rw [cc _ _ (by first | omega | (simp; done) | (simp; omega))]; first | assumption | go_simp
  clear cc zz
  clear g9_0_0 g9_0_1 g9_1_0 g9_1_1 g9_2_0 g9_2_1 g9_3_0 g9_3_1 g9_4_0 g9_4_1 g9_5_0 g9_5_1
  go_wp2
  go_ret
  exact ⟨rfl, (by repeat' (first | exact Below.refl _ _ | assumption | (with_reducible refine bdrewN ?_ _) | (with_reducible refine bdrew ?_) | (with_reducible refine bset ?_ ?_) | (with_reducible refine balloc0 ?_) | (with_reducible refine balloc ?_ ?_) | (apply btrans0; rotate_left; assumption) | (apply btrans; rotate_left; assumption) | (simp; done) | omega | (simp; omega)))⟩

set_option maxRecDepth 100000 in
set_option maxHeartbeats 2400000 in
theorem way_gt_nosub_x (an ad bn bd cn cd : Int) (w : World) (an1 : -9223372036854775808 ≤ an) (an2 : an ≤ 9223372036854775807) (ad1 : -9223372036854775808 ≤ ad) (ad2 : ad ≤ 9223372036854775807) (bn1 : -9223372036854775808 ≤ bn) (bn2 : bn ≤ 9223372036854775807) (bd1 : -9223372036854775808 ≤ bd) (bd2 : bd ≤ 9223372036854775807) (cn1 : -9223372036854775808 ≤ cn) (cn2 : cn ≤ 9223372036854775807) (cd1 : -9223372036854775808 ≤ cd) (cd2 : cd ≤ 9223372036854775807) (ha : chk (an, ad) = 0) (hb : chk (bn, bd) = 0) (hc : chk (cn, cd) = 0) (n : Int) (hn : cmpS (an, ad) (bn, bd) = n) (hm : cmpS (bn, bd) (an, ad) = -n) (n1 : -1 ≤ n) (n2 : n ≤ 1) (he : ((n == 0) == (an == bn && ad == bd)) = true) (z1 : 0 < n) (dn dd de : Int) (hd : opS sub0 (an, ad) (bn, bd) = ((dn, dd), de)) (zd : (de == 0) = false) (xn xd yn yd xe ye : Int) (hx : opS add0 (an, ad) (cn, cd) = ((xn, xd), xe)) (hy : opS add0 (bn, bd) (cn, cd) = ((yn, yd), ye)) (zx : (xe != 0) = true) :
    Calls Try.prog 6 #[.agg #[.int .i64 an, .int .i64 ad], .agg #[.int .i64 bn, .int .i64 bd], .agg #[.int .i64 cn, .int .i64 cd]] w fun e w' => e = .returned (.bool true) ∧ Below w.heap.size w w' := by
  have HA := Lib.hid ha
  have HB := Lib.hid hb
  have HC := Lib.hid hc
  have HN := Lib.hid hn
  have HM := Lib.hid hm
  have HD := Lib.hid hd
  have HX := Lib.hid hx
  have HY := Lib.hid hy
  clear ha hb hc hn hm hd hx hy
  go_enter Try.func6, Try.ntmps6
  go_wp2_with fail
  refine (check_any an ad 0 _ an1 an2 ad1 ad2 HA.out).mono ?_
  rintro e w1 ⟨rfl, hb1⟩
  have cc := (bcell hb1).1
  have zz := hb1.size
  try simp at zz
  have l1_0 : w.heap.size < w1.heap.size := by first | omega | (simp at *; omega)
  have g1_0_0 : w1.cell? ⟨w.heap.size, 0, none⟩ = some (.int .i64 an) := by rw [cc _ _ (by first | omega | (simp; done) | (simp; omega))]; first | assumption | go_simp
  have g1_0_1 : w1.cell? ⟨w.heap.size, 1, none⟩ = some (.int .i64 ad) := by rw [cc _ _ (by first | omega | (simp; done) | (simp; omega))]; first | assumption | go_simp
  have l1_1 : w.heap.size + 1 < w1.heap.size := by first | omega | (simp at *; omega)
  have g1_1_0 : w1.cell? ⟨w.heap.size + 1, 0, none⟩ = some (.int .i64 bn) := by rw [cc _ _ (by first | omega | (simp; done) | (simp; omega))]; first | assumption | go_simp
  have g1_1_1 : w1.cell? ⟨w.heap.size + 1, 1, none⟩ = some (.int .i64 bd) := by rw [cc _ _ (by first | omega | (simp; done) | (simp; omega))]; first | assumption | go_simp
  have l1_2 : w.heap.size + 2 < w1.heap.size := by first | omega | (simp at *; omega)
  have g1_2_0 : w1.cell? ⟨w.heap.size + 2, 0, none⟩ = some (.int .i64 cn) := by rw [cc _ _ (by first | omega | (simp; done) | (simp; omega))]; first | assumption | go_simp
  have g1_2_1 : w1.cell? ⟨w.heap.size + 2, 1, none⟩ = some (.int .i64 cd) := by rw [cc _ _ (by first | omega | (simp; done) | (simp; omega))]; first | assumption | go_simp
  clear cc zz
  go_wp2_with fail
  refine (check_any bn bd 0 _ bn1 bn2 bd1 bd2 HB.out).mono ?_
  rintro e w2 ⟨rfl, hb2⟩
  have cc := (bcell hb2).1
  have zz := hb2.size
  try simp at zz
  have l2_0 : w.heap.size < w2.heap.size := by first | omega | (simp at *; omega)
  have g2_0_0 : w2.cell? ⟨w.heap.size, 0, none⟩ = some (.int .i64 an) := by rw [cc _ _ (by first | omega | (simp; done) | (simp; omega))]; first | assumption | go_simp
  have g2_0_1 : w2.cell? ⟨w.heap.size, 1, none⟩ = some (.int .i64 ad) := by rw [cc _ _ (by first | omega | (simp; done) | (simp; omega))]; first | assumption | go_simp
  have l2_1 : w.heap.size + 1 < w2.heap.size := by first | omega | (simp at *; omega)
  have g2_1_0 : w2.cell? ⟨w.heap.size + 1, 0, none⟩ = some (.int .i64 bn) := by rw [cc _ _ (by first | omega | (simp; done) | (simp; omega))]; first | assumption | go_simp
  have g2_1_1 : w2.cell? ⟨w.heap.size + 1, 1, none⟩ = some (.int .i64 bd) := by rw [cc _ _ (by first | omega | (simp; done) | (simp; omega))]; first | assumption | go_simp
  have l2_2 : w.heap.size + 2 < w2.heap.size := by first | omega | (simp at *; omega)
  have g2_2_0 : w2.cell? ⟨w.heap.size + 2, 0, none⟩ = some (.int .i64 cn) := by rw [cc _ _ (by first | omega | (simp; done) | (simp; omega))]; first | assumption | go_simp
  have g2_2_1 : w2.cell? ⟨w.heap.size + 2, 1, none⟩ = some (.int .i64 cd) := by rw [cc _ _ (by first | omega | (simp; done) | (simp; omega))]; first | assumption | go_simp
  clear cc zz
  clear g1_0_0 g1_0_1 g1_1_0 g1_1_1 g1_2_0 g1_2_1
  go_wp2_with fail
  refine (check_any cn cd 0 _ cn1 cn2 cd1 cd2 HC.out).mono ?_
  rintro e w3 ⟨rfl, hb3⟩
  have cc := (bcell hb3).1
  have zz := hb3.size
  try simp at zz
  have l3_0 : w.heap.size < w3.heap.size := by first | omega | (simp at *; omega)
  have g3_0_0 : w3.cell? ⟨w.heap.size, 0, none⟩ = some (.int .i64 an) := by rw [cc _ _ (by first | omega | (simp; done) | (simp; omega))]; first | assumption | go_simp
  have g3_0_1 : w3.cell? ⟨w.heap.size, 1, none⟩ = some (.int .i64 ad) := by rw [cc _ _ (by first | omega | (simp; done) | (simp; omega))]; first | assumption | go_simp
  have l3_1 : w.heap.size + 1 < w3.heap.size := by first | omega | (simp at *; omega)
  have g3_1_0 : w3.cell? ⟨w.heap.size + 1, 0, none⟩ = some (.int .i64 bn) := by rw [cc _ _ (by first | omega | (simp; done) | (simp; omega))]; first | assumption | go_simp
  have g3_1_1 : w3.cell? ⟨w.heap.size + 1, 1, none⟩ = some (.int .i64 bd) := by rw [cc _ _ (by first | omega | (simp; done) | (simp; omega))]; first | assumption | go_simp
  have l3_2 : w.heap.size + 2 < w3.heap.size := by first | omega | (simp at *; omega)
  have g3_2_0 : w3.cell? ⟨w.heap.size + 2, 0, none⟩ = some (.int .i64 cn) := by rw [cc _ _ (by first | omega | (simp; done) | (simp; omega))]; first | assumption | go_simp
  have g3_2_1 : w3.cell? ⟨w.heap.size + 2, 1, none⟩ = some (.int .i64 cd) := by rw [cc _ _ (by first | omega | (simp; done) | (simp; omega))]; first | assumption | go_simp
  clear cc zz
  clear g2_0_0 g2_0_1 g2_1_0 g2_1_1 g2_2_0 g2_2_1
  go_wp2_with fail
  refine (cmp_any an ad bn bd n _ an1 an2 ad1 ad2 bn1 bn2 bd1 bd2 HN.out).mono ?_
  rintro e w4 ⟨rfl, hb4⟩
  have cc := (bcell hb4).1
  have zz := hb4.size
  try simp at zz
  have l4_0 : w.heap.size < w4.heap.size := by first | omega | (simp at *; omega)
  have g4_0_0 : w4.cell? ⟨w.heap.size, 0, none⟩ = some (.int .i64 an) := by rw [cc _ _ (by first | omega | (simp; done) | (simp; omega))]; first | assumption | go_simp
  have g4_0_1 : w4.cell? ⟨w.heap.size, 1, none⟩ = some (.int .i64 ad) := by rw [cc _ _ (by first | omega | (simp; done) | (simp; omega))]; first | assumption | go_simp
  have l4_1 : w.heap.size + 1 < w4.heap.size := by first | omega | (simp at *; omega)
  have g4_1_0 : w4.cell? ⟨w.heap.size + 1, 0, none⟩ = some (.int .i64 bn) := by rw [cc _ _ (by first | omega | (simp; done) | (simp; omega))]; first | assumption | go_simp
  have g4_1_1 : w4.cell? ⟨w.heap.size + 1, 1, none⟩ = some (.int .i64 bd) := by rw [cc _ _ (by first | omega | (simp; done) | (simp; omega))]; first | assumption | go_simp
  have l4_2 : w.heap.size + 2 < w4.heap.size := by first | omega | (simp at *; omega)
  have g4_2_0 : w4.cell? ⟨w.heap.size + 2, 0, none⟩ = some (.int .i64 cn) := by rw [cc _ _ (by first | omega | (simp; done) | (simp; omega))]; first | assumption | go_simp
  have g4_2_1 : w4.cell? ⟨w.heap.size + 2, 1, none⟩ = some (.int .i64 cd) := by rw [cc _ _ (by first | omega | (simp; done) | (simp; omega))]; first | assumption | go_simp
  clear cc zz
  clear g3_0_0 g3_0_1 g3_1_0 g3_1_1 g3_2_0 g3_2_1
  go_wp2_with fail
  refine (cmp_any bn bd an ad (-n) _ bn1 bn2 bd1 bd2 an1 an2 ad1 ad2 HM.out).mono ?_
  rintro e w5 ⟨rfl, hb5⟩
  have cc := (bcell hb5).1
  have zz := hb5.size
  try simp at zz
  have l5_0 : w.heap.size < w5.heap.size := by first | omega | (simp at *; omega)
  have g5_0_0 : w5.cell? ⟨w.heap.size, 0, none⟩ = some (.int .i64 an) := by rw [cc _ _ (by first | omega | (simp; done) | (simp; omega))]; first | assumption | go_simp
  have g5_0_1 : w5.cell? ⟨w.heap.size, 1, none⟩ = some (.int .i64 ad) := by rw [cc _ _ (by first | omega | (simp; done) | (simp; omega))]; first | assumption | go_simp
  have l5_1 : w.heap.size + 1 < w5.heap.size := by first | omega | (simp at *; omega)
  have g5_1_0 : w5.cell? ⟨w.heap.size + 1, 0, none⟩ = some (.int .i64 bn) := by rw [cc _ _ (by first | omega | (simp; done) | (simp; omega))]; first | assumption | go_simp
  have g5_1_1 : w5.cell? ⟨w.heap.size + 1, 1, none⟩ = some (.int .i64 bd) := by rw [cc _ _ (by first | omega | (simp; done) | (simp; omega))]; first | assumption | go_simp
  have l5_2 : w.heap.size + 2 < w5.heap.size := by first | omega | (simp at *; omega)
  have g5_2_0 : w5.cell? ⟨w.heap.size + 2, 0, none⟩ = some (.int .i64 cn) := by rw [cc _ _ (by first | omega | (simp; done) | (simp; omega))]; first | assumption | go_simp
  have g5_2_1 : w5.cell? ⟨w.heap.size + 2, 1, none⟩ = some (.int .i64 cd) := by rw [cc _ _ (by first | omega | (simp; done) | (simp; omega))]; first | assumption | go_simp
  clear cc zz
  clear g4_0_0 g4_0_1 g4_1_0 g4_1_1 g4_2_0 g4_2_1
  go_wp2_with fail
  refine (sub_any an ad bn bd dn dd de _ an1 an2 ad1 ad2 bn1 bn2 bd1 bd2 HD.out).mono ?_
  rintro e w6 ⟨rfl, hb6⟩
  have cc := (bcell hb6).1
  have zz := hb6.size
  try simp at zz
  have l6_0 : w.heap.size < w6.heap.size := by first | omega | (simp at *; omega)
  have g6_0_0 : w6.cell? ⟨w.heap.size, 0, none⟩ = some (.int .i64 an) := by rw [cc _ _ (by first | omega | (simp; done) | (simp; omega))]; first | assumption | go_simp
  have g6_0_1 : w6.cell? ⟨w.heap.size, 1, none⟩ = some (.int .i64 ad) := by rw [cc _ _ (by first | omega | (simp; done) | (simp; omega))]; first | assumption | go_simp
  have l6_1 : w.heap.size + 1 < w6.heap.size := by first | omega | (simp at *; omega)
  have g6_1_0 : w6.cell? ⟨w.heap.size + 1, 0, none⟩ = some (.int .i64 bn) := by rw [cc _ _ (by first | omega | (simp; done) | (simp; omega))]; first | assumption | go_simp
  have g6_1_1 : w6.cell? ⟨w.heap.size + 1, 1, none⟩ = some (.int .i64 bd) := by rw [cc _ _ (by first | omega | (simp; done) | (simp; omega))]; first | assumption | go_simp
  have l6_2 : w.heap.size + 2 < w6.heap.size := by first | omega | (simp at *; omega)
  have g6_2_0 : w6.cell? ⟨w.heap.size + 2, 0, none⟩ = some (.int .i64 cn) := by rw [cc _ _ (by first | omega | (simp; done) | (simp; omega))]; first | assumption | go_simp
  have g6_2_1 : w6.cell? ⟨w.heap.size + 2, 1, none⟩ = some (.int .i64 cd) := by rw [cc _ _ (by first | omega | (simp; done) | (simp; omega))]; first | assumption | go_simp
  clear cc zz
  clear g5_0_0 g5_0_1 g5_1_0 g5_1_1 g5_2_0 g5_2_1
  go_wp2_with fail
  refine (add_any an ad cn cd xn xd xe _ an1 an2 ad1 ad2 cn1 cn2 cd1 cd2 HX.out).mono ?_
  rintro e w7 ⟨rfl, hb7⟩
  have cc := (bcell hb7).1
  have zz := hb7.size
  try simp at zz
  have l7_0 : w.heap.size < w7.heap.size := by first | omega | (simp at *; omega)
  have g7_0_0 : w7.cell? ⟨w.heap.size, 0, none⟩ = some (.int .i64 an) := by rw [cc _ _ (by first | omega | (simp; done) | (simp; omega))]; first | assumption | go_simp
  have g7_0_1 : w7.cell? ⟨w.heap.size, 1, none⟩ = some (.int .i64 ad) := by rw [cc _ _ (by first | omega | (simp; done) | (simp; omega))]; first | assumption | go_simp
  have l7_1 : w.heap.size + 1 < w7.heap.size := by first | omega | (simp at *; omega)
  have g7_1_0 : w7.cell? ⟨w.heap.size + 1, 0, none⟩ = some (.int .i64 bn) := by rw [cc _ _ (by first | omega | (simp; done) | (simp; omega))]; first | assumption | go_simp
  have g7_1_1 : w7.cell? ⟨w.heap.size + 1, 1, none⟩ = some (.int .i64 bd) := by rw [cc _ _ (by first | omega | (simp; done) | (simp; omega))]; first | assumption | go_simp
  have l7_2 : w.heap.size + 2 < w7.heap.size := by first | omega | (simp at *; omega)
  have g7_2_0 : w7.cell? ⟨w.heap.size + 2, 0, none⟩ = some (.int .i64 cn) := by rw [cc _ _ (by first | omega | (simp; done) | (simp; omega))]; first | assumption | go_simp
  have g7_2_1 : w7.cell? ⟨w.heap.size + 2, 1, none⟩ = some (.int .i64 cd) := by rw [cc _ _ (by first | omega | (simp; done) | (simp; omega))]; first | assumption | go_simp
  have l7_3 : w6.heap.size < w7.heap.size := by first | omega | (simp at *; omega)
  have g7_3_0 : w7.cell? ⟨w6.heap.size, 0, none⟩ = some (.int .i64 dn) := by rw [cc _ _ (by first | omega | (simp; done) | (simp; omega))]; first | assumption | go_simp
  have g7_3_1 : w7.cell? ⟨w6.heap.size, 1, none⟩ = some (.int .i64 dd) := by rw [cc _ _ (by first | omega | (simp; done) | (simp; omega))]; first | assumption | go_simp
  clear cc zz
  clear g6_0_0 g6_0_1 g6_1_0 g6_1_1 g6_2_0 g6_2_1
  go_wp2_with fail
  refine (add_any bn bd cn cd yn yd ye _ bn1 bn2 bd1 bd2 cn1 cn2 cd1 cd2 HY.out).mono ?_
  rintro e w8 ⟨rfl, hb8⟩
  have cc := (bcell hb8).1
  have zz := hb8.size
  try simp at zz
  have l8_0 : w.heap.size < w8.heap.size := by first | omega | (simp at *; omega)
  have g8_0_0 : w8.cell? ⟨w.heap.size, 0, none⟩ = some (.int .i64 an) := by rw [cc _ _ (by first | omega | (simp; done) | (simp; omega))]; first | assumption | go_simp
  have g8_0_1 : w8.cell? ⟨w.heap.size, 1, none⟩ = some (.int .i64 ad) := by rw [cc _ _ (by first | omega | (simp; done) | (simp; omega))]; first | assumption | go_simp
  have l8_1 : w.heap.size + 1 < w8.heap.size := by first | omega | (simp at *; omega)
  have g8_1_0 : w8.cell? ⟨w.heap.size + 1, 0, none⟩ = some (.int .i64 bn) := by rw [cc _ _ (by first | omega | (simp; done) | (simp; omega))]; first | assumption | go_simp
  have g8_1_1 : w8.cell? ⟨w.heap.size + 1, 1, none⟩ = some (.int .i64 bd) := by rw [cc _ _ (by first | omega | (simp; done) | (simp; omega))]; first | assumption | go_simp
  have l8_2 : w.heap.size + 2 < w8.heap.size := by first | omega | (simp at *; omega)
  have g8_2_0 : w8.cell? ⟨w.heap.size + 2, 0, none⟩ = some (.int .i64 cn) := by rw [cc _ _ (by first | omega | (simp; done) | (simp; omega))]; first | assumption | go_simp
  have g8_2_1 : w8.cell? ⟨w.heap.size + 2, 1, none⟩ = some (.int .i64 cd) := by rw [cc _ _ (by first | omega | (simp; done) | (simp; omega))]; first | assumption | go_simp
  have l8_3 : w6.heap.size < w8.heap.size := by first | omega | (simp at *; omega)
  have g8_3_0 : w8.cell? ⟨w6.heap.size, 0, none⟩ = some (.int .i64 dn) := by rw [cc _ _ (by first | omega | (simp; done) | (simp; omega))]; first | assumption | go_simp
  have g8_3_1 : w8.cell? ⟨w6.heap.size, 1, none⟩ = some (.int .i64 dd) := by rw [cc _ _ (by first | omega | (simp; done) | (simp; omega))]; first | assumption | go_simp
  have l8_4 : w7.heap.size < w8.heap.size := by first | omega | (simp at *; omega)
  have g8_4_0 : w8.cell? ⟨w7.heap.size, 0, none⟩ = some (.int .i64 xn) := by rw [cc _ _ (by first | omega | (simp; done) | (simp; omega))]; first | assumption | go_simp
  have g8_4_1 : w8.cell? ⟨w7.heap.size, 1, none⟩ = some (.int .i64 xd) := by rw [cc _ _ (by first | omega | (simp; done) | (simp; omega))]; first | assumption | go_simp
  clear cc zz
  clear g7_0_0 g7_0_1 g7_1_0 g7_1_1 g7_2_0 g7_2_1 g7_3_0 g7_3_1
  go_wp2_with fail
  refine (awake_any _).mono ?_
  rintro e w9 ⟨rfl, hb9⟩
  have cc := (bcell hb9).1
  have zz := hb9.size
  try simp at zz
  have l9_0 : w.heap.size < w9.heap.size := by first | omega | (simp at *; omega)
  have g9_0_0 : w9.cell? ⟨w.heap.size, 0, none⟩ = some (.int .i64 an) := by rw [cc _ _ (by first | omega | (simp; done) | (simp; omega))]; first | assumption | go_simp
  have g9_0_1 : w9.cell? ⟨w.heap.size, 1, none⟩ = some (.int .i64 ad) := by rw [cc _ _ (by first | omega | (simp; done) | (simp; omega))]; first | assumption | go_simp
  have l9_1 : w.heap.size + 1 < w9.heap.size := by first | omega | (simp at *; omega)
  have g9_1_0 : w9.cell? ⟨w.heap.size + 1, 0, none⟩ = some (.int .i64 bn) := by rw [cc _ _ (by first | omega | (simp; done) | (simp; omega))]; first | assumption | go_simp
  have g9_1_1 : w9.cell? ⟨w.heap.size + 1, 1, none⟩ = some (.int .i64 bd) := by rw [cc _ _ (by first | omega | (simp; done) | (simp; omega))]; first | assumption | go_simp
  have l9_2 : w.heap.size + 2 < w9.heap.size := by first | omega | (simp at *; omega)
  have g9_2_0 : w9.cell? ⟨w.heap.size + 2, 0, none⟩ = some (.int .i64 cn) := by rw [cc _ _ (by first | omega | (simp; done) | (simp; omega))]; first | assumption | go_simp
  have g9_2_1 : w9.cell? ⟨w.heap.size + 2, 1, none⟩ = some (.int .i64 cd) := by rw [cc _ _ (by first | omega | (simp; done) | (simp; omega))]; first | assumption | go_simp
  have l9_3 : w6.heap.size < w9.heap.size := by first | omega | (simp at *; omega)
  have g9_3_0 : w9.cell? ⟨w6.heap.size, 0, none⟩ = some (.int .i64 dn) := by rw [cc _ _ (by first | omega | (simp; done) | (simp; omega))]; first | assumption | go_simp
  have g9_3_1 : w9.cell? ⟨w6.heap.size, 1, none⟩ = some (.int .i64 dd) := by rw [cc _ _ (by first | omega | (simp; done) | (simp; omega))]; first | assumption | go_simp
  have l9_4 : w7.heap.size < w9.heap.size := by first | omega | (simp at *; omega)
  have g9_4_0 : w9.cell? ⟨w7.heap.size, 0, none⟩ = some (.int .i64 xn) := by rw [cc _ _ (by first | omega | (simp; done) | (simp; omega))]; first | assumption | go_simp
  have g9_4_1 : w9.cell? ⟨w7.heap.size, 1, none⟩ = some (.int .i64 xd) := by rw [cc _ _ (by first | omega | (simp; done) | (simp; omega))]; first | assumption | go_simp
  have l9_5 : w8.heap.size < w9.heap.size := by first | omega | (simp at *; omega)
  have g9_5_0 : w9.cell? ⟨w8.heap.size, 0, none⟩ = some (.int .i64 yn) := by rw [cc _ _ (by first | omega | (simp; done) | (simp; omega))]; first | assumption | go_simp
  have g9_5_1 : w9.cell? ⟨w8.heap.size, 1, none⟩ = some (.int .i64 yd) := by rw [cc _ _ (by first | omega | (simp; done) | (simp; omega))]; first | assumption | go_simp
  clear cc zz
  clear g8_0_0 g8_0_1 g8_1_0 g8_1_1 g8_2_0 g8_2_1 g8_3_0 g8_3_1 g8_4_0 g8_4_1
  go_wp2
  go_ret
  exact ⟨rfl, (by repeat' (first | exact Below.refl _ _ | assumption | (with_reducible refine bdrewN ?_ _) | (with_reducible refine bdrew ?_) | (with_reducible refine bset ?_ ?_) | (with_reducible refine balloc0 ?_) | (with_reducible refine balloc ?_ ?_) | (apply btrans0; rotate_left; assumption) | (apply btrans; rotate_left; assumption) | (simp; done) | omega | (simp; omega)))⟩

set_option maxRecDepth 100000 in
set_option maxHeartbeats 2400000 in
theorem way_gt_nosub_y (an ad bn bd cn cd : Int) (w : World) (an1 : -9223372036854775808 ≤ an) (an2 : an ≤ 9223372036854775807) (ad1 : -9223372036854775808 ≤ ad) (ad2 : ad ≤ 9223372036854775807) (bn1 : -9223372036854775808 ≤ bn) (bn2 : bn ≤ 9223372036854775807) (bd1 : -9223372036854775808 ≤ bd) (bd2 : bd ≤ 9223372036854775807) (cn1 : -9223372036854775808 ≤ cn) (cn2 : cn ≤ 9223372036854775807) (cd1 : -9223372036854775808 ≤ cd) (cd2 : cd ≤ 9223372036854775807) (ha : chk (an, ad) = 0) (hb : chk (bn, bd) = 0) (hc : chk (cn, cd) = 0) (n : Int) (hn : cmpS (an, ad) (bn, bd) = n) (hm : cmpS (bn, bd) (an, ad) = -n) (n1 : -1 ≤ n) (n2 : n ≤ 1) (he : ((n == 0) == (an == bn && ad == bd)) = true) (z1 : 0 < n) (dn dd de : Int) (hd : opS sub0 (an, ad) (bn, bd) = ((dn, dd), de)) (zd : (de == 0) = false) (xn xd yn yd ye : Int) (hx : opS add0 (an, ad) (cn, cd) = ((xn, xd), 0)) (hy : opS add0 (bn, bd) (cn, cd) = ((yn, yd), ye)) (zy : (ye != 0) = true) :
    Calls Try.prog 6 #[.agg #[.int .i64 an, .int .i64 ad], .agg #[.int .i64 bn, .int .i64 bd], .agg #[.int .i64 cn, .int .i64 cd]] w fun e w' => e = .returned (.bool true) ∧ Below w.heap.size w w' := by
  have HA := Lib.hid ha
  have HB := Lib.hid hb
  have HC := Lib.hid hc
  have HN := Lib.hid hn
  have HM := Lib.hid hm
  have HD := Lib.hid hd
  have HX := Lib.hid hx
  have HY := Lib.hid hy
  clear ha hb hc hn hm hd hx hy
  go_enter Try.func6, Try.ntmps6
  go_wp2_with fail
  refine (check_any an ad 0 _ an1 an2 ad1 ad2 HA.out).mono ?_
  rintro e w1 ⟨rfl, hb1⟩
  have cc := (bcell hb1).1
  have zz := hb1.size
  try simp at zz
  have l1_0 : w.heap.size < w1.heap.size := by first | omega | (simp at *; omega)
  have g1_0_0 : w1.cell? ⟨w.heap.size, 0, none⟩ = some (.int .i64 an) := by rw [cc _ _ (by first | omega | (simp; done) | (simp; omega))]; first | assumption | go_simp
  have g1_0_1 : w1.cell? ⟨w.heap.size, 1, none⟩ = some (.int .i64 ad) := by rw [cc _ _ (by first | omega | (simp; done) | (simp; omega))]; first | assumption | go_simp
  have l1_1 : w.heap.size + 1 < w1.heap.size := by first | omega | (simp at *; omega)
  have g1_1_0 : w1.cell? ⟨w.heap.size + 1, 0, none⟩ = some (.int .i64 bn) := by rw [cc _ _ (by first | omega | (simp; done) | (simp; omega))]; first | assumption | go_simp
  have g1_1_1 : w1.cell? ⟨w.heap.size + 1, 1, none⟩ = some (.int .i64 bd) := by rw [cc _ _ (by first | omega | (simp; done) | (simp; omega))]; first | assumption | go_simp
  have l1_2 : w.heap.size + 2 < w1.heap.size := by first | omega | (simp at *; omega)
  have g1_2_0 : w1.cell? ⟨w.heap.size + 2, 0, none⟩ = some (.int .i64 cn) := by rw [cc _ _ (by first | omega | (simp; done) | (simp; omega))]; first | assumption | go_simp
  have g1_2_1 : w1.cell? ⟨w.heap.size + 2, 1, none⟩ = some (.int .i64 cd) := by rw [cc _ _ (by first | omega | (simp; done) | (simp; omega))]; first | assumption | go_simp
  clear cc zz
  go_wp2_with fail
  refine (check_any bn bd 0 _ bn1 bn2 bd1 bd2 HB.out).mono ?_
  rintro e w2 ⟨rfl, hb2⟩
  have cc := (bcell hb2).1
  have zz := hb2.size
  try simp at zz
  have l2_0 : w.heap.size < w2.heap.size := by first | omega | (simp at *; omega)
  have g2_0_0 : w2.cell? ⟨w.heap.size, 0, none⟩ = some (.int .i64 an) := by rw [cc _ _ (by first | omega | (simp; done) | (simp; omega))]; first | assumption | go_simp
  have g2_0_1 : w2.cell? ⟨w.heap.size, 1, none⟩ = some (.int .i64 ad) := by rw [cc _ _ (by first | omega | (simp; done) | (simp; omega))]; first | assumption | go_simp
  have l2_1 : w.heap.size + 1 < w2.heap.size := by first | omega | (simp at *; omega)
  have g2_1_0 : w2.cell? ⟨w.heap.size + 1, 0, none⟩ = some (.int .i64 bn) := by rw [cc _ _ (by first | omega | (simp; done) | (simp; omega))]; first | assumption | go_simp
  have g2_1_1 : w2.cell? ⟨w.heap.size + 1, 1, none⟩ = some (.int .i64 bd) := by rw [cc _ _ (by first | omega | (simp; done) | (simp; omega))]; first | assumption | go_simp
  have l2_2 : w.heap.size + 2 < w2.heap.size := by first | omega | (simp at *; omega)
  have g2_2_0 : w2.cell? ⟨w.heap.size + 2, 0, none⟩ = some (.int .i64 cn) := by rw [cc _ _ (by first | omega | (simp; done) | (simp; omega))]; first | assumption | go_simp
  have g2_2_1 : w2.cell? ⟨w.heap.size + 2, 1, none⟩ = some (.int .i64 cd) := by rw [cc _ _ (by first | omega | (simp; done) | (simp; omega))]; first | assumption | go_simp
  clear cc zz
  clear g1_0_0 g1_0_1 g1_1_0 g1_1_1 g1_2_0 g1_2_1
  go_wp2_with fail
  refine (check_any cn cd 0 _ cn1 cn2 cd1 cd2 HC.out).mono ?_
  rintro e w3 ⟨rfl, hb3⟩
  have cc := (bcell hb3).1
  have zz := hb3.size
  try simp at zz
  have l3_0 : w.heap.size < w3.heap.size := by first | omega | (simp at *; omega)
  have g3_0_0 : w3.cell? ⟨w.heap.size, 0, none⟩ = some (.int .i64 an) := by rw [cc _ _ (by first | omega | (simp; done) | (simp; omega))]; first | assumption | go_simp
  have g3_0_1 : w3.cell? ⟨w.heap.size, 1, none⟩ = some (.int .i64 ad) := by rw [cc _ _ (by first | omega | (simp; done) | (simp; omega))]; first | assumption | go_simp
  have l3_1 : w.heap.size + 1 < w3.heap.size := by first | omega | (simp at *; omega)
  have g3_1_0 : w3.cell? ⟨w.heap.size + 1, 0, none⟩ = some (.int .i64 bn) := by rw [cc _ _ (by first | omega | (simp; done) | (simp; omega))]; first | assumption | go_simp
  have g3_1_1 : w3.cell? ⟨w.heap.size + 1, 1, none⟩ = some (.int .i64 bd) := by rw [cc _ _ (by first | omega | (simp; done) | (simp; omega))]; first | assumption | go_simp
  have l3_2 : w.heap.size + 2 < w3.heap.size := by first | omega | (simp at *; omega)
  have g3_2_0 : w3.cell? ⟨w.heap.size + 2, 0, none⟩ = some (.int .i64 cn) := by rw [cc _ _ (by first | omega | (simp; done) | (simp; omega))]; first | assumption | go_simp
  have g3_2_1 : w3.cell? ⟨w.heap.size + 2, 1, none⟩ = some (.int .i64 cd) := by rw [cc _ _ (by first | omega | (simp; done) | (simp; omega))]; first | assumption | go_simp
  clear cc zz
  clear g2_0_0 g2_0_1 g2_1_0 g2_1_1 g2_2_0 g2_2_1
  go_wp2_with fail
  refine (cmp_any an ad bn bd n _ an1 an2 ad1 ad2 bn1 bn2 bd1 bd2 HN.out).mono ?_
  rintro e w4 ⟨rfl, hb4⟩
  have cc := (bcell hb4).1
  have zz := hb4.size
  try simp at zz
  have l4_0 : w.heap.size < w4.heap.size := by first | omega | (simp at *; omega)
  have g4_0_0 : w4.cell? ⟨w.heap.size, 0, none⟩ = some (.int .i64 an) := by rw [cc _ _ (by first | omega | (simp; done) | (simp; omega))]; first | assumption | go_simp
  have g4_0_1 : w4.cell? ⟨w.heap.size, 1, none⟩ = some (.int .i64 ad) := by rw [cc _ _ (by first | omega | (simp; done) | (simp; omega))]; first | assumption | go_simp
  have l4_1 : w.heap.size + 1 < w4.heap.size := by first | omega | (simp at *; omega)
  have g4_1_0 : w4.cell? ⟨w.heap.size + 1, 0, none⟩ = some (.int .i64 bn) := by rw [cc _ _ (by first | omega | (simp; done) | (simp; omega))]; first | assumption | go_simp
  have g4_1_1 : w4.cell? ⟨w.heap.size + 1, 1, none⟩ = some (.int .i64 bd) := by rw [cc _ _ (by first | omega | (simp; done) | (simp; omega))]; first | assumption | go_simp
  have l4_2 : w.heap.size + 2 < w4.heap.size := by first | omega | (simp at *; omega)
  have g4_2_0 : w4.cell? ⟨w.heap.size + 2, 0, none⟩ = some (.int .i64 cn) := by rw [cc _ _ (by first | omega | (simp; done) | (simp; omega))]; first | assumption | go_simp
  have g4_2_1 : w4.cell? ⟨w.heap.size + 2, 1, none⟩ = some (.int .i64 cd) := by rw [cc _ _ (by first | omega | (simp; done) | (simp; omega))]; first | assumption | go_simp
  clear cc zz
  clear g3_0_0 g3_0_1 g3_1_0 g3_1_1 g3_2_0 g3_2_1
  go_wp2_with fail
  refine (cmp_any bn bd an ad (-n) _ bn1 bn2 bd1 bd2 an1 an2 ad1 ad2 HM.out).mono ?_
  rintro e w5 ⟨rfl, hb5⟩
  have cc := (bcell hb5).1
  have zz := hb5.size
  try simp at zz
  have l5_0 : w.heap.size < w5.heap.size := by first | omega | (simp at *; omega)
  have g5_0_0 : w5.cell? ⟨w.heap.size, 0, none⟩ = some (.int .i64 an) := by rw [cc _ _ (by first | omega | (simp; done) | (simp; omega))]; first | assumption | go_simp
  have g5_0_1 : w5.cell? ⟨w.heap.size, 1, none⟩ = some (.int .i64 ad) := by rw [cc _ _ (by first | omega | (simp; done) | (simp; omega))]; first | assumption | go_simp
  have l5_1 : w.heap.size + 1 < w5.heap.size := by first | omega | (simp at *; omega)
  have g5_1_0 : w5.cell? ⟨w.heap.size + 1, 0, none⟩ = some (.int .i64 bn) := by rw [cc _ _ (by first | omega | (simp; done) | (simp; omega))]; first | assumption | go_simp
  have g5_1_1 : w5.cell? ⟨w.heap.size + 1, 1, none⟩ = some (.int .i64 bd) := by rw [cc _ _ (by first | omega | (simp; done) | (simp; omega))]; first | assumption | go_simp
  have l5_2 : w.heap.size + 2 < w5.heap.size := by first | omega | (simp at *; omega)
  have g5_2_0 : w5.cell? ⟨w.heap.size + 2, 0, none⟩ = some (.int .i64 cn) := by rw [cc _ _ (by first | omega | (simp; done) | (simp; omega))]; first | assumption | go_simp
  have g5_2_1 : w5.cell? ⟨w.heap.size + 2, 1, none⟩ = some (.int .i64 cd) := by rw [cc _ _ (by first | omega | (simp; done) | (simp; omega))]; first | assumption | go_simp
  clear cc zz
  clear g4_0_0 g4_0_1 g4_1_0 g4_1_1 g4_2_0 g4_2_1
  go_wp2_with fail
  refine (sub_any an ad bn bd dn dd de _ an1 an2 ad1 ad2 bn1 bn2 bd1 bd2 HD.out).mono ?_
  rintro e w6 ⟨rfl, hb6⟩
  have cc := (bcell hb6).1
  have zz := hb6.size
  try simp at zz
  have l6_0 : w.heap.size < w6.heap.size := by first | omega | (simp at *; omega)
  have g6_0_0 : w6.cell? ⟨w.heap.size, 0, none⟩ = some (.int .i64 an) := by rw [cc _ _ (by first | omega | (simp; done) | (simp; omega))]; first | assumption | go_simp
  have g6_0_1 : w6.cell? ⟨w.heap.size, 1, none⟩ = some (.int .i64 ad) := by rw [cc _ _ (by first | omega | (simp; done) | (simp; omega))]; first | assumption | go_simp
  have l6_1 : w.heap.size + 1 < w6.heap.size := by first | omega | (simp at *; omega)
  have g6_1_0 : w6.cell? ⟨w.heap.size + 1, 0, none⟩ = some (.int .i64 bn) := by rw [cc _ _ (by first | omega | (simp; done) | (simp; omega))]; first | assumption | go_simp
  have g6_1_1 : w6.cell? ⟨w.heap.size + 1, 1, none⟩ = some (.int .i64 bd) := by rw [cc _ _ (by first | omega | (simp; done) | (simp; omega))]; first | assumption | go_simp
  have l6_2 : w.heap.size + 2 < w6.heap.size := by first | omega | (simp at *; omega)
  have g6_2_0 : w6.cell? ⟨w.heap.size + 2, 0, none⟩ = some (.int .i64 cn) := by rw [cc _ _ (by first | omega | (simp; done) | (simp; omega))]; first | assumption | go_simp
  have g6_2_1 : w6.cell? ⟨w.heap.size + 2, 1, none⟩ = some (.int .i64 cd) := by rw [cc _ _ (by first | omega | (simp; done) | (simp; omega))]; first | assumption | go_simp
  clear cc zz
  clear g5_0_0 g5_0_1 g5_1_0 g5_1_1 g5_2_0 g5_2_1
  go_wp2_with fail
  refine (add_any an ad cn cd xn xd 0 _ an1 an2 ad1 ad2 cn1 cn2 cd1 cd2 HX.out).mono ?_
  rintro e w7 ⟨rfl, hb7⟩
  have cc := (bcell hb7).1
  have zz := hb7.size
  try simp at zz
  have l7_0 : w.heap.size < w7.heap.size := by first | omega | (simp at *; omega)
  have g7_0_0 : w7.cell? ⟨w.heap.size, 0, none⟩ = some (.int .i64 an) := by rw [cc _ _ (by first | omega | (simp; done) | (simp; omega))]; first | assumption | go_simp
  have g7_0_1 : w7.cell? ⟨w.heap.size, 1, none⟩ = some (.int .i64 ad) := by rw [cc _ _ (by first | omega | (simp; done) | (simp; omega))]; first | assumption | go_simp
  have l7_1 : w.heap.size + 1 < w7.heap.size := by first | omega | (simp at *; omega)
  have g7_1_0 : w7.cell? ⟨w.heap.size + 1, 0, none⟩ = some (.int .i64 bn) := by rw [cc _ _ (by first | omega | (simp; done) | (simp; omega))]; first | assumption | go_simp
  have g7_1_1 : w7.cell? ⟨w.heap.size + 1, 1, none⟩ = some (.int .i64 bd) := by rw [cc _ _ (by first | omega | (simp; done) | (simp; omega))]; first | assumption | go_simp
  have l7_2 : w.heap.size + 2 < w7.heap.size := by first | omega | (simp at *; omega)
  have g7_2_0 : w7.cell? ⟨w.heap.size + 2, 0, none⟩ = some (.int .i64 cn) := by rw [cc _ _ (by first | omega | (simp; done) | (simp; omega))]; first | assumption | go_simp
  have g7_2_1 : w7.cell? ⟨w.heap.size + 2, 1, none⟩ = some (.int .i64 cd) := by rw [cc _ _ (by first | omega | (simp; done) | (simp; omega))]; first | assumption | go_simp
  have l7_3 : w6.heap.size < w7.heap.size := by first | omega | (simp at *; omega)
  have g7_3_0 : w7.cell? ⟨w6.heap.size, 0, none⟩ = some (.int .i64 dn) := by rw [cc _ _ (by first | omega | (simp; done) | (simp; omega))]; first | assumption | go_simp
  have g7_3_1 : w7.cell? ⟨w6.heap.size, 1, none⟩ = some (.int .i64 dd) := by rw [cc _ _ (by first | omega | (simp; done) | (simp; omega))]; first | assumption | go_simp
  clear cc zz
  clear g6_0_0 g6_0_1 g6_1_0 g6_1_1 g6_2_0 g6_2_1
  go_wp2_with fail
  refine (add_any bn bd cn cd yn yd ye _ bn1 bn2 bd1 bd2 cn1 cn2 cd1 cd2 HY.out).mono ?_
  rintro e w8 ⟨rfl, hb8⟩
  have cc := (bcell hb8).1
  have zz := hb8.size
  try simp at zz
  have l8_0 : w.heap.size < w8.heap.size := by first | omega | (simp at *; omega)
  have g8_0_0 : w8.cell? ⟨w.heap.size, 0, none⟩ = some (.int .i64 an) := by rw [cc _ _ (by first | omega | (simp; done) | (simp; omega))]; first | assumption | go_simp
  have g8_0_1 : w8.cell? ⟨w.heap.size, 1, none⟩ = some (.int .i64 ad) := by rw [cc _ _ (by first | omega | (simp; done) | (simp; omega))]; first | assumption | go_simp
  have l8_1 : w.heap.size + 1 < w8.heap.size := by first | omega | (simp at *; omega)
  have g8_1_0 : w8.cell? ⟨w.heap.size + 1, 0, none⟩ = some (.int .i64 bn) := by rw [cc _ _ (by first | omega | (simp; done) | (simp; omega))]; first | assumption | go_simp
  have g8_1_1 : w8.cell? ⟨w.heap.size + 1, 1, none⟩ = some (.int .i64 bd) := by rw [cc _ _ (by first | omega | (simp; done) | (simp; omega))]; first | assumption | go_simp
  have l8_2 : w.heap.size + 2 < w8.heap.size := by first | omega | (simp at *; omega)
  have g8_2_0 : w8.cell? ⟨w.heap.size + 2, 0, none⟩ = some (.int .i64 cn) := by rw [cc _ _ (by first | omega | (simp; done) | (simp; omega))]; first | assumption | go_simp
  have g8_2_1 : w8.cell? ⟨w.heap.size + 2, 1, none⟩ = some (.int .i64 cd) := by rw [cc _ _ (by first | omega | (simp; done) | (simp; omega))]; first | assumption | go_simp
  have l8_3 : w6.heap.size < w8.heap.size := by first | omega | (simp at *; omega)
  have g8_3_0 : w8.cell? ⟨w6.heap.size, 0, none⟩ = some (.int .i64 dn) := by rw [cc _ _ (by first | omega | (simp; done) | (simp; omega))]; first | assumption | go_simp
  have g8_3_1 : w8.cell? ⟨w6.heap.size, 1, none⟩ = some (.int .i64 dd) := by rw [cc _ _ (by first | omega | (simp; done) | (simp; omega))]; first | assumption | go_simp
  have l8_4 : w7.heap.size < w8.heap.size := by first | omega | (simp at *; omega)
  have g8_4_0 : w8.cell? ⟨w7.heap.size, 0, none⟩ = some (.int .i64 xn) := by rw [cc _ _ (by first | omega | (simp; done) | (simp; omega))]; first | assumption | go_simp
  have g8_4_1 : w8.cell? ⟨w7.heap.size, 1, none⟩ = some (.int .i64 xd) := by rw [cc _ _ (by first | omega | (simp; done) | (simp; omega))]; first | assumption | go_simp
  clear cc zz
  clear g7_0_0 g7_0_1 g7_1_0 g7_1_1 g7_2_0 g7_2_1 g7_3_0 g7_3_1
  go_wp2_with fail
  refine (awake_any _).mono ?_
  rintro e w9 ⟨rfl, hb9⟩
  have cc := (bcell hb9).1
  have zz := hb9.size
  try simp at zz
  have l9_0 : w.heap.size < w9.heap.size := by first | omega | (simp at *; omega)
  have g9_0_0 : w9.cell? ⟨w.heap.size, 0, none⟩ = some (.int .i64 an) := by rw [cc _ _ (by first | omega | (simp; done) | (simp; omega))]; first | assumption | go_simp
  have g9_0_1 : w9.cell? ⟨w.heap.size, 1, none⟩ = some (.int .i64 ad) := by rw [cc _ _ (by first | omega | (simp; done) | (simp; omega))]; first | assumption | go_simp
  have l9_1 : w.heap.size + 1 < w9.heap.size := by first | omega | (simp at *; omega)
  have g9_1_0 : w9.cell? ⟨w.heap.size + 1, 0, none⟩ = some (.int .i64 bn) := by rw [cc _ _ (by first | omega | (simp; done) | (simp; omega))]; first | assumption | go_simp
  have g9_1_1 : w9.cell? ⟨w.heap.size + 1, 1, none⟩ = some (.int .i64 bd) := by rw [cc _ _ (by first | omega | (simp; done) | (simp; omega))]; first | assumption | go_simp
  have l9_2 : w.heap.size + 2 < w9.heap.size := by first | omega | (simp at *; omega)
  have g9_2_0 : w9.cell? ⟨w.heap.size + 2, 0, none⟩ = some (.int .i64 cn) := by rw [cc _ _ (by first | omega | (simp; done) | (simp; omega))]; first | assumption | go_simp
  have g9_2_1 : w9.cell? ⟨w.heap.size + 2, 1, none⟩ = some (.int .i64 cd) := by rw [cc _ _ (by first | omega | (simp; done) | (simp; omega))]; first | assumption | go_simp
  have l9_3 : w6.heap.size < w9.heap.size := by first | omega | (simp at *; omega)
  have g9_3_0 : w9.cell? ⟨w6.heap.size, 0, none⟩ = some (.int .i64 dn) := by rw [cc _ _ (by first | omega | (simp; done) | (simp; omega))]; first | assumption | go_simp
  have g9_3_1 : w9.cell? ⟨w6.heap.size, 1, none⟩ = some (.int .i64 dd) := by rw [cc _ _ (by first | omega | (simp; done) | (simp; omega))]; first | assumption | go_simp
  have l9_4 : w7.heap.size < w9.heap.size := by first | omega | (simp at *; omega)
  have g9_4_0 : w9.cell? ⟨w7.heap.size, 0, none⟩ = some (.int .i64 xn) := by rw [cc _ _ (by first | omega | (simp; done) | (simp; omega))]; first | assumption | go_simp
  have g9_4_1 : w9.cell? ⟨w7.heap.size, 1, none⟩ = some (.int .i64 xd) := by rw [cc _ _ (by first | omega | (simp; done) | (simp; omega))]; first | assumption | go_simp
  have l9_5 : w8.heap.size < w9.heap.size := by first | omega | (simp at *; omega)
  have g9_5_0 : w9.cell? ⟨w8.heap.size, 0, none⟩ = some (.int .i64 yn) := by rw [cc _ _ (by first | omega | (simp; done) | (simp; omega))]; first | assumption | go_simp
  have g9_5_1 : w9.cell? ⟨w8.heap.size, 1, none⟩ = some (.int .i64 yd) := by rw [cc _ _ (by first | omega | (simp; done) | (simp; omega))]; first | assumption | go_simp
  clear cc zz
  clear g8_0_0 g8_0_1 g8_1_0 g8_1_1 g8_2_0 g8_2_1 g8_3_0 g8_3_1 g8_4_0 g8_4_1
  go_wp2
  go_ret
  exact ⟨rfl, (by repeat' (first | exact Below.refl _ _ | assumption | (with_reducible refine bdrewN ?_ _) | (with_reducible refine bdrew ?_) | (with_reducible refine bset ?_ ?_) | (with_reducible refine balloc0 ?_) | (with_reducible refine balloc ?_ ?_) | (apply btrans0; rotate_left; assumption) | (apply btrans; rotate_left; assumption) | (simp; done) | omega | (simp; omega)))⟩

set_option maxRecDepth 100000 in
set_option maxHeartbeats 2400000 in
theorem way_gt_nosub_ok (an ad bn bd cn cd : Int) (w : World) (an1 : -9223372036854775808 ≤ an) (an2 : an ≤ 9223372036854775807) (ad1 : -9223372036854775808 ≤ ad) (ad2 : ad ≤ 9223372036854775807) (bn1 : -9223372036854775808 ≤ bn) (bn2 : bn ≤ 9223372036854775807) (bd1 : -9223372036854775808 ≤ bd) (bd2 : bd ≤ 9223372036854775807) (cn1 : -9223372036854775808 ≤ cn) (cn2 : cn ≤ 9223372036854775807) (cd1 : -9223372036854775808 ≤ cd) (cd2 : cd ≤ 9223372036854775807) (ha : chk (an, ad) = 0) (hb : chk (bn, bd) = 0) (hc : chk (cn, cd) = 0) (n : Int) (hn : cmpS (an, ad) (bn, bd) = n) (hm : cmpS (bn, bd) (an, ad) = -n) (n1 : -1 ≤ n) (n2 : n ≤ 1) (he : ((n == 0) == (an == bn && ad == bd)) = true) (z1 : 0 < n) (dn dd de : Int) (hd : opS sub0 (an, ad) (bn, bd) = ((dn, dd), de)) (zd : (de == 0) = false) (xn xd yn yd : Int) (hx : opS add0 (an, ad) (cn, cd) = ((xn, xd), 0)) (hy : opS add0 (bn, bd) (cn, cd) = ((yn, yd), 0)) (xn1 : -9223372036854775808 ≤ xn) (xn2 : xn ≤ 9223372036854775807) (xd1 : -9223372036854775808 ≤ xd) (xd2 : xd ≤ 9223372036854775807) (yn1 : -9223372036854775808 ≤ yn) (yn2 : yn ≤ 9223372036854775807) (yd1 : -9223372036854775808 ≤ yd) (yd2 : yd ≤ 9223372036854775807) (hz : cmpS (xn, xd) (yn, yd) = n) :
    Calls Try.prog 6 #[.agg #[.int .i64 an, .int .i64 ad], .agg #[.int .i64 bn, .int .i64 bd], .agg #[.int .i64 cn, .int .i64 cd]] w fun e w' => e = .returned (.bool true) ∧ Below w.heap.size w w' := by
  have HA := Lib.hid ha
  have HB := Lib.hid hb
  have HC := Lib.hid hc
  have HN := Lib.hid hn
  have HM := Lib.hid hm
  have HD := Lib.hid hd
  have HX := Lib.hid hx
  have HY := Lib.hid hy
  have HZ := Lib.hid hz
  clear ha hb hc hn hm hd hx hy hz
  go_enter Try.func6, Try.ntmps6
  go_wp2_with fail
  refine (check_any an ad 0 _ an1 an2 ad1 ad2 HA.out).mono ?_
  rintro e w1 ⟨rfl, hb1⟩
  have cc := (bcell hb1).1
  have zz := hb1.size
  try simp at zz
  have l1_0 : w.heap.size < w1.heap.size := by first | omega | (simp at *; omega)
  have g1_0_0 : w1.cell? ⟨w.heap.size, 0, none⟩ = some (.int .i64 an) := by rw [cc _ _ (by first | omega | (simp; done) | (simp; omega))]; first | assumption | go_simp
  have g1_0_1 : w1.cell? ⟨w.heap.size, 1, none⟩ = some (.int .i64 ad) := by rw [cc _ _ (by first | omega | (simp; done) | (simp; omega))]; first | assumption | go_simp
  have l1_1 : w.heap.size + 1 < w1.heap.size := by first | omega | (simp at *; omega)
  have g1_1_0 : w1.cell? ⟨w.heap.size + 1, 0, none⟩ = some (.int .i64 bn) := by rw [cc _ _ (by first | omega | (simp; done) | (simp; omega))]; first | assumption | go_simp
  have g1_1_1 : w1.cell? ⟨w.heap.size + 1, 1, none⟩ = some (.int .i64 bd) := by rw [cc _ _ (by first | omega | (simp; done) | (simp; omega))]; first | assumption | go_simp
  have l1_2 : w.heap.size + 2 < w1.heap.size := by first | omega | (simp at *; omega)
  have g1_2_0 : w1.cell? ⟨w.heap.size + 2, 0, none⟩ = some (.int .i64 cn) := by rw [cc _ _ (by first | omega | (simp; done) | (simp; omega))]; first | assumption | go_simp
  have g1_2_1 : w1.cell? ⟨w.heap.size + 2, 1, none⟩ = some (.int .i64 cd) := by rw [cc _ _ (by first | omega | (simp; done) | (simp; omega))]; first | assumption | go_simp
  clear cc zz
  go_wp2_with fail
  refine (check_any bn bd 0 _ bn1 bn2 bd1 bd2 HB.out).mono ?_
  rintro e w2 ⟨rfl, hb2⟩
  have cc := (bcell hb2).1
  have zz := hb2.size
  try simp at zz
  have l2_0 : w.heap.size < w2.heap.size := by first | omega | (simp at *; omega)
  have g2_0_0 : w2.cell? ⟨w.heap.size, 0, none⟩ = some (.int .i64 an) := by rw [cc _ _ (by first | omega | (simp; done) | (simp; omega))]; first | assumption | go_simp
  have g2_0_1 : w2.cell? ⟨w.heap.size, 1, none⟩ = some (.int .i64 ad) := by rw [cc _ _ (by first | omega | (simp; done) | (simp; omega))]; first | assumption | go_simp
  have l2_1 : w.heap.size + 1 < w2.heap.size := by first | omega | (simp at *; omega)
  have g2_1_0 : w2.cell? ⟨w.heap.size + 1, 0, none⟩ = some (.int .i64 bn) := by rw [cc _ _ (by first | omega | (simp; done) | (simp; omega))]; first | assumption | go_simp
  have g2_1_1 : w2.cell? ⟨w.heap.size + 1, 1, none⟩ = some (.int .i64 bd) := by rw [cc _ _ (by first | omega | (simp; done) | (simp; omega))]; first | assumption | go_simp
  have l2_2 : w.heap.size + 2 < w2.heap.size := by first | omega | (simp at *; omega)
  have g2_2_0 : w2.cell? ⟨w.heap.size + 2, 0, none⟩ = some (.int .i64 cn) := by rw [cc _ _ (by first | omega | (simp; done) | (simp; omega))]; first | assumption | go_simp
  have g2_2_1 : w2.cell? ⟨w.heap.size + 2, 1, none⟩ = some (.int .i64 cd) := by rw [cc _ _ (by first | omega | (simp; done) | (simp; omega))]; first | assumption | go_simp
  clear cc zz
  clear g1_0_0 g1_0_1 g1_1_0 g1_1_1 g1_2_0 g1_2_1
  go_wp2_with fail
  refine (check_any cn cd 0 _ cn1 cn2 cd1 cd2 HC.out).mono ?_
  rintro e w3 ⟨rfl, hb3⟩
  have cc := (bcell hb3).1
  have zz := hb3.size
  try simp at zz
  have l3_0 : w.heap.size < w3.heap.size := by first | omega | (simp at *; omega)
  have g3_0_0 : w3.cell? ⟨w.heap.size, 0, none⟩ = some (.int .i64 an) := by rw [cc _ _ (by first | omega | (simp; done) | (simp; omega))]; first | assumption | go_simp
  have g3_0_1 : w3.cell? ⟨w.heap.size, 1, none⟩ = some (.int .i64 ad) := by rw [cc _ _ (by first | omega | (simp; done) | (simp; omega))]; first | assumption | go_simp
  have l3_1 : w.heap.size + 1 < w3.heap.size := by first | omega | (simp at *; omega)
  have g3_1_0 : w3.cell? ⟨w.heap.size + 1, 0, none⟩ = some (.int .i64 bn) := by rw [cc _ _ (by first | omega | (simp; done) | (simp; omega))]; first | assumption | go_simp
  have g3_1_1 : w3.cell? ⟨w.heap.size + 1, 1, none⟩ = some (.int .i64 bd) := by rw [cc _ _ (by first | omega | (simp; done) | (simp; omega))]; first | assumption | go_simp
  have l3_2 : w.heap.size + 2 < w3.heap.size := by first | omega | (simp at *; omega)
  have g3_2_0 : w3.cell? ⟨w.heap.size + 2, 0, none⟩ = some (.int .i64 cn) := by rw [cc _ _ (by first | omega | (simp; done) | (simp; omega))]; first | assumption | go_simp
  have g3_2_1 : w3.cell? ⟨w.heap.size + 2, 1, none⟩ = some (.int .i64 cd) := by rw [cc _ _ (by first | omega | (simp; done) | (simp; omega))]; first | assumption | go_simp
  clear cc zz
  clear g2_0_0 g2_0_1 g2_1_0 g2_1_1 g2_2_0 g2_2_1
  go_wp2_with fail
  refine (cmp_any an ad bn bd n _ an1 an2 ad1 ad2 bn1 bn2 bd1 bd2 HN.out).mono ?_
  rintro e w4 ⟨rfl, hb4⟩
  have cc := (bcell hb4).1
  have zz := hb4.size
  try simp at zz
  have l4_0 : w.heap.size < w4.heap.size := by first | omega | (simp at *; omega)
  have g4_0_0 : w4.cell? ⟨w.heap.size, 0, none⟩ = some (.int .i64 an) := by rw [cc _ _ (by first | omega | (simp; done) | (simp; omega))]; first | assumption | go_simp
  have g4_0_1 : w4.cell? ⟨w.heap.size, 1, none⟩ = some (.int .i64 ad) := by rw [cc _ _ (by first | omega | (simp; done) | (simp; omega))]; first | assumption | go_simp
  have l4_1 : w.heap.size + 1 < w4.heap.size := by first | omega | (simp at *; omega)
  have g4_1_0 : w4.cell? ⟨w.heap.size + 1, 0, none⟩ = some (.int .i64 bn) := by rw [cc _ _ (by first | omega | (simp; done) | (simp; omega))]; first | assumption | go_simp
  have g4_1_1 : w4.cell? ⟨w.heap.size + 1, 1, none⟩ = some (.int .i64 bd) := by rw [cc _ _ (by first | omega | (simp; done) | (simp; omega))]; first | assumption | go_simp
  have l4_2 : w.heap.size + 2 < w4.heap.size := by first | omega | (simp at *; omega)
  have g4_2_0 : w4.cell? ⟨w.heap.size + 2, 0, none⟩ = some (.int .i64 cn) := by rw [cc _ _ (by first | omega | (simp; done) | (simp; omega))]; first | assumption | go_simp
  have g4_2_1 : w4.cell? ⟨w.heap.size + 2, 1, none⟩ = some (.int .i64 cd) := by rw [cc _ _ (by first | omega | (simp; done) | (simp; omega))]; first | assumption | go_simp
  clear cc zz
  clear g3_0_0 g3_0_1 g3_1_0 g3_1_1 g3_2_0 g3_2_1
  go_wp2_with fail
  refine (cmp_any bn bd an ad (-n) _ bn1 bn2 bd1 bd2 an1 an2 ad1 ad2 HM.out).mono ?_
  rintro e w5 ⟨rfl, hb5⟩
  have cc := (bcell hb5).1
  have zz := hb5.size
  try simp at zz
  have l5_0 : w.heap.size < w5.heap.size := by first | omega | (simp at *; omega)
  have g5_0_0 : w5.cell? ⟨w.heap.size, 0, none⟩ = some (.int .i64 an) := by rw [cc _ _ (by first | omega | (simp; done) | (simp; omega))]; first | assumption | go_simp
  have g5_0_1 : w5.cell? ⟨w.heap.size, 1, none⟩ = some (.int .i64 ad) := by rw [cc _ _ (by first | omega | (simp; done) | (simp; omega))]; first | assumption | go_simp
  have l5_1 : w.heap.size + 1 < w5.heap.size := by first | omega | (simp at *; omega)
  have g5_1_0 : w5.cell? ⟨w.heap.size + 1, 0, none⟩ = some (.int .i64 bn) := by rw [cc _ _ (by first | omega | (simp; done) | (simp; omega))]; first | assumption | go_simp
  have g5_1_1 : w5.cell? ⟨w.heap.size + 1, 1, none⟩ = some (.int .i64 bd) := by rw [cc _ _ (by first | omega | (simp; done) | (simp; omega))]; first | assumption | go_simp
  have l5_2 : w.heap.size + 2 < w5.heap.size := by first | omega | (simp at *; omega)
  have g5_2_0 : w5.cell? ⟨w.heap.size + 2, 0, none⟩ = some (.int .i64 cn) := by rw [cc _ _ (by first | omega | (simp; done) | (simp; omega))]; first | assumption | go_simp
  have g5_2_1 : w5.cell? ⟨w.heap.size + 2, 1, none⟩ = some (.int .i64 cd) := by rw [cc _ _ (by first | omega | (simp; done) | (simp; omega))]; first | assumption | go_simp
  clear cc zz
  clear g4_0_0 g4_0_1 g4_1_0 g4_1_1 g4_2_0 g4_2_1
  go_wp2_with fail
  refine (sub_any an ad bn bd dn dd de _ an1 an2 ad1 ad2 bn1 bn2 bd1 bd2 HD.out).mono ?_
  rintro e w6 ⟨rfl, hb6⟩
  have cc := (bcell hb6).1
  have zz := hb6.size
  try simp at zz
  have l6_0 : w.heap.size < w6.heap.size := by first | omega | (simp at *; omega)
  have g6_0_0 : w6.cell? ⟨w.heap.size, 0, none⟩ = some (.int .i64 an) := by rw [cc _ _ (by first | omega | (simp; done) | (simp; omega))]; first | assumption | go_simp
  have g6_0_1 : w6.cell? ⟨w.heap.size, 1, none⟩ = some (.int .i64 ad) := by rw [cc _ _ (by first | omega | (simp; done) | (simp; omega))]; first | assumption | go_simp
  have l6_1 : w.heap.size + 1 < w6.heap.size := by first | omega | (simp at *; omega)
  have g6_1_0 : w6.cell? ⟨w.heap.size + 1, 0, none⟩ = some (.int .i64 bn) := by rw [cc _ _ (by first | omega | (simp; done) | (simp; omega))]; first | assumption | go_simp
  have g6_1_1 : w6.cell? ⟨w.heap.size + 1, 1, none⟩ = some (.int .i64 bd) := by rw [cc _ _ (by first | omega | (simp; done) | (simp; omega))]; first | assumption | go_simp
  have l6_2 : w.heap.size + 2 < w6.heap.size := by first | omega | (simp at *; omega)
  have g6_2_0 : w6.cell? ⟨w.heap.size + 2, 0, none⟩ = some (.int .i64 cn) := by rw [cc _ _ (by first | omega | (simp; done) | (simp; omega))]; first | assumption | go_simp
  have g6_2_1 : w6.cell? ⟨w.heap.size + 2, 1, none⟩ = some (.int .i64 cd) := by rw [cc _ _ (by first | omega | (simp; done) | (simp; omega))]; first | assumption | go_simp
  clear cc zz
  clear g5_0_0 g5_0_1 g5_1_0 g5_1_1 g5_2_0 g5_2_1
  go_wp2_with fail
  refine (add_any an ad cn cd xn xd 0 _ an1 an2 ad1 ad2 cn1 cn2 cd1 cd2 HX.out).mono ?_
  rintro e w7 ⟨rfl, hb7⟩
  have cc := (bcell hb7).1
  have zz := hb7.size
  try simp at zz
  have l7_0 : w.heap.size < w7.heap.size := by first | omega | (simp at *; omega)
  have g7_0_0 : w7.cell? ⟨w.heap.size, 0, none⟩ = some (.int .i64 an) := by rw [cc _ _ (by first | omega | (simp; done) | (simp; omega))]; first | assumption | go_simp
  have g7_0_1 : w7.cell? ⟨w.heap.size, 1, none⟩ = some (.int .i64 ad) := by rw [cc _ _ (by first | omega | (simp; done) | (simp; omega))]; first | assumption | go_simp
  have l7_1 : w.heap.size + 1 < w7.heap.size := by first | omega | (simp at *; omega)
  have g7_1_0 : w7.cell? ⟨w.heap.size + 1, 0, none⟩ = some (.int .i64 bn) := by rw [cc _ _ (by first | omega | (simp; done) | (simp; omega))]; first | assumption | go_simp
  have g7_1_1 : w7.cell? ⟨w.heap.size + 1, 1, none⟩ = some (.int .i64 bd) := by rw [cc _ _ (by first | omega | (simp; done) | (simp; omega))]; first | assumption | go_simp
  have l7_2 : w.heap.size + 2 < w7.heap.size := by first | omega | (simp at *; omega)
  have g7_2_0 : w7.cell? ⟨w.heap.size + 2, 0, none⟩ = some (.int .i64 cn) := by rw [cc _ _ (by first | omega | (simp; done) | (simp; omega))]; first | assumption | go_simp
  have g7_2_1 : w7.cell? ⟨w.heap.size + 2, 1, none⟩ = some (.int .i64 cd) := by rw [cc _ _ (by first | omega | (simp; done) | (simp; omega))]; first | assumption | go_simp
  have l7_3 : w6.heap.size < w7.heap.size := by first | omega | (simp at *; omega)
  have g7_3_0 : w7.cell? ⟨w6.heap.size, 0, none⟩ = some (.int .i64 dn) := by rw [cc _ _ (by first | omega | (simp; done) | (simp; omega))]; first | assumption | go_simp
  have g7_3_1 : w7.cell? ⟨w6.heap.size, 1, none⟩ = some (.int .i64 dd) := by rw [cc _ _ (by first | omega | (simp; done) | (simp; omega))]; first | assumption | go_simp
  clear cc zz
  clear g6_0_0 g6_0_1 g6_1_0 g6_1_1 g6_2_0 g6_2_1
  go_wp2_with fail
  refine (add_any bn bd cn cd yn yd 0 _ bn1 bn2 bd1 bd2 cn1 cn2 cd1 cd2 HY.out).mono ?_
  rintro e w8 ⟨rfl, hb8⟩
  have cc := (bcell hb8).1
  have zz := hb8.size
  try simp at zz
  have l8_0 : w.heap.size < w8.heap.size := by first | omega | (simp at *; omega)
  have g8_0_0 : w8.cell? ⟨w.heap.size, 0, none⟩ = some (.int .i64 an) := by rw [cc _ _ (by first | omega | (simp; done) | (simp; omega))]; first | assumption | go_simp
  have g8_0_1 : w8.cell? ⟨w.heap.size, 1, none⟩ = some (.int .i64 ad) := by rw [cc _ _ (by first | omega | (simp; done) | (simp; omega))]; first | assumption | go_simp
  have l8_1 : w.heap.size + 1 < w8.heap.size := by first | omega | (simp at *; omega)
  have g8_1_0 : w8.cell? ⟨w.heap.size + 1, 0, none⟩ = some (.int .i64 bn) := by rw [cc _ _ (by first | omega | (simp; done) | (simp; omega))]; first | assumption | go_simp
  have g8_1_1 : w8.cell? ⟨w.heap.size + 1, 1, none⟩ = some (.int .i64 bd) := by rw [cc _ _ (by first | omega | (simp; done) | (simp; omega))]; first | assumption | go_simp
  have l8_2 : w.heap.size + 2 < w8.heap.size := by first | omega | (simp at *; omega)
  have g8_2_0 : w8.cell? ⟨w.heap.size + 2, 0, none⟩ = some (.int .i64 cn) := by rw [cc _ _ (by first | omega | (simp; done) | (simp; omega))]; first | assumption | go_simp
  have g8_2_1 : w8.cell? ⟨w.heap.size + 2, 1, none⟩ = some (.int .i64 cd) := by rw [cc _ _ (by first | omega | (simp; done) | (simp; omega))]; first | assumption | go_simp
  have l8_3 : w6.heap.size < w8.heap.size := by first | omega | (simp at *; omega)
  have g8_3_0 : w8.cell? ⟨w6.heap.size, 0, none⟩ = some (.int .i64 dn) := by rw [cc _ _ (by first | omega | (simp; done) | (simp; omega))]; first | assumption | go_simp
  have g8_3_1 : w8.cell? ⟨w6.heap.size, 1, none⟩ = some (.int .i64 dd) := by rw [cc _ _ (by first | omega | (simp; done) | (simp; omega))]; first | assumption | go_simp
  have l8_4 : w7.heap.size < w8.heap.size := by first | omega | (simp at *; omega)
  have g8_4_0 : w8.cell? ⟨w7.heap.size, 0, none⟩ = some (.int .i64 xn) := by rw [cc _ _ (by first | omega | (simp; done) | (simp; omega))]; first | assumption | go_simp
  have g8_4_1 : w8.cell? ⟨w7.heap.size, 1, none⟩ = some (.int .i64 xd) := by rw [cc _ _ (by first | omega | (simp; done) | (simp; omega))]; first | assumption | go_simp
  clear cc zz
  clear g7_0_0 g7_0_1 g7_1_0 g7_1_1 g7_2_0 g7_2_1 g7_3_0 g7_3_1
  go_wp2_with fail
  refine (cmp_any xn xd yn yd n _ xn1 xn2 xd1 xd2 yn1 yn2 yd1 yd2 HZ.out).mono ?_
  rintro e w9 ⟨rfl, hb9⟩
  have cc := (bcell hb9).1
  have zz := hb9.size
  try simp at zz
  have l9_0 : w.heap.size < w9.heap.size := by first | omega | (simp at *; omega)
  have g9_0_0 : w9.cell? ⟨w.heap.size, 0, none⟩ = some (.int .i64 an) := by rw [cc _ _ (by first | omega | (simp; done) | (simp; omega))]; first | assumption | go_simp
  have g9_0_1 : w9.cell? ⟨w.heap.size, 1, none⟩ = some (.int .i64 ad) := by rw [cc _ _ (by first | omega | (simp; done) | (simp; omega))]; first | assumption | go_simp
  have l9_1 : w.heap.size + 1 < w9.heap.size := by first | omega | (simp at *; omega)
  have g9_1_0 : w9.cell? ⟨w.heap.size + 1, 0, none⟩ = some (.int .i64 bn) := by rw [cc _ _ (by first | omega | (simp; done) | (simp; omega))]; first | assumption | go_simp
  have g9_1_1 : w9.cell? ⟨w.heap.size + 1, 1, none⟩ = some (.int .i64 bd) := by rw [cc _ _ (by first | omega | (simp; done) | (simp; omega))]; first | assumption | go_simp
  have l9_2 : w.heap.size + 2 < w9.heap.size := by first | omega | (simp at *; omega)
  have g9_2_0 : w9.cell? ⟨w.heap.size + 2, 0, none⟩ = some (.int .i64 cn) := by rw [cc _ _ (by first | omega | (simp; done) | (simp; omega))]; first | assumption | go_simp
  have g9_2_1 : w9.cell? ⟨w.heap.size + 2, 1, none⟩ = some (.int .i64 cd) := by rw [cc _ _ (by first | omega | (simp; done) | (simp; omega))]; first | assumption | go_simp
  have l9_3 : w6.heap.size < w9.heap.size := by first | omega | (simp at *; omega)
  have g9_3_0 : w9.cell? ⟨w6.heap.size, 0, none⟩ = some (.int .i64 dn) := by rw [cc _ _ (by first | omega | (simp; done) | (simp; omega))]; first | assumption | go_simp
  have g9_3_1 : w9.cell? ⟨w6.heap.size, 1, none⟩ = some (.int .i64 dd) := by rw [cc _ _ (by first | omega | (simp; done) | (simp; omega))]; first | assumption | go_simp
  have l9_4 : w7.heap.size < w9.heap.size := by first | omega | (simp at *; omega)
  have g9_4_0 : w9.cell? ⟨w7.heap.size, 0, none⟩ = some (.int .i64 xn) := by rw [cc _ _ (by first | omega | (simp; done) | (simp; omega))]; first | assumption | go_simp
  have g9_4_1 : w9.cell? ⟨w7.heap.size, 1, none⟩ = some (.int .i64 xd) := by rw [cc _ _ (by first | omega | (simp; done) | (simp; omega))]; first | assumption | go_simp
  have l9_5 : w8.heap.size < w9.heap.size := by first | omega | (simp at *; omega)
  have g9_5_0 : w9.cell? ⟨w8.heap.size, 0, none⟩ = some (.int .i64 yn) := by rw [cc _ _ (by first | omega | (simp; done) | (simp; omega))]; first | assumption | go_simp
  have g9_5_1 : w9.cell? ⟨w8.heap.size, 1, none⟩ = some (.int .i64 yd) := by rw [cc _ _ (by first | omega | (simp; done) | (simp; omega))]; first | assumption | go_simp
  clear cc zz
  clear g8_0_0 g8_0_1 g8_1_0 g8_1_1 g8_2_0 g8_2_1 g8_3_0 g8_3_1 g8_4_0 g8_4_1
  go_wp2_with fail
  refine (awake_any _).mono ?_
  rintro e w10 ⟨rfl, hb10⟩
  have cc := (bcell hb10).1
  have zz := hb10.size
  try simp at zz
  have l10_0 : w.heap.size < w10.heap.size := by first | omega | (simp at *; omega)
  have g10_0_0 : w10.cell? ⟨w.heap.size, 0, none⟩ = some (.int .i64 an) := by rw [cc _ _ (by first | omega | (simp; done) | (simp; omega))]; first | assumption | go_simp
  have g10_0_1 : w10.cell? ⟨w.heap.size, 1, none⟩ = some (.int .i64 ad) := by rw [cc _ _ (by first | omega | (simp; done) | (simp; omega))]; first | assumption | go_simp
  have l10_1 : w.heap.size + 1 < w10.heap.size := by first | omega | (simp at *; omega)
  have g10_1_0 : w10.cell? ⟨w.heap.size + 1, 0, none⟩ = some (.int .i64 bn) := by rw [cc _ _ (by first | omega | (simp; done) | (simp; omega))]; first | assumption | go_simp
  have g10_1_1 : w10.cell? ⟨w.heap.size + 1, 1, none⟩ = some (.int .i64 bd) := by rw [cc _ _ (by first | omega | (simp; done) | (simp; omega))]; first | assumption | go_simp
  have l10_2 : w.heap.size + 2 < w10.heap.size := by first | omega | (simp at *; omega)
  have g10_2_0 : w10.cell? ⟨w.heap.size + 2, 0, none⟩ = some (.int .i64 cn) := by rw [cc _ _ (by first | omega | (simp; done) | (simp; omega))]; first | assumption | go_simp
  have g10_2_1 : w10.cell? ⟨w.heap.size + 2, 1, none⟩ = some (.int .i64 cd) := by rw [cc _ _ (by first | omega | (simp; done) | (simp; omega))]; first | assumption | go_simp
  have l10_3 : w6.heap.size < w10.heap.size := by first | omega | (simp at *; omega)
  have g10_3_0 : w10.cell? ⟨w6.heap.size, 0, none⟩ = some (.int .i64 dn) := by rw [cc _ _ (by first | omega | (simp; done) | (simp; omega))]; first | assumption | go_simp
  have g10_3_1 : w10.cell? ⟨w6.heap.size, 1, none⟩ = some (.int .i64 dd) := by rw [cc _ _ (by first | omega | (simp; done) | (simp; omega))]; first | assumption | go_simp
  have l10_4 : w7.heap.size < w10.heap.size := by first | omega | (simp at *; omega)
  have g10_4_0 : w10.cell? ⟨w7.heap.size, 0, none⟩ = some (.int .i64 xn) := by rw [cc _ _ (by first | omega | (simp; done) | (simp; omega))]; first | assumption | go_simp
  have g10_4_1 : w10.cell? ⟨w7.heap.size, 1, none⟩ = some (.int .i64 xd) := by rw [cc _ _ (by first | omega | (simp; done) | (simp; omega))]; first | assumption | go_simp
  have l10_5 : w8.heap.size < w10.heap.size := by first | omega | (simp at *; omega)
  have g10_5_0 : w10.cell? ⟨w8.heap.size, 0, none⟩ = some (.int .i64 yn) := by rw [cc _ _ (by first | omega | (simp; done) | (simp; omega))]; first | assumption | go_simp
  have g10_5_1 : w10.cell? ⟨w8.heap.size, 1, none⟩ = some (.int .i64 yd) := by rw [cc _ _ (by first | omega | (simp; done) | (simp; omega))]; first | assumption | go_simp
  clear cc zz
  clear g9_0_0 g9_0_1 g9_1_0 g9_1_1 g9_2_0 g9_2_1 g9_3_0 g9_3_1 g9_4_0 g9_4_1 g9_5_0 g9_5_1
  go_wp2
  go_ret
  exact ⟨rfl, (by repeat' (first | exact Below.refl _ _ | assumption | (with_reducible refine bdrewN ?_ _) | (with_reducible refine bdrew ?_) | (with_reducible refine bset ?_ ?_) | (with_reducible refine balloc0 ?_) | (with_reducible refine balloc ?_ ?_) | (apply btrans0; rotate_left; assumption) | (apply btrans; rotate_left; assumption) | (simp; done) | omega | (simp; omega)))⟩

end Go.Proofs.Ytfkdhcfedjbkfaa.rationalCompares
