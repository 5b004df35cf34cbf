/-
  Walks of mailboatlaw04.RationalField where one of the three numbers fails its check.
-/
import Derived.Test.YtfkdhcfedjbkfaaRows
import Derived.Test.YtfkdhcfedjbkfaaL
import Derived.Test.YtfkdhcfedjbkfaaM
set_option linter.unusedVariables false
set_option linter.unusedSimpArgs false
namespace Go.Proofs.Ytfkdhcfedjbkfaa.rationalField
open Go.ChangeShapes Go.WideShapes Go.ChangeAt Go.RowKit Go.Joins Go.Proofs.Ytfkdhcfedjbkfaa

set_option maxRecDepth 100000 in
set_option maxHeartbeats 1600000 in
theorem bad_a (an ad bn bd cn cd : Int) (w : World) (an1 : -9223372036854775808 ≤ an) (an2 : an ≤ 9223372036854775807) (ad1 : -9223372036854775808 ≤ ad) (ad2 : ad ≤ 9223372036854775807) (bn1 : -9223372036854775808 ≤ bn) (bn2 : bn ≤ 9223372036854775807) (bd1 : -9223372036854775808 ≤ bd) (bd2 : bd ≤ 9223372036854775807) (cn1 : -9223372036854775808 ≤ cn) (cn2 : cn ≤ 9223372036854775807) (cd1 : -9223372036854775808 ≤ cd) (cd2 : cd ≤ 9223372036854775807) (k : Int) (hk : chk (an, ad) = k) (z : (k != 0) = true) :
    Calls Try.prog 7 #[.agg #[.int .i64 an, .int .i64 ad], .agg #[.int .i64 bn, .int .i64 bd], .agg #[.int .i64 cn, .int .i64 cd]] w fun e w' => e = .returned (.bool true) ∧ Below w.heap.size w w' := by
  have HK := Lib.hid hk
  clear hk
  go_enter Try.func7, Try.ntmps7
  go_wp2_with fail
  refine (check_any an ad k _ an1 an2 ad1 ad2 HK.out).mono ?_
  rintro e w1 ⟨rfl, hb1⟩
  have cc := (bcell hb1).1
  have zz := hb1.size
  try simp at zz
  have l1_0 : w.heap.size < w1.heap.size := by first | omega | (simp at *; omega)
  have g1_0_0 : w1.cell? ⟨w.heap.size, 0, none⟩ = some (.int .i64 an) := by rw [cc _ _ (by first | omega | (simp; done) | (simp; omega))]; first | assumption | go_simp
  have g1_0_1 : w1.cell? ⟨w.heap.size, 1, none⟩ = some (.int .i64 ad) := by rw [cc _ _ (by first | omega | (simp; done) | (simp; omega))]; first | assumption | go_simp
  have l1_1 : w.heap.size + 1 < w1.heap.size := by first | omega | (simp at *; omega)
  have g1_1_0 : w1.cell? ⟨w.heap.size + 1, 0, none⟩ = some (.int .i64 bn) := by rw [cc _ _ (by first | omega | (simp; done) | (simp; omega))]; first | assumption | go_simp
  have g1_1_1 : w1.cell? ⟨w.heap.size + 1, 1, none⟩ = some (.int .i64 bd) := by rw [cc _ _ (by first | omega | (simp; done) | (simp; omega))]; first | assumption | go_simp
  have l1_2 : w.heap.size + 2 < w1.heap.size := by first | omega | (simp at *; omega)
  have g1_2_0 : w1.cell? ⟨w.heap.size + 2, 0, none⟩ = some (.int .i64 cn) := by rw [cc _ _ (by first | omega | (simp; done) | (simp; omega))]; first | assumption | go_simp
  have g1_2_1 : w1.cell? ⟨w.heap.size + 2, 1, none⟩ = some (.int .i64 cd) := by rw [cc _ _ (by first | omega | (simp; done) | (simp; omega))]; first | assumption | go_simp
  clear cc zz
  go_wp2_with fail
  refine (awake_any _).mono ?_
  rintro e w2 ⟨rfl, hb2⟩
  have cc := (bcell hb2).1
  have zz := hb2.size
  try simp at zz
  have l2_0 : w.heap.size < w2.heap.size := by first | omega | (simp at *; omega)
  have g2_0_0 : w2.cell? ⟨w.heap.size, 0, none⟩ = some (.int .i64 an) := by rw [cc _ _ (by first | omega | (simp; done) | (simp; omega))]; first | assumption | go_simp
  have g2_0_1 : w2.cell? ⟨w.heap.size, 1, none⟩ = some (.int .i64 ad) := by rw [cc _ _ (by first | omega | (simp; done) | (simp; omega))]; first | assumption | go_simp
  have l2_1 : w.heap.size + 1 < w2.heap.size := by first | omega | (simp at *; omega)
  have g2_1_0 : w2.cell? ⟨w.heap.size + 1, 0, none⟩ = some (.int .i64 bn) := by rw [cc _ _ (by first | omega | (simp; done) | (simp; omega))]; first | assumption | go_simp
  have g2_1_1 : w2.cell? ⟨w.heap.size + 1, 1, none⟩ = some (.int .i64 bd) := by rw [cc _ _ (by first | omega | (simp; done) | (simp; omega))]; first | assumption | go_simp
  have l2_2 : w.heap.size + 2 < w2.heap.size := by first | omega | (simp at *; omega)
  have g2_2_0 : w2.cell? ⟨w.heap.size + 2, 0, none⟩ = some (.int .i64 cn) := by rw [cc _ _ (by first | omega | (simp; done) | (simp; omega))]; first | assumption | go_simp
  have g2_2_1 : w2.cell? ⟨w.heap.size + 2, 1, none⟩ = some (.int .i64 cd) := by rw [cc _ _ (by first | omega | (simp; done) | (simp; omega))]; first | assumption | go_simp
  clear cc zz
  clear g1_0_0 g1_0_1 g1_1_0 g1_1_1 g1_2_0 g1_2_1
  go_wp2
  go_ret
  exact ⟨rfl, (by repeat' (first | exact Below.refl _ _ | assumption | (with_reducible refine bdrewN ?_ _) | (with_reducible refine bdrew ?_) | (with_reducible refine bset ?_ ?_) | (with_reducible refine balloc0 ?_) | (with_reducible refine balloc ?_ ?_) | (apply btrans0; rotate_left; assumption) | (apply btrans; rotate_left; assumption) | (simp; done) | omega | (simp; omega)))⟩

set_option maxRecDepth 100000 in
set_option maxHeartbeats 1600000 in
theorem bad_b (an ad bn bd cn cd : Int) (w : World) (an1 : -9223372036854775808 ≤ an) (an2 : an ≤ 9223372036854775807) (ad1 : -9223372036854775808 ≤ ad) (ad2 : ad ≤ 9223372036854775807) (bn1 : -9223372036854775808 ≤ bn) (bn2 : bn ≤ 9223372036854775807) (bd1 : -9223372036854775808 ≤ bd) (bd2 : bd ≤ 9223372036854775807) (cn1 : -9223372036854775808 ≤ cn) (cn2 : cn ≤ 9223372036854775807) (cd1 : -9223372036854775808 ≤ cd) (cd2 : cd ≤ 9223372036854775807) (ha : chk (an, ad) = 0) (k : Int) (hk : chk (bn, bd) = k) (z : (k != 0) = true) :
    Calls Try.prog 7 #[.agg #[.int .i64 an, .int .i64 ad], .agg #[.int .i64 bn, .int .i64 bd], .agg #[.int .i64 cn, .int .i64 cd]] w fun e w' => e = .returned (.bool true) ∧ Below w.heap.size w w' := by
  have HA := Lib.hid ha
  have HK := Lib.hid hk
  clear ha hk
  go_enter Try.func7, Try.ntmps7
  go_wp2_with fail
  refine (check_any an ad 0 _ an1 an2 ad1 ad2 HA.out).mono ?_
  rintro e w1 ⟨rfl, hb1⟩
  have cc := (bcell hb1).1
  have zz := hb1.size
  try simp at zz
  have l1_0 : w.heap.size < w1.heap.size := by first | omega | (simp at *; omega)
  have g1_0_0 : w1.cell? ⟨w.heap.size, 0, none⟩ = some (.int .i64 an) := by rw [cc _ _ (by first | omega | (simp; done) | (simp; omega))]; first | assumption | go_simp
  have g1_0_1 : w1.cell? ⟨w.heap.size, 1, none⟩ = some (.int .i64 ad) := by rw [cc _ _ (by first | omega | (simp; done) | (simp; omega))]; first | assumption | go_simp
  have l1_1 : w.heap.size + 1 < w1.heap.size := by first | omega | (simp at *; omega)
  have g1_1_0 : w1.cell? ⟨w.heap.size + 1, 0, none⟩ = some (.int .i64 bn) := by rw [cc _ _ (by first | omega | (simp; done) | (simp; omega))]; first | assumption | go_simp
  have g1_1_1 : w1.cell? ⟨w.heap.size + 1, 1, none⟩ = some (.int .i64 bd) := by rw [cc _ _ (by first | omega | (simp; done) | (simp; omega))]; first | assumption | go_simp
  have l1_2 : w.heap.size + 2 < w1.heap.size := by first | omega | (simp at *; omega)
  have g1_2_0 : w1.cell? ⟨w.heap.size + 2, 0, none⟩ = some (.int .i64 cn) := by rw [cc _ _ (by first | omega | (simp; done) | (simp; omega))]; first | assumption | go_simp
  have g1_2_1 : w1.cell? ⟨w.heap.size + 2, 1, none⟩ = some (.int .i64 cd) := by rw [cc _ _ (by first | omega | (simp; done) | (simp; omega))]; first | assumption | go_simp
  clear cc zz
  go_wp2_with fail
  refine (check_any bn bd k _ bn1 bn2 bd1 bd2 HK.out).mono ?_
  rintro e w2 ⟨rfl, hb2⟩
  have cc := (bcell hb2).1
  have zz := hb2.size
  try simp at zz
  have l2_0 : w.heap.size < w2.heap.size := by first | omega | (simp at *; omega)
  have g2_0_0 : w2.cell? ⟨w.heap.size, 0, none⟩ = some (.int .i64 an) := by rw [cc _ _ (by first | omega | (simp; done) | (simp; omega))]; first | assumption | go_simp
  have g2_0_1 : w2.cell? ⟨w.heap.size, 1, none⟩ = some (.int .i64 ad) := by rw [cc _ _ (by first | omega | (simp; done) | (simp; omega))]; first | assumption | go_simp
  have l2_1 : w.heap.size + 1 < w2.heap.size := by first | omega | (simp at *; omega)
  have g2_1_0 : w2.cell? ⟨w.heap.size + 1, 0, none⟩ = some (.int .i64 bn) := by rw [cc _ _ (by first | omega | (simp; done) | (simp; omega))]; first | assumption | go_simp
  have g2_1_1 : w2.cell? ⟨w.heap.size + 1, 1, none⟩ = some (.int .i64 bd) := by rw [cc _ _ (by first | omega | (simp; done) | (simp; omega))]; first | assumption | go_simp
  have l2_2 : w.heap.size + 2 < w2.heap.size := by first | omega | (simp at *; omega)
  have g2_2_0 : w2.cell? ⟨w.heap.size + 2, 0, none⟩ = some (.int .i64 cn) := by rw [cc _ _ (by first | omega | (simp; done) | (simp; omega))]; first | assumption | go_simp
  have g2_2_1 : w2.cell? ⟨w.heap.size + 2, 1, none⟩ = some (.int .i64 cd) := by rw [cc _ _ (by first | omega | (simp; done) | (simp; omega))]; first | assumption | go_simp
  clear cc zz
  clear g1_0_0 g1_0_1 g1_1_0 g1_1_1 g1_2_0 g1_2_1
  go_wp2_with fail
  refine (awake_any _).mono ?_
  rintro e w3 ⟨rfl, hb3⟩
  have cc := (bcell hb3).1
  have zz := hb3.size
  try simp at zz
  have l3_0 : w.heap.size < w3.heap.size := by first | omega | (simp at *; omega)
  have g3_0_0 : w3.cell? ⟨w.heap.size, 0, none⟩ = some (.int .i64 an) := by rw [cc _ _ (by first | omega | (simp; done) | (simp; omega))]; first | assumption | go_simp
  have g3_0_1 : w3.cell? ⟨w.heap.size, 1, none⟩ = some (.int .i64 ad) := by rw [cc _ _ (by first | omega | (simp; done) | (simp; omega))]; first | assumption | go_simp
  have l3_1 : w.heap.size + 1 < w3.heap.size := by first | omega | (simp at *; omega)
  have g3_1_0 : w3.cell? ⟨w.heap.size + 1, 0, none⟩ = some (.int .i64 bn) := by rw [cc _ _ (by first | omega | (simp; done) | (simp; omega))]; first | assumption | go_simp
  have g3_1_1 : w3.cell? ⟨w.heap.size + 1, 1, none⟩ = some (.int .i64 bd) := by rw [cc _ _ (by first | omega | (simp; done) | (simp; omega))]; first | assumption | go_simp
  have l3_2 : w.heap.size + 2 < w3.heap.size := by first | omega | (simp at *; omega)
  have g3_2_0 : w3.cell? ⟨w.heap.size + 2, 0, none⟩ = some (.int .i64 cn) := by rw [cc _ _ (by first | omega | (simp; done) | (simp; omega))]; first | assumption | go_simp
  have g3_2_1 : w3.cell? ⟨w.heap.size + 2, 1, none⟩ = some (.int .i64 cd) := by rw [cc _ _ (by first | omega | (simp; done) | (simp; omega))]; first | assumption | go_simp
  clear cc zz
  clear g2_0_0 g2_0_1 g2_1_0 g2_1_1 g2_2_0 g2_2_1
  go_wp2
  go_ret
  exact ⟨rfl, (by repeat' (first | exact Below.refl _ _ | assumption | (with_reducible refine bdrewN ?_ _) | (with_reducible refine bdrew ?_) | (with_reducible refine bset ?_ ?_) | (with_reducible refine balloc0 ?_) | (with_reducible refine balloc ?_ ?_) | (apply btrans0; rotate_left; assumption) | (apply btrans; rotate_left; assumption) | (simp; done) | omega | (simp; omega)))⟩

set_option maxRecDepth 100000 in
set_option maxHeartbeats 1600000 in
theorem bad_c (an ad bn bd cn cd : Int) (w : World) (an1 : -9223372036854775808 ≤ an) (an2 : an ≤ 9223372036854775807) (ad1 : -9223372036854775808 ≤ ad) (ad2 : ad ≤ 9223372036854775807) (bn1 : -9223372036854775808 ≤ bn) (bn2 : bn ≤ 9223372036854775807) (bd1 : -9223372036854775808 ≤ bd) (bd2 : bd ≤ 9223372036854775807) (cn1 : -9223372036854775808 ≤ cn) (cn2 : cn ≤ 9223372036854775807) (cd1 : -9223372036854775808 ≤ cd) (cd2 : cd ≤ 9223372036854775807) (ha : chk (an, ad) = 0) (hb : chk (bn, bd) = 0) (k : Int) (hk : chk (cn, cd) = k) (z : (k != 0) = true) :
    Calls Try.prog 7 #[.agg #[.int .i64 an, .int .i64 ad], .agg #[.int .i64 bn, .int .i64 bd], .agg #[.int .i64 cn, .int .i64 cd]] w fun e w' => e = .returned (.bool true) ∧ Below w.heap.size w w' := by
  have HA := Lib.hid ha
  have HB := Lib.hid hb
  have HK := Lib.hid hk
  clear ha hb hk
  go_enter Try.func7, Try.ntmps7
  go_wp2_with fail
  refine (check_any an ad 0 _ an1 an2 ad1 ad2 HA.out).mono ?_
  rintro e w1 ⟨rfl, hb1⟩
  have cc := (bcell hb1).1
  have zz := hb1.size
  try simp at zz
  have l1_0 : w.heap.size < w1.heap.size := by first | omega | (simp at *; omega)
  have g1_0_0 : w1.cell? ⟨w.heap.size, 0, none⟩ = some (.int .i64 an) := by rw [cc _ _ (by first | omega | (simp; done) | (simp; omega))]; first | assumption | go_simp
  have g1_0_1 : w1.cell? ⟨w.heap.size, 1, none⟩ = some (.int .i64 ad) := by rw [cc _ _ (by first | omega | (simp; done) | (simp; omega))]; first | assumption | go_simp
  have l1_1 : w.heap.size + 1 < w1.heap.size := by first | omega | (simp at *; omega)
  have g1_1_0 : w1.cell? ⟨w.heap.size + 1, 0, none⟩ = some (.int .i64 bn) := by rw [cc _ _ (by first | omega | (simp; done) | (simp; omega))]; first | assumption | go_simp
  have g1_1_1 : w1.cell? ⟨w.heap.size + 1, 1, none⟩ = some (.int .i64 bd) := by rw [cc _ _ (by first | omega | (simp; done) | (simp; omega))]; first | assumption | go_simp
  have l1_2 : w.heap.size + 2 < w1.heap.size := by first | omega | (simp at *; omega)
  have g1_2_0 : w1.cell? ⟨w.heap.size + 2, 0, none⟩ = some (.int .i64 cn) := by rw [cc _ _ (by first | omega | (simp; done) | (simp; omega))]; first | assumption | go_simp
  have g1_2_1 : w1.cell? ⟨w.heap.size + 2, 1, none⟩ = some (.int .i64 cd) := by rw [cc _ _ (by first | omega | (simp; done) | (simp; omega))]; first | assumption | go_simp
  clear cc zz
  go_wp2_with fail
  refine (check_any bn bd 0 _ bn1 bn2 bd1 bd2 HB.out).mono ?_
  rintro e w2 ⟨rfl, hb2⟩
  have cc := (bcell hb2).1
  have zz := hb2.size
  try simp at zz
  have l2_0 : w.heap.size < w2.heap.size := by first | omega | (simp at *; omega)
  have g2_0_0 : w2.cell? ⟨w.heap.size, 0, none⟩ = some (.int .i64 an) := by rw [cc _ _ (by first | omega | (simp; done) | (simp; omega))]; first | assumption | go_simp
  have g2_0_1 : w2.cell? ⟨w.heap.size, 1, none⟩ = some (.int .i64 ad) := by rw [cc _ _ (by first | omega | (simp; done) | (simp; omega))]; first | assumption | go_simp
  have l2_1 : w.heap.size + 1 < w2.heap.size := by first | omega | (simp at *; omega)
  have g2_1_0 : w2.cell? ⟨w.heap.size + 1, 0, none⟩ = some (.int .i64 bn) := by rw [cc _ _ (by first | omega | (simp; done) | (simp; omega))]; first | assumption | go_simp
  have g2_1_1 : w2.cell? ⟨w.heap.size + 1, 1, none⟩ = some (.int .i64 bd) := by rw [cc _ _ (by first | omega | (simp; done) | (simp; omega))]; first | assumption | go_simp
  have l2_2 : w.heap.size + 2 < w2.heap.size := by first | omega | (simp at *; omega)
  have g2_2_0 : w2.cell? ⟨w.heap.size + 2, 0, none⟩ = some (.int .i64 cn) := by rw [cc _ _ (by first | omega | (simp; done) | (simp; omega))]; first | assumption | go_simp
  have g2_2_1 : w2.cell? ⟨w.heap.size + 2, 1, none⟩ = some (.int .i64 cd) := by rw [cc _ _ (by first | omega | (simp; done) | (simp; omega))]; first | assumption | go_simp
  clear cc zz
  clear g1_0_0 g1_0_1 g1_1_0 g1_1_1 g1_2_0 g1_2_1
  go_wp2_with fail
  refine (check_any cn cd k _ cn1 cn2 cd1 cd2 HK.out).mono ?_
  rintro e w3 ⟨rfl, hb3⟩
  have cc := (bcell hb3).1
  have zz := hb3.size
  try simp at zz
  have l3_0 : w.heap.size < w3.heap.size := by first | omega | (simp at *; omega)
  have g3_0_0 : w3.cell? ⟨w.heap.size, 0, none⟩ = some (.int .i64 an) := by rw [cc _ _ (by first | omega | (simp; done) | (simp; omega))]; first | assumption | go_simp
  have g3_0_1 : w3.cell? ⟨w.heap.size, 1, none⟩ = some (.int .i64 ad) := by rw [cc _ _ (by first | omega | (simp; done) | (simp; omega))]; first | assumption | go_simp
  have l3_1 : w.heap.size + 1 < w3.heap.size := by first | omega | (simp at *; omega)
  have g3_1_0 : w3.cell? ⟨w.heap.size + 1, 0, none⟩ = some (.int .i64 bn) := by rw [cc _ _ (by first | omega | (simp; done) | (simp; omega))]; first | assumption | go_simp
  have g3_1_1 : w3.cell? ⟨w.heap.size + 1, 1, none⟩ = some (.int .i64 bd) := by rw [cc _ _ (by first | omega | (simp; done) | (simp; omega))]; first | assumption | go_simp
  have l3_2 : w.heap.size + 2 < w3.heap.size := by first | omega | (simp at *; omega)
  have g3_2_0 : w3.cell? ⟨w.heap.size + 2, 0, none⟩ = some (.int .i64 cn) := by rw [cc _ _ (by first | omega | (simp; done) | (simp; omega))]; first | assumption | go_simp
  have g3_2_1 : w3.cell? ⟨w.heap.size + 2, 1, none⟩ = some (.int .i64 cd) := by rw [cc _ _ (by first | omega | (simp; done) | (simp; omega))]; first | assumption | go_simp
  clear cc zz
  clear g2_0_0 g2_0_1 g2_1_0 g2_1_1 g2_2_0 g2_2_1
  go_wp2_with fail
  refine (awake_any _).mono ?_
  rintro e w4 ⟨rfl, hb4⟩
  have cc := (bcell hb4).1
  have zz := hb4.size
  try simp at zz
  have l4_0 : w.heap.size < w4.heap.size := by first | omega | (simp at *; omega)
  have g4_0_0 : w4.cell? ⟨w.heap.size, 0, none⟩ = some (.int .i64 an) := by rw [cc _ _ (by first | omega | (simp; done) | (simp; omega))]; first | assumption | go_simp
  have g4_0_1 : w4.cell? ⟨w.heap.size, 1, none⟩ = some (.int .i64 ad) := by rw [cc _ _ (by first | omega | (simp; done) | (simp; omega))]; first | assumption | go_simp
  have l4_1 : w.heap.size + 1 < w4.heap.size := by first | omega | (simp at *; omega)
  have g4_1_0 : w4.cell? ⟨w.heap.size + 1, 0, none⟩ = some (.int .i64 bn) := by rw [cc _ _ (by first | omega | (simp; done) | (simp; omega))]; first | assumption | go_simp
  have g4_1_1 : w4.cell? ⟨w.heap.size + 1, 1, none⟩ = some (.int .i64 bd) := by rw [cc _ _ (by first | omega | (simp; done) | (simp; omega))]; first | assumption | go_simp
  have l4_2 : w.heap.size + 2 < w4.heap.size := by first | omega | (simp at *; omega)
  have g4_2_0 : w4.cell? ⟨w.heap.size + 2, 0, none⟩ = some (.int .i64 cn) := by rw [cc _ _ (by first | omega | (simp; done) | (simp; omega))]; first | assumption | go_simp
  have g4_2_1 : w4.cell? ⟨w.heap.size + 2, 1, none⟩ = some (.int .i64 cd) := by rw [cc _ _ (by first | omega | (simp; done) | (simp; omega))]; first | assumption | go_simp
  clear cc zz
  clear g3_0_0 g3_0_1 g3_1_0 g3_1_1 g3_2_0 g3_2_1
  go_wp2
  go_ret
  exact ⟨rfl, (by repeat' (first | exact Below.refl _ _ | assumption | (with_reducible refine bdrewN ?_ _) | (with_reducible refine bdrew ?_) | (with_reducible refine bset ?_ ?_) | (with_reducible refine balloc0 ?_) | (with_reducible refine balloc ?_ ?_) | (apply btrans0; rotate_left; assumption) | (apply btrans; rotate_left; assumption) | (simp; done) | omega | (simp; omega)))⟩

end Go.Proofs.Ytfkdhcfedjbkfaa.rationalField
