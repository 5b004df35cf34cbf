/-
  Proved: mailboatlaw04.RationalInverse returns true for every input (Sub undoes Add, Div undoes Mul), and leaves its arguments as they were. No condition.
-/
import Derived.Test.YtfkdhcfedjbkfaaRows
import Derived.Test.YtfkdhcfedjbkfaaL
import Derived.Test.YtfkdhcfedjbkfaaM
namespace Go.Proofs.Ytfkdhcfedjbkfaa.rationalInverse
open Go.ChangeShapes Go.WideShapes Go.ChangeAt Go.RowKit Go.Joins Go.Proofs.Ytfkdhcfedjbkfaa

theorem own : ownKnob Try.prog.godebug = none := by kernel_rfl

set_option maxRecDepth 100000 in
set_option maxHeartbeats 1600000 in
theorem bad_a (an ad bn bd : Int) (w : World) (an1 : -9223372036854775808 ≤ an) (an2 : an ≤ 9223372036854775807) (ad1 : -9223372036854775808 ≤ ad) (ad2 : ad ≤ 9223372036854775807) (bn1 : -9223372036854775808 ≤ bn) (bn2 : bn ≤ 9223372036854775807) (bd1 : -9223372036854775808 ≤ bd) (bd2 : bd ≤ 9223372036854775807) (k : Int) (hk : chk (an, ad) = k) (z : (k != 0) = true) :
    Calls Try.prog 9 #[.agg #[.int .i64 an, .int .i64 ad], .agg #[.int .i64 bn, .int .i64 bd]] w fun e w' => e = .returned (.bool true) ∧ Below w.heap.size w w' := by
  have HK := Lib.hid hk
  clear hk
  go_enter Try.func9, Try.ntmps9
  go_wp2_with fail
  refine (check_any an ad k _ an1 an2 ad1 ad2 HK.out).mono ?_
  rintro e w1 ⟨rfl, hb1⟩
  have cc := (bcell hb1).1
  have zz := hb1.size
  try simp at zz
  have l1_0 : w.heap.size < w1.heap.size := by first | omega | (simp at *; omega)
  have g1_0_0 : w1.cell? ⟨w.heap.size, 0, none⟩ = some (.int .i64 an) := by rw [cc _ _ (by first | omega | (simp; done) | (simp; omega))]; first | assumption | go_simp
  have g1_0_1 : w1.cell? ⟨w.heap.size, 1, none⟩ = some (.int .i64 ad) := by rw [cc _ _ (by first | omega | (simp; done) | (simp; omega))]; first | assumption | go_simp
  have l1_1 : w.heap.size + 1 < w1.heap.size := by first | omega | (simp at *; omega)
  have g1_1_0 : w1.cell? ⟨w.heap.size + 1, 0, none⟩ = some (.int .i64 bn) := by rw [cc _ _ (by first | omega | (simp; done) | (simp; omega))]; first | assumption | go_simp
  have g1_1_1 : w1.cell? ⟨w.heap.size + 1, 1, none⟩ = some (.int .i64 bd) := by rw [cc _ _ (by first | omega | (simp; done) | (simp; omega))]; first | assumption | go_simp
  clear cc zz
  go_wp2_with fail
  refine (awake_any _).mono ?_
  rintro e w2 ⟨rfl, hb2⟩
  have cc := (bcell hb2).1
  have zz := hb2.size
  try simp at zz
  have l2_0 : w.heap.size < w2.heap.size := by first | omega | (simp at *; omega)
  have g2_0_0 : w2.cell? ⟨w.heap.size, 0, none⟩ = some (.int .i64 an) := by rw [cc _ _ (by first | omega | (simp; done) | (simp; omega))]; first | assumption | go_simp
  have g2_0_1 : w2.cell? ⟨w.heap.size, 1, none⟩ = some (.int .i64 ad) := by rw [cc _ _ (by first | omega | (simp; done) | (simp; omega))]; first | assumption | go_simp
  have l2_1 : w.heap.size + 1 < w2.heap.size := by first | omega | (simp at *; omega)
  have g2_1_0 : w2.cell? ⟨w.heap.size + 1, 0, none⟩ = some (.int .i64 bn) := by rw [cc _ _ (by first | omega | (simp; done) | (simp; omega))]; first | assumption | go_simp
  have g2_1_1 : w2.cell? ⟨w.heap.size + 1, 1, none⟩ = some (.int .i64 bd) := by rw [cc _ _ (by first | omega | (simp; done) | (simp; omega))]; first | assumption | go_simp
  clear cc zz
  clear g1_0_0 g1_0_1 g1_1_0 g1_1_1
  go_wp2
  go_ret
  exact ⟨rfl, (by repeat' (first | exact Below.refl _ _ | assumption | (with_reducible refine bdrewN ?_ _) | (with_reducible refine bdrew ?_) | (with_reducible refine bset ?_ ?_) | (with_reducible refine balloc0 ?_) | (with_reducible refine balloc ?_ ?_) | (apply btrans0; rotate_left; assumption) | (apply btrans; rotate_left; assumption) | (simp; done) | omega | (simp; omega)))⟩

set_option maxRecDepth 100000 in
set_option maxHeartbeats 1600000 in
theorem bad_b (an ad bn bd : Int) (w : World) (an1 : -9223372036854775808 ≤ an) (an2 : an ≤ 9223372036854775807) (ad1 : -9223372036854775808 ≤ ad) (ad2 : ad ≤ 9223372036854775807) (bn1 : -9223372036854775808 ≤ bn) (bn2 : bn ≤ 9223372036854775807) (bd1 : -9223372036854775808 ≤ bd) (bd2 : bd ≤ 9223372036854775807) (k : Int) (ha : chk (an, ad) = 0) (hk : chk (bn, bd) = k) (z : (k != 0) = true) :
    Calls Try.prog 9 #[.agg #[.int .i64 an, .int .i64 ad], .agg #[.int .i64 bn, .int .i64 bd]] w fun e w' => e = .returned (.bool true) ∧ Below w.heap.size w w' := by
  have HA := Lib.hid ha
  have HK := Lib.hid hk
  clear ha hk
  go_enter Try.func9, Try.ntmps9
  go_wp2_with fail
  refine (check_any an ad 0 _ an1 an2 ad1 ad2 HA.out).mono ?_
  rintro e w1 ⟨rfl, hb1⟩
  have cc := (bcell hb1).1
  have zz := hb1.size
  try simp at zz
  have l1_0 : w.heap.size < w1.heap.size := by first | omega | (simp at *; omega)
  have g1_0_0 : w1.cell? ⟨w.heap.size, 0, none⟩ = some (.int .i64 an) := by rw [cc _ _ (by first | omega | (simp; done) | (simp; omega))]; first | assumption | go_simp
  have g1_0_1 : w1.cell? ⟨w.heap.size, 1, none⟩ = some (.int .i64 ad) := by rw [cc _ _ (by first | omega | (simp; done) | (simp; omega))]; first | assumption | go_simp
  have l1_1 : w.heap.size + 1 < w1.heap.size := by first | omega | (simp at *; omega)
  have g1_1_0 : w1.cell? ⟨w.heap.size + 1, 0, none⟩ = some (.int .i64 bn) := by rw [cc _ _ (by first | omega | (simp; done) | (simp; omega))]; first | assumption | go_simp
  have g1_1_1 : w1.cell? ⟨w.heap.size + 1, 1, none⟩ = some (.int .i64 bd) := by rw [cc _ _ (by first | omega | (simp; done) | (simp; omega))]; first | assumption | go_simp
  clear cc zz
  go_wp2_with fail
  refine (check_any bn bd k _ bn1 bn2 bd1 bd2 HK.out).mono ?_
  rintro e w2 ⟨rfl, hb2⟩
  have cc := (bcell hb2).1
  have zz := hb2.size
  try simp at zz
  have l2_0 : w.heap.size < w2.heap.size := by first | omega | (simp at *; omega)
  have g2_0_0 : w2.cell? ⟨w.heap.size, 0, none⟩ = some (.int .i64 an) := by rw [cc _ _ (by first | omega | (simp; done) | (simp; omega))]; first | assumption | go_simp
  have g2_0_1 : w2.cell? ⟨w.heap.size, 1, none⟩ = some (.int .i64 ad) := by rw [cc _ _ (by first | omega | (simp; done) | (simp; omega))]; first | assumption | go_simp
  have l2_1 : w.heap.size + 1 < w2.heap.size := by first | omega | (simp at *; omega)
  have g2_1_0 : w2.cell? ⟨w.heap.size + 1, 0, none⟩ = some (.int .i64 bn) := by rw [cc _ _ (by first | omega | (simp; done) | (simp; omega))]; first | assumption | go_simp
  have g2_1_1 : w2.cell? ⟨w.heap.size + 1, 1, none⟩ = some (.int .i64 bd) := by rw [cc _ _ (by first | omega | (simp; done) | (simp; omega))]; first | assumption | go_simp
  clear cc zz
  clear g1_0_0 g1_0_1 g1_1_0 g1_1_1
  go_wp2_with fail
  refine (awake_any _).mono ?_
  rintro e w3 ⟨rfl, hb3⟩
  have cc := (bcell hb3).1
  have zz := hb3.size
  try simp at zz
  have l3_0 : w.heap.size < w3.heap.size := by first | omega | (simp at *; omega)
  have g3_0_0 : w3.cell? ⟨w.heap.size, 0, none⟩ = some (.int .i64 an) := by rw [cc _ _ (by first | omega | (simp; done) | (simp; omega))]; first | assumption | go_simp
  have g3_0_1 : w3.cell? ⟨w.heap.size, 1, none⟩ = some (.int .i64 ad) := by rw [cc _ _ (by first | omega | (simp; done) | (simp; omega))]; first | assumption | go_simp
  have l3_1 : w.heap.size + 1 < w3.heap.size := by first | omega | (simp at *; omega)
  have g3_1_0 : w3.cell? ⟨w.heap.size + 1, 0, none⟩ = some (.int .i64 bn) := by rw [cc _ _ (by first | omega | (simp; done) | (simp; omega))]; first | assumption | go_simp
  have g3_1_1 : w3.cell? ⟨w.heap.size + 1, 1, none⟩ = some (.int .i64 bd) := by rw [cc _ _ (by first | omega | (simp; done) | (simp; omega))]; first | assumption | go_simp
  clear cc zz
  clear g2_0_0 g2_0_1 g2_1_0 g2_1_1
  go_wp2
  go_ret
  exact ⟨rfl, (by repeat' (first | exact Below.refl _ _ | assumption | (with_reducible refine bdrewN ?_ _) | (with_reducible refine bdrew ?_) | (with_reducible refine bset ?_ ?_) | (with_reducible refine balloc0 ?_) | (with_reducible refine balloc ?_ ?_) | (apply btrans0; rotate_left; assumption) | (apply btrans; rotate_left; assumption) | (simp; done) | omega | (simp; omega)))⟩

set_option maxRecDepth 100000 in
set_option maxHeartbeats 2400000 in
theorem way_0_zero (an ad bn bd : Int) (w : World) (an1 : -9223372036854775808 ≤ an) (an2 : an ≤ 9223372036854775807) (ad1 : -9223372036854775808 ≤ ad) (ad2 : ad ≤ 9223372036854775807) (bn1 : -9223372036854775808 ≤ bn) (bn2 : bn ≤ 9223372036854775807) (bd1 : -9223372036854775808 ≤ bd) (bd2 : bd ≤ 9223372036854775807) (ha : chk (an, ad) = 0) (hb : chk (bn, bd) = 0) (sn sd se : Int) (hs : opS add0 (an, ad) (bn, bd) = ((sn, sd), se)) (zs : (se == 0) = false) (hp : opS mul0 (an, ad) (bn, bd) = ((0, 1), 0)) (hq : opS div0 (an, ad) (bn, bd) = ((0, 0), 21)) (zb : (bn == 0) = true) :
    Calls Try.prog 9 #[.agg #[.int .i64 an, .int .i64 ad], .agg #[.int .i64 bn, .int .i64 bd]] w fun e w' => e = .returned (.bool true) ∧ Below w.heap.size w w' := by
  have HA := Lib.hid ha
  have HB := Lib.hid hb
  have HS := Lib.hid hs
  have HP := Lib.hid hp
  have HQ := Lib.hid hq
  clear ha hb hs hp hq
  go_enter Try.func9, Try.ntmps9
  go_wp2_with fail
  refine (check_any an ad 0 _ an1 an2 ad1 ad2 HA.out).mono ?_
  rintro e w1 ⟨rfl, hb1⟩
  have cc := (bcell hb1).1
  have zz := hb1.size
  try simp at zz
  have l1_0 : w.heap.size < w1.heap.size := by first | omega | (simp at *; omega)
  have g1_0_0 : w1.cell? ⟨w.heap.size, 0, none⟩ = some (.int .i64 an) := by rw [cc _ _ (by first | omega | (simp; done) | (simp; omega))]; first | assumption | go_simp
  have g1_0_1 : w1.cell? ⟨w.heap.size, 1, none⟩ = some (.int .i64 ad) := by rw [cc _ _ (by first | omega | (simp; done) | (simp; omega))]; first | assumption | go_simp
  have l1_1 : w.heap.size + 1 < w1.heap.size := by first | omega | (simp at *; omega)
  have g1_1_0 : w1.cell? ⟨w.heap.size + 1, 0, none⟩ = some (.int .i64 bn) := by rw [cc _ _ (by first | omega | (simp; done) | (simp; omega))]; first | assumption | go_simp
  have g1_1_1 : w1.cell? ⟨w.heap.size + 1, 1, none⟩ = some (.int .i64 bd) := by rw [cc _ _ (by first | omega | (simp; done) | (simp; omega))]; first | assumption | go_simp
  clear cc zz
  go_wp2_with fail
  refine (check_any bn bd 0 _ bn1 bn2 bd1 bd2 HB.out).mono ?_
  rintro e w2 ⟨rfl, hb2⟩
  have cc := (bcell hb2).1
  have zz := hb2.size
  try simp at zz
  have l2_0 : w.heap.size < w2.heap.size := by first | omega | (simp at *; omega)
  have g2_0_0 : w2.cell? ⟨w.heap.size, 0, none⟩ = some (.int .i64 an) := by rw [cc _ _ (by first | omega | (simp; done) | (simp; omega))]; first | assumption | go_simp
  have g2_0_1 : w2.cell? ⟨w.heap.size, 1, none⟩ = some (.int .i64 ad) := by rw [cc _ _ (by first | omega | (simp; done) | (simp; omega))]; first | assumption | go_simp
  have l2_1 : w.heap.size + 1 < w2.heap.size := by first | omega | (simp at *; omega)
  have g2_1_0 : w2.cell? ⟨w.heap.size + 1, 0, none⟩ = some (.int .i64 bn) := by rw [cc _ _ (by first | omega | (simp; done) | (simp; omega))]; first | assumption | go_simp
  have g2_1_1 : w2.cell? ⟨w.heap.size + 1, 1, none⟩ = some (.int .i64 bd) := by rw [cc _ _ (by first | omega | (simp; done) | (simp; omega))]; first | assumption | go_simp
  clear cc zz
  clear g1_0_0 g1_0_1 g1_1_0 g1_1_1
  go_wp2_with fail
  refine (add_any an ad bn bd sn sd se _ an1 an2 ad1 ad2 bn1 bn2 bd1 bd2 HS.out).mono ?_
  rintro e w3 ⟨rfl, hb3⟩
  have cc := (bcell hb3).1
  have zz := hb3.size
  try simp at zz
  have l3_0 : w.heap.size < w3.heap.size := by first | omega | (simp at *; omega)
  have g3_0_0 : w3.cell? ⟨w.heap.size, 0, none⟩ = some (.int .i64 an) := by rw [cc _ _ (by first | omega | (simp; done) | (simp; omega))]; first | assumption | go_simp
  have g3_0_1 : w3.cell? ⟨w.heap.size, 1, none⟩ = some (.int .i64 ad) := by rw [cc _ _ (by first | omega | (simp; done) | (simp; omega))]; first | assumption | go_simp
  have l3_1 : w.heap.size + 1 < w3.heap.size := by first | omega | (simp at *; omega)
  have g3_1_0 : w3.cell? ⟨w.heap.size + 1, 0, none⟩ = some (.int .i64 bn) := by rw [cc _ _ (by first | omega | (simp; done) | (simp; omega))]; first | assumption | go_simp
  have g3_1_1 : w3.cell? ⟨w.heap.size + 1, 1, none⟩ = some (.int .i64 bd) := by rw [cc _ _ (by first | omega | (simp; done) | (simp; omega))]; first | assumption | go_simp
  clear cc zz
  clear g2_0_0 g2_0_1 g2_1_0 g2_1_1
  go_wp2_with fail
  refine (mul_any an ad bn bd 0 1 0 _ an1 an2 ad1 ad2 bn1 bn2 bd1 bd2 HP.out).mono ?_
  rintro e w4 ⟨rfl, hb4⟩
  have cc := (bcell hb4).1
  have zz := hb4.size
  try simp at zz
  have l4_0 : w.heap.size < w4.heap.size := by first | omega | (simp at *; omega)
  have g4_0_0 : w4.cell? ⟨w.heap.size, 0, none⟩ = some (.int .i64 an) := by rw [cc _ _ (by first | omega | (simp; done) | (simp; omega))]; first | assumption | go_simp
  have g4_0_1 : w4.cell? ⟨w.heap.size, 1, none⟩ = some (.int .i64 ad) := by rw [cc _ _ (by first | omega | (simp; done) | (simp; omega))]; first | assumption | go_simp
  have l4_1 : w.heap.size + 1 < w4.heap.size := by first | omega | (simp at *; omega)
  have g4_1_0 : w4.cell? ⟨w.heap.size + 1, 0, none⟩ = some (.int .i64 bn) := by rw [cc _ _ (by first | omega | (simp; done) | (simp; omega))]; first | assumption | go_simp
  have g4_1_1 : w4.cell? ⟨w.heap.size + 1, 1, none⟩ = some (.int .i64 bd) := by rw [cc _ _ (by first | omega | (simp; done) | (simp; omega))]; first | assumption | go_simp
  have l4_2 : w3.heap.size < w4.heap.size := by first | omega | (simp at *; omega)
  have g4_2_0 : w4.cell? ⟨w3.heap.size, 0, none⟩ = some (.int .i64 sn) := by rw [cc _ _ (by first | omega | (simp; done) | (simp; omega))]; first | assumption | go_simp
  have g4_2_1 : w4.cell? ⟨w3.heap.size, 1, none⟩ = some (.int .i64 sd) := by rw [cc _ _ (by first | omega | (simp; done) | (simp; omega))]; first | assumption | go_simp
  clear cc zz
  clear g3_0_0 g3_0_1 g3_1_0 g3_1_1
  go_wp2_with fail
  refine (div_any an ad bn bd 0 0 21 _ an1 an2 ad1 ad2 bn1 bn2 bd1 bd2 HQ.out).mono ?_
  rintro e w5 ⟨rfl, hb5⟩
  have cc := (bcell hb5).1
  have zz := hb5.size
  try simp at zz
  have l5_0 : w.heap.size < w5.heap.size := by first | omega | (simp at *; omega)
  have g5_0_0 : w5.cell? ⟨w.heap.size, 0, none⟩ = some (.int .i64 an) := by rw [cc _ _ (by first | omega | (simp; done) | (simp; omega))]; first | assumption | go_simp
  have g5_0_1 : w5.cell? ⟨w.heap.size, 1, none⟩ = some (.int .i64 ad) := by rw [cc _ _ (by first | omega | (simp; done) | (simp; omega))]; first | assumption | go_simp
  have l5_1 : w.heap.size + 1 < w5.heap.size := by first | omega | (simp at *; omega)
  have g5_1_0 : w5.cell? ⟨w.heap.size + 1, 0, none⟩ = some (.int .i64 bn) := by rw [cc _ _ (by first | omega | (simp; done) | (simp; omega))]; first | assumption | go_simp
  have g5_1_1 : w5.cell? ⟨w.heap.size + 1, 1, none⟩ = some (.int .i64 bd) := by rw [cc _ _ (by first | omega | (simp; done) | (simp; omega))]; first | assumption | go_simp
  have l5_2 : w3.heap.size < w5.heap.size := by first | omega | (simp at *; omega)
  have g5_2_0 : w5.cell? ⟨w3.heap.size, 0, none⟩ = some (.int .i64 sn) := by rw [cc _ _ (by first | omega | (simp; done) | (simp; omega))]; first | assumption | go_simp
  have g5_2_1 : w5.cell? ⟨w3.heap.size, 1, none⟩ = some (.int .i64 sd) := by rw [cc _ _ (by first | omega | (simp; done) | (simp; omega))]; first | assumption | go_simp
  have l5_3 : w4.heap.size < w5.heap.size := by first | omega | (simp at *; omega)
  have g5_3_0 : w5.cell? ⟨w4.heap.size, 0, none⟩ = some (.int .i64 0) := by rw [cc _ _ (by first | omega | (simp; done) | (simp; omega))]; first | assumption | go_simp
  have g5_3_1 : w5.cell? ⟨w4.heap.size, 1, none⟩ = some (.int .i64 1) := by rw [cc _ _ (by first | omega | (simp; done) | (simp; omega))]; first | assumption | go_simp
  clear cc zz
  clear g4_0_0 g4_0_1 g4_1_0 g4_1_1 g4_2_0 g4_2_1
  go_wp2_with fail
  refine (awake_any _).mono ?_
  rintro e w6 ⟨rfl, hb6⟩
  have cc := (bcell hb6).1
  have zz := hb6.size
  try simp at zz
  have l6_0 : w.heap.size < w6.heap.size := by first | omega | (simp at *; omega)
  have g6_0_0 : w6.cell? ⟨w.heap.size, 0, none⟩ = some (.int .i64 an) := by rw [cc _ _ (by first | omega | (simp; done) | (simp; omega))]; first | assumption | go_simp
  have g6_0_1 : w6.cell? ⟨w.heap.size, 1, none⟩ = some (.int .i64 ad) := by rw [cc _ _ (by first | omega | (simp; done) | (simp; omega))]; first | assumption | go_simp
  have l6_1 : w.heap.size + 1 < w6.heap.size := by first | omega | (simp at *; omega)
  have g6_1_0 : w6.cell? ⟨w.heap.size + 1, 0, none⟩ = some (.int .i64 bn) := by rw [cc _ _ (by first | omega | (simp; done) | (simp; omega))]; first | assumption | go_simp
  have g6_1_1 : w6.cell? ⟨w.heap.size + 1, 1, none⟩ = some (.int .i64 bd) := by rw [cc _ _ (by first | omega | (simp; done) | (simp; omega))]; first | assumption | go_simp
  have l6_2 : w3.heap.size < w6.heap.size := by first | omega | (simp at *; omega)
  have g6_2_0 : w6.cell? ⟨w3.heap.size, 0, none⟩ = some (.int .i64 sn) := by rw [cc _ _ (by first | omega | (simp; done) | (simp; omega))]; first | assumption | go_simp
  have g6_2_1 : w6.cell? ⟨w3.heap.size, 1, none⟩ = some (.int .i64 sd) := by rw [cc _ _ (by first | omega | (simp; done) | (simp; omega))]; first | assumption | go_simp
  have l6_3 : w4.heap.size < w6.heap.size := by first | omega | (simp at *; omega)
  have g6_3_0 : w6.cell? ⟨w4.heap.size, 0, none⟩ = some (.int .i64 0) := by rw [cc _ _ (by first | omega | (simp; done) | (simp; omega))]; first | assumption | go_simp
  have g6_3_1 : w6.cell? ⟨w4.heap.size, 1, none⟩ = some (.int .i64 1) := by rw [cc _ _ (by first | omega | (simp; done) | (simp; omega))]; first | assumption | go_simp
  have l6_4 : w5.heap.size < w6.heap.size := by first | omega | (simp at *; omega)
  have g6_4_0 : w6.cell? ⟨w5.heap.size, 0, none⟩ = some (.int .i64 0) := by rw [cc _ _ (by first | omega | (simp; done) | (simp; omega))]; first | assumption | go_simp
  have g6_4_1 : w6.cell? ⟨w5.heap.size, 1, none⟩ = some (.int .i64 0) := by rw [cc _ _ (by first | omega | (simp; done) | (simp; omega))]; first | assumption | go_simp
  clear cc zz
  clear g5_0_0 g5_0_1 g5_1_0 g5_1_1 g5_2_0 g5_2_1 g5_3_0 g5_3_1
  go_wp2
  go_ret
  exact ⟨rfl, (by repeat' (first | exact Below.refl _ _ | assumption | (with_reducible refine bdrewN ?_ _) | (with_reducible refine bdrew ?_) | (with_reducible refine bset ?_ ?_) | (with_reducible refine balloc0 ?_) | (with_reducible refine balloc ?_ ?_) | (apply btrans0; rotate_left; assumption) | (apply btrans; rotate_left; assumption) | (simp; done) | omega | (simp; omega)))⟩

set_option maxRecDepth 100000 in
set_option maxHeartbeats 2400000 in
theorem way_0_over (an ad bn bd : Int) (w : World) (an1 : -9223372036854775808 ≤ an) (an2 : an ≤ 9223372036854775807) (ad1 : -9223372036854775808 ≤ ad) (ad2 : ad ≤ 9223372036854775807) (bn1 : -9223372036854775808 ≤ bn) (bn2 : bn ≤ 9223372036854775807) (bd1 : -9223372036854775808 ≤ bd) (bd2 : bd ≤ 9223372036854775807) (pn pd : Int) (ha : chk (an, ad) = 0) (hb : chk (bn, bd) = 0) (sn sd se : Int) (hs : opS add0 (an, ad) (bn, bd) = ((sn, sd), se)) (zs : (se == 0) = false) (hp : opS mul0 (an, ad) (bn, bd) = ((pn, pd), 5)) (zb : (bn == 0) = false) :
    Calls Try.prog 9 #[.agg #[.int .i64 an, .int .i64 ad], .agg #[.int .i64 bn, .int .i64 bd]] w fun e w' => e = .returned (.bool true) ∧ Below w.heap.size w w' := by
  have HA := Lib.hid ha
  have HB := Lib.hid hb
  have HS := Lib.hid hs
  have HP := Lib.hid hp
  clear ha hb hs hp
  go_enter Try.func9, Try.ntmps9
  go_wp2_with fail
  refine (check_any an ad 0 _ an1 an2 ad1 ad2 HA.out).mono ?_
  rintro e w1 ⟨rfl, hb1⟩
  have cc := (bcell hb1).1
  have zz := hb1.size
  try simp at zz
  have l1_0 : w.heap.size < w1.heap.size := by first | omega | (simp at *; omega)
  have g1_0_0 : w1.cell? ⟨w.heap.size, 0, none⟩ = some (.int .i64 an) := by rw [cc _ _ (by first | omega | (simp; done) | (simp; omega))]; first | assumption | go_simp
  have g1_0_1 : w1.cell? ⟨w.heap.size, 1, none⟩ = some (.int .i64 ad) := by rw [cc _ _ (by first | omega | (simp; done) | (simp; omega))]; first | assumption | go_simp
  have l1_1 : w.heap.size + 1 < w1.heap.size := by first | omega | (simp at *; omega)
  have g1_1_0 : w1.cell? ⟨w.heap.size + 1, 0, none⟩ = some (.int .i64 bn) := by rw [cc _ _ (by first | omega | (simp; done) | (simp; omega))]; first | assumption | go_simp
  have g1_1_1 : w1.cell? ⟨w.heap.size + 1, 1, none⟩ = some (.int .i64 bd) := by rw [cc _ _ (by first | omega | (simp; done) | (simp; omega))]; first | assumption | go_simp
  clear cc zz
  go_wp2_with fail
  refine (check_any bn bd 0 _ bn1 bn2 bd1 bd2 HB.out).mono ?_
  rintro e w2 ⟨rfl, hb2⟩
  have cc := (bcell hb2).1
  have zz := hb2.size
  try simp at zz
  have l2_0 : w.heap.size < w2.heap.size := by first | omega | (simp at *; omega)
  have g2_0_0 : w2.cell? ⟨w.heap.size, 0, none⟩ = some (.int .i64 an) := by rw [cc _ _ (by first | omega | (simp; done) | (simp; omega))]; first | assumption | go_simp
  have g2_0_1 : w2.cell? ⟨w.heap.size, 1, none⟩ = some (.int .i64 ad) := by rw [cc _ _ (by first | omega | (simp; done) | (simp; omega))]; first | assumption | go_simp
  have l2_1 : w.heap.size + 1 < w2.heap.size := by first | omega | (simp at *; omega)
  have g2_1_0 : w2.cell? ⟨w.heap.size + 1, 0, none⟩ = some (.int .i64 bn) := by rw [cc _ _ (by first | omega | (simp; done) | (simp; omega))]; first | assumption | go_simp
  have g2_1_1 : w2.cell? ⟨w.heap.size + 1, 1, none⟩ = some (.int .i64 bd) := by rw [cc _ _ (by first | omega | (simp; done) | (simp; omega))]; first | assumption | go_simp
  clear cc zz
  clear g1_0_0 g1_0_1 g1_1_0 g1_1_1
  go_wp2_with fail
  refine (add_any an ad bn bd sn sd se _ an1 an2 ad1 ad2 bn1 bn2 bd1 bd2 HS.out).mono ?_
  rintro e w3 ⟨rfl, hb3⟩
  have cc := (bcell hb3).1
  have zz := hb3.size
  try simp at zz
  have l3_0 : w.heap.size < w3.heap.size := by first | omega | (simp at *; omega)
  have g3_0_0 : w3.cell? ⟨w.heap.size, 0, none⟩ = some (.int .i64 an) := by rw [cc _ _ (by first | omega | (simp; done) | (simp; omega))]; first | assumption | go_simp
  have g3_0_1 : w3.cell? ⟨w.heap.size, 1, none⟩ = some (.int .i64 ad) := by rw [cc _ _ (by first | omega | (simp; done) | (simp; omega))]; first | assumption | go_simp
  have l3_1 : w.heap.size + 1 < w3.heap.size := by first | omega | (simp at *; omega)
  have g3_1_0 : w3.cell? ⟨w.heap.size + 1, 0, none⟩ = some (.int .i64 bn) := by rw [cc _ _ (by first | omega | (simp; done) | (simp; omega))]; first | assumption | go_simp
  have g3_1_1 : w3.cell? ⟨w.heap.size + 1, 1, none⟩ = some (.int .i64 bd) := by rw [cc _ _ (by first | omega | (simp; done) | (simp; omega))]; first | assumption | go_simp
  clear cc zz
  clear g2_0_0 g2_0_1 g2_1_0 g2_1_1
  go_wp2_with fail
  refine (mul_any an ad bn bd pn pd 5 _ an1 an2 ad1 ad2 bn1 bn2 bd1 bd2 HP.out).mono ?_
  rintro e w4 ⟨rfl, hb4⟩
  have cc := (bcell hb4).1
  have zz := hb4.size
  try simp at zz
  have l4_0 : w.heap.size < w4.heap.size := by first | omega | (simp at *; omega)
  have g4_0_0 : w4.cell? ⟨w.heap.size, 0, none⟩ = some (.int .i64 an) := by rw [cc _ _ (by first | omega | (simp; done) | (simp; omega))]; first | assumption | go_simp
  have g4_0_1 : w4.cell? ⟨w.heap.size, 1, none⟩ = some (.int .i64 ad) := by rw [cc _ _ (by first | omega | (simp; done) | (simp; omega))]; first | assumption | go_simp
  have l4_1 : w.heap.size + 1 < w4.heap.size := by first | omega | (simp at *; omega)
  have g4_1_0 : w4.cell? ⟨w.heap.size + 1, 0, none⟩ = some (.int .i64 bn) := by rw [cc _ _ (by first | omega | (simp; done) | (simp; omega))]; first | assumption | go_simp
  have g4_1_1 : w4.cell? ⟨w.heap.size + 1, 1, none⟩ = some (.int .i64 bd) := by rw [cc _ _ (by first | omega | (simp; done) | (simp; omega))]; first | assumption | go_simp
  have l4_2 : w3.heap.size < w4.heap.size := by first | omega | (simp at *; omega)
  have g4_2_0 : w4.cell? ⟨w3.heap.size, 0, none⟩ = some (.int .i64 sn) := by rw [cc _ _ (by first | omega | (simp; done) | (simp; omega))]; first | assumption | go_simp
  have g4_2_1 : w4.cell? ⟨w3.heap.size, 1, none⟩ = some (.int .i64 sd) := by rw [cc _ _ (by first | omega | (simp; done) | (simp; omega))]; first | assumption | go_simp
  clear cc zz
  clear g3_0_0 g3_0_1 g3_1_0 g3_1_1
  go_wp2_with fail
  refine (awake_any _).mono ?_
  rintro e w5 ⟨rfl, hb5⟩
  have cc := (bcell hb5).1
  have zz := hb5.size
  try simp at zz
  have l5_0 : w.heap.size < w5.heap.size := by first | omega | (simp at *; omega)
  have g5_0_0 : w5.cell? ⟨w.heap.size, 0, none⟩ = some (.int .i64 an) := by rw [cc _ _ (by first | omega | (simp; done) | (simp; omega))]; first | assumption | go_simp
  have g5_0_1 : w5.cell? ⟨w.heap.size, 1, none⟩ = some (.int .i64 ad) := by rw [cc _ _ (by first | omega | (simp; done) | (simp; omega))]; first | assumption | go_simp
  have l5_1 : w.heap.size + 1 < w5.heap.size := by first | omega | (simp at *; omega)
  have g5_1_0 : w5.cell? ⟨w.heap.size + 1, 0, none⟩ = some (.int .i64 bn) := by rw [cc _ _ (by first | omega | (simp; done) | (simp; omega))]; first | assumption | go_simp
  have g5_1_1 : w5.cell? ⟨w.heap.size + 1, 1, none⟩ = some (.int .i64 bd) := by rw [cc _ _ (by first | omega | (simp; done) | (simp; omega))]; first | assumption | go_simp
  have l5_2 : w3.heap.size < w5.heap.size := by first | omega | (simp at *; omega)
  have g5_2_0 : w5.cell? ⟨w3.heap.size, 0, none⟩ = some (.int .i64 sn) := by rw [cc _ _ (by first | omega | (simp; done) | (simp; omega))]; first | assumption | go_simp
  have g5_2_1 : w5.cell? ⟨w3.heap.size, 1, none⟩ = some (.int .i64 sd) := by rw [cc _ _ (by first | omega | (simp; done) | (simp; omega))]; first | assumption | go_simp
  have l5_3 : w4.heap.size < w5.heap.size := by first | omega | (simp at *; omega)
  have g5_3_0 : w5.cell? ⟨w4.heap.size, 0, none⟩ = some (.int .i64 pn) := by rw [cc _ _ (by first | omega | (simp; done) | (simp; omega))]; first | assumption | go_simp
  have g5_3_1 : w5.cell? ⟨w4.heap.size, 1, none⟩ = some (.int .i64 pd) := by rw [cc _ _ (by first | omega | (simp; done) | (simp; omega))]; first | assumption | go_simp
  clear cc zz
  clear g4_0_0 g4_0_1 g4_1_0 g4_1_1 g4_2_0 g4_2_1
  go_wp2
  go_ret
  exact ⟨rfl, (by repeat' (first | exact Below.refl _ _ | assumption | (with_reducible refine bdrewN ?_ _) | (with_reducible refine bdrew ?_) | (with_reducible refine bset ?_ ?_) | (with_reducible refine balloc0 ?_) | (with_reducible refine balloc ?_ ?_) | (apply btrans0; rotate_left; assumption) | (apply btrans; rotate_left; assumption) | (simp; done) | omega | (simp; omega)))⟩

set_option maxRecDepth 100000 in
set_option maxHeartbeats 2400000 in
theorem way_0_ok (an ad bn bd : Int) (w : World) (an1 : -9223372036854775808 ≤ an) (an2 : an ≤ 9223372036854775807) (ad1 : -9223372036854775808 ≤ ad) (ad2 : ad ≤ 9223372036854775807) (bn1 : -9223372036854775808 ≤ bn) (bn2 : bn ≤ 9223372036854775807) (bd1 : -9223372036854775808 ≤ bd) (bd2 : bd ≤ 9223372036854775807) (pn pd : Int) (ha : chk (an, ad) = 0) (hb : chk (bn, bd) = 0) (sn sd se : Int) (hs : opS add0 (an, ad) (bn, bd) = ((sn, sd), se)) (zs : (se == 0) = false) (hp : opS mul0 (an, ad) (bn, bd) = ((pn, pd), 0)) (zb : (bn == 0) = false) (p1 : -9223372036854775808 ≤ pn) (p2 : pn ≤ 9223372036854775807) (p3 : -9223372036854775808 ≤ pd) (p4 : pd ≤ 9223372036854775807) (hq : opS div0 (pn, pd) (bn, bd) = ((an, ad), 0)) :
    Calls Try.prog 9 #[.agg #[.int .i64 an, .int .i64 ad], .agg #[.int .i64 bn, .int .i64 bd]] w fun e w' => e = .returned (.bool true) ∧ Below w.heap.size w w' := by
  have HA := Lib.hid ha
  have HB := Lib.hid hb
  have HS := Lib.hid hs
  have HP := Lib.hid hp
  have HQ := Lib.hid hq
  clear ha hb hs hp hq
  go_enter Try.func9, Try.ntmps9
  go_wp2_with fail
  refine (check_any an ad 0 _ an1 an2 ad1 ad2 HA.out).mono ?_
  rintro e w1 ⟨rfl, hb1⟩
  have cc := (bcell hb1).1
  have zz := hb1.size
  try simp at zz
  have l1_0 : w.heap.size < w1.heap.size := by first | omega | (simp at *; omega)
  have g1_0_0 : w1.cell? ⟨w.heap.size, 0, none⟩ = some (.int .i64 an) := by rw [cc _ _ (by first | omega | (simp; done) | (simp; omega))]; first | assumption | go_simp
  have g1_0_1 : w1.cell? ⟨w.heap.size, 1, none⟩ = some (.int .i64 ad) := by rw [cc _ _ (by first | omega | (simp; done) | (simp; omega))]; first | assumption | go_simp
  have l1_1 : w.heap.size + 1 < w1.heap.size := by first | omega | (simp at *; omega)
  have g1_1_0 : w1.cell? ⟨w.heap.size + 1, 0, none⟩ = some (.int .i64 bn) := by rw [cc _ _ (by first | omega | (simp; done) | (simp; omega))]; first | assumption | go_simp
  have g1_1_1 : w1.cell? ⟨w.heap.size + 1, 1, none⟩ = some (.int .i64 bd) := by rw [cc _ _ (by first | omega | (simp; done) | (simp; omega))]; first | assumption | go_simp
  clear cc zz
  go_wp2_with fail
  refine (check_any bn bd 0 _ bn1 bn2 bd1 bd2 HB.out).mono ?_
  rintro e w2 ⟨rfl, hb2⟩
  have cc := (bcell hb2).1
  have zz := hb2.size
  try simp at zz
  have l2_0 : w.heap.size < w2.heap.size := by first | omega | (simp at *; omega)
  have g2_0_0 : w2.cell? ⟨w.heap.size, 0, none⟩ = some (.int .i64 an) := by rw [cc _ _ (by first | omega | (simp; done) | (simp; omega))]; first | assumption | go_simp
  have g2_0_1 : w2.cell? ⟨w.heap.size, 1, none⟩ = some (.int .i64 ad) := by rw [cc _ _ (by first | omega | (simp; done) | (simp; omega))]; first | assumption | go_simp
  have l2_1 : w.heap.size + 1 < w2.heap.size := by first | omega | (simp at *; omega)
  have g2_1_0 : w2.cell? ⟨w.heap.size + 1, 0, none⟩ = some (.int .i64 bn) := by rw [cc _ _ (by first | omega | (simp; done) | (simp; omega))]; first | assumption | go_simp
  have g2_1_1 : w2.cell? ⟨w.heap.size + 1, 1, none⟩ = some (.int .i64 bd) := by rw [cc _ _ (by first | omega | (simp; done) | (simp; omega))]; first | assumption | go_simp
  clear cc zz
  clear g1_0_0 g1_0_1 g1_1_0 g1_1_1
  go_wp2_with fail
  refine (add_any an ad bn bd sn sd se _ an1 an2 ad1 ad2 bn1 bn2 bd1 bd2 HS.out).mono ?_
  rintro e w3 ⟨rfl, hb3⟩
  have cc := (bcell hb3).1
  have zz := hb3.size
  try simp at zz
  have l3_0 : w.heap.size < w3.heap.size := by first | omega | (simp at *; omega)
  have g3_0_0 : w3.cell? ⟨w.heap.size, 0, none⟩ = some (.int .i64 an) := by rw [cc _ _ (by first | omega | (simp; done) | (simp; omega))]; first | assumption | go_simp
  have g3_0_1 : w3.cell? ⟨w.heap.size, 1, none⟩ = some (.int .i64 ad) := by rw [cc _ _ (by first | omega | (simp; done) | (simp; omega))]; first | assumption | go_simp
  have l3_1 : w.heap.size + 1 < w3.heap.size := by first | omega | (simp at *; omega)
  have g3_1_0 : w3.cell? ⟨w.heap.size + 1, 0, none⟩ = some (.int .i64 bn) := by rw [cc _ _ (by first | omega | (simp; done) | (simp; omega))]; first | assumption | go_simp
  have g3_1_1 : w3.cell? ⟨w.heap.size + 1, 1, none⟩ = some (.int .i64 bd) := by rw [cc _ _ (by first | omega | (simp; done) | (simp; omega))]; first | assumption | go_simp
  clear cc zz
  clear g2_0_0 g2_0_1 g2_1_0 g2_1_1
  go_wp2_with fail
  refine (mul_any an ad bn bd pn pd 0 _ an1 an2 ad1 ad2 bn1 bn2 bd1 bd2 HP.out).mono ?_
  rintro e w4 ⟨rfl, hb4⟩
  have cc := (bcell hb4).1
  have zz := hb4.size
  try simp at zz
  have l4_0 : w.heap.size < w4.heap.size := by first | omega | (simp at *; omega)
  have g4_0_0 : w4.cell? ⟨w.heap.size, 0, none⟩ = some (.int .i64 an) := by rw [cc _ _ (by first | omega | (simp; done) | (simp; omega))]; first | assumption | go_simp
  have g4_0_1 : w4.cell? ⟨w.heap.size, 1, none⟩ = some (.int .i64 ad) := by rw [cc _ _ (by first | omega | (simp; done) | (simp; omega))]; first | assumption | go_simp
  have l4_1 : w.heap.size + 1 < w4.heap.size := by first | omega | (simp at *; omega)
  have g4_1_0 : w4.cell? ⟨w.heap.size + 1, 0, none⟩ = some (.int .i64 bn) := by rw [cc _ _ (by first | omega | (simp; done) | (simp; omega))]; first | assumption | go_simp
  have g4_1_1 : w4.cell? ⟨w.heap.size + 1, 1, none⟩ = some (.int .i64 bd) := by rw [cc _ _ (by first | omega | (simp; done) | (simp; omega))]; first | assumption | go_simp
  have l4_2 : w3.heap.size < w4.heap.size := by first | omega | (simp at *; omega)
  have g4_2_0 : w4.cell? ⟨w3.heap.size, 0, none⟩ = some (.int .i64 sn) := by rw [cc _ _ (by first | omega | (simp; done) | (simp; omega))]; first | assumption | go_simp
  have g4_2_1 : w4.cell? ⟨w3.heap.size, 1, none⟩ = some (.int .i64 sd) := by rw [cc _ _ (by first | omega | (simp; done) | (simp; omega))]; first | assumption | go_simp
  clear cc zz
  clear g3_0_0 g3_0_1 g3_1_0 g3_1_1
  go_wp2_with fail
  refine (div_any pn pd bn bd an ad 0 _ p1 p2 p3 p4 bn1 bn2 bd1 bd2 HQ.out).mono ?_
  rintro e w5 ⟨rfl, hb5⟩
  have cc := (bcell hb5).1
  have zz := hb5.size
  try simp at zz
  have l5_0 : w.heap.size < w5.heap.size := by first | omega | (simp at *; omega)
  have g5_0_0 : w5.cell? ⟨w.heap.size, 0, none⟩ = some (.int .i64 an) := by rw [cc _ _ (by first | omega | (simp; done) | (simp; omega))]; first | assumption | go_simp
  have g5_0_1 : w5.cell? ⟨w.heap.size, 1, none⟩ = some (.int .i64 ad) := by rw [cc _ _ (by first | omega | (simp; done) | (simp; omega))]; first | assumption | go_simp
  have l5_1 : w.heap.size + 1 < w5.heap.size := by first | omega | (simp at *; omega)
  have g5_1_0 : w5.cell? ⟨w.heap.size + 1, 0, none⟩ = some (.int .i64 bn) := by rw [cc _ _ (by first | omega | (simp; done) | (simp; omega))]; first | assumption | go_simp
  have g5_1_1 : w5.cell? ⟨w.heap.size + 1, 1, none⟩ = some (.int .i64 bd) := by rw [cc _ _ (by first | omega | (simp; done) | (simp; omega))]; first | assumption | go_simp
  have l5_2 : w3.heap.size < w5.heap.size := by first | omega | (simp at *; omega)
  have g5_2_0 : w5.cell? ⟨w3.heap.size, 0, none⟩ = some (.int .i64 sn) := by rw [cc _ _ (by first | omega | (simp; done) | (simp; omega))]; first | assumption | go_simp
  have g5_2_1 : w5.cell? ⟨w3.heap.size, 1, none⟩ = some (.int .i64 sd) := by rw [cc _ _ (by first | omega | (simp; done) | (simp; omega))]; first | assumption | go_simp
  have l5_3 : w4.heap.size < w5.heap.size := by first | omega | (simp at *; omega)
  have g5_3_0 : w5.cell? ⟨w4.heap.size, 0, none⟩ = some (.int .i64 pn) := by rw [cc _ _ (by first | omega | (simp; done) | (simp; omega))]; first | assumption | go_simp
  have g5_3_1 : w5.cell? ⟨w4.heap.size, 1, none⟩ = some (.int .i64 pd) := by rw [cc _ _ (by first | omega | (simp; done) | (simp; omega))]; first | assumption | go_simp
  clear cc zz
  clear g4_0_0 g4_0_1 g4_1_0 g4_1_1 g4_2_0 g4_2_1
  go_wp2_with fail
  refine (awake_any _).mono ?_
  rintro e w6 ⟨rfl, hb6⟩
  have cc := (bcell hb6).1
  have zz := hb6.size
  try simp at zz
  have l6_0 : w.heap.size < w6.heap.size := by first | omega | (simp at *; omega)
  have g6_0_0 : w6.cell? ⟨w.heap.size, 0, none⟩ = some (.int .i64 an) := by rw [cc _ _ (by first | omega | (simp; done) | (simp; omega))]; first | assumption | go_simp
  have g6_0_1 : w6.cell? ⟨w.heap.size, 1, none⟩ = some (.int .i64 ad) := by rw [cc _ _ (by first | omega | (simp; done) | (simp; omega))]; first | assumption | go_simp
  have l6_1 : w.heap.size + 1 < w6.heap.size := by first | omega | (simp at *; omega)
  have g6_1_0 : w6.cell? ⟨w.heap.size + 1, 0, none⟩ = some (.int .i64 bn) := by rw [cc _ _ (by first | omega | (simp; done) | (simp; omega))]; first | assumption | go_simp
  have g6_1_1 : w6.cell? ⟨w.heap.size + 1, 1, none⟩ = some (.int .i64 bd) := by rw [cc _ _ (by first | omega | (simp; done) | (simp; omega))]; first | assumption | go_simp
  have l6_2 : w3.heap.size < w6.heap.size := by first | omega | (simp at *; omega)
  have g6_2_0 : w6.cell? ⟨w3.heap.size, 0, none⟩ = some (.int .i64 sn) := by rw [cc _ _ (by first | omega | (simp; done) | (simp; omega))]; first | assumption | go_simp
  have g6_2_1 : w6.cell? ⟨w3.heap.size, 1, none⟩ = some (.int .i64 sd) := by rw [cc _ _ (by first | omega | (simp; done) | (simp; omega))]; first | assumption | go_simp
  have l6_3 : w4.heap.size < w6.heap.size := by first | omega | (simp at *; omega)
  have g6_3_0 : w6.cell? ⟨w4.heap.size, 0, none⟩ = some (.int .i64 pn) := by rw [cc _ _ (by first | omega | (simp; done) | (simp; omega))]; first | assumption | go_simp
  have g6_3_1 : w6.cell? ⟨w4.heap.size, 1, none⟩ = some (.int .i64 pd) := by rw [cc _ _ (by first | omega | (simp; done) | (simp; omega))]; first | assumption | go_simp
  have l6_4 : w5.heap.size < w6.heap.size := by first | omega | (simp at *; omega)
  have g6_4_0 : w6.cell? ⟨w5.heap.size, 0, none⟩ = some (.int .i64 an) := by rw [cc _ _ (by first | omega | (simp; done) | (simp; omega))]; first | assumption | go_simp
  have g6_4_1 : w6.cell? ⟨w5.heap.size, 1, none⟩ = some (.int .i64 ad) := by rw [cc _ _ (by first | omega | (simp; done) | (simp; omega))]; first | assumption | go_simp
  clear cc zz
  clear g5_0_0 g5_0_1 g5_1_0 g5_1_1 g5_2_0 g5_2_1 g5_3_0 g5_3_1
  go_wp2
  go_ret
  exact ⟨rfl, (by repeat' (first | exact Below.refl _ _ | assumption | (with_reducible refine bdrewN ?_ _) | (with_reducible refine bdrew ?_) | (with_reducible refine bset ?_ ?_) | (with_reducible refine balloc0 ?_) | (with_reducible refine balloc ?_ ?_) | (apply btrans0; rotate_left; assumption) | (apply btrans; rotate_left; assumption) | (simp; done) | omega | (simp; omega)))⟩

set_option maxRecDepth 100000 in
set_option maxHeartbeats 2400000 in
theorem way_1_zero (an ad bn bd : Int) (w : World) (an1 : -9223372036854775808 ≤ an) (an2 : an ≤ 9223372036854775807) (ad1 : -9223372036854775808 ≤ ad) (ad2 : ad ≤ 9223372036854775807) (bn1 : -9223372036854775808 ≤ bn) (bn2 : bn ≤ 9223372036854775807) (bd1 : -9223372036854775808 ≤ bd) (bd2 : bd ≤ 9223372036854775807) (ha : chk (an, ad) = 0) (hb : chk (bn, bd) = 0) (sn sd : Int) (hs : opS add0 (an, ad) (bn, bd) = ((sn, sd), 0)) (s1 : -9223372036854775808 ≤ sn) (s2 : sn ≤ 9223372036854775807) (s3 : -9223372036854775808 ≤ sd) (s4 : sd ≤ 9223372036854775807) (hd : opS sub0 (sn, sd) (bn, bd) = ((an, ad), 0)) (hp : opS mul0 (an, ad) (bn, bd) = ((0, 1), 0)) (hq : opS div0 (an, ad) (bn, bd) = ((0, 0), 21)) (zb : (bn == 0) = true) :
    Calls Try.prog 9 #[.agg #[.int .i64 an, .int .i64 ad], .agg #[.int .i64 bn, .int .i64 bd]] w fun e w' => e = .returned (.bool true) ∧ Below w.heap.size w w' := by
  have HA := Lib.hid ha
  have HB := Lib.hid hb
  have HS := Lib.hid hs
  have HP := Lib.hid hp
  have HD := Lib.hid hd
  have HQ := Lib.hid hq
  clear ha hb hs hp hd hq
  go_enter Try.func9, Try.ntmps9
  go_wp2_with fail
  refine (check_any an ad 0 _ an1 an2 ad1 ad2 HA.out).mono ?_
  rintro e w1 ⟨rfl, hb1⟩
  have cc := (bcell hb1).1
  have zz := hb1.size
  try simp at zz
  have l1_0 : w.heap.size < w1.heap.size := by first | omega | (simp at *; omega)
  have g1_0_0 : w1.cell? ⟨w.heap.size, 0, none⟩ = some (.int .i64 an) := by rw [cc _ _ (by first | omega | (simp; done) | (simp; omega))]; first | assumption | go_simp
  have g1_0_1 : w1.cell? ⟨w.heap.size, 1, none⟩ = some (.int .i64 ad) := by rw [cc _ _ (by first | omega | (simp; done) | (simp; omega))]; first | assumption | go_simp
  have l1_1 : w.heap.size + 1 < w1.heap.size := by first | omega | (simp at *; omega)
  have g1_1_0 : w1.cell? ⟨w.heap.size + 1, 0, none⟩ = some (.int .i64 bn) := by rw [cc _ _ (by first | omega | (simp; done) | (simp; omega))]; first | assumption | go_simp
  have g1_1_1 : w1.cell? ⟨w.heap.size + 1, 1, none⟩ = some (.int .i64 bd) := by rw [cc _ _ (by first | omega | (simp; done) | (simp; omega))]; first | assumption | go_simp
  clear cc zz
  go_wp2_with fail
  refine (check_any bn bd 0 _ bn1 bn2 bd1 bd2 HB.out).mono ?_
  rintro e w2 ⟨rfl, hb2⟩
  have cc := (bcell hb2).1
  have zz := hb2.size
  try simp at zz
  have l2_0 : w.heap.size < w2.heap.size := by first | omega | (simp at *; omega)
  have g2_0_0 : w2.cell? ⟨w.heap.size, 0, none⟩ = some (.int .i64 an) := by rw [cc _ _ (by first | omega | (simp; done) | (simp; omega))]; first | assumption | go_simp
  have g2_0_1 : w2.cell? ⟨w.heap.size, 1, none⟩ = some (.int .i64 ad) := by rw [cc _ _ (by first | omega | (simp; done) | (simp; omega))]; first | assumption | go_simp
  have l2_1 : w.heap.size + 1 < w2.heap.size := by first | omega | (simp at *; omega)
  have g2_1_0 : w2.cell? ⟨w.heap.size + 1, 0, none⟩ = some (.int .i64 bn) := by rw [cc _ _ (by first | omega | (simp; done) | (simp; omega))]; first | assumption | go_simp
  have g2_1_1 : w2.cell? ⟨w.heap.size + 1, 1, none⟩ = some (.int .i64 bd) := by rw [cc _ _ (by first | omega | (simp; done) | (simp; omega))]; first | assumption | go_simp
  clear cc zz
  clear g1_0_0 g1_0_1 g1_1_0 g1_1_1
  go_wp2_with fail
  refine (add_any an ad bn bd sn sd 0 _ an1 an2 ad1 ad2 bn1 bn2 bd1 bd2 HS.out).mono ?_
  rintro e w3 ⟨rfl, hb3⟩
  have cc := (bcell hb3).1
  have zz := hb3.size
  try simp at zz
  have l3_0 : w.heap.size < w3.heap.size := by first | omega | (simp at *; omega)
  have g3_0_0 : w3.cell? ⟨w.heap.size, 0, none⟩ = some (.int .i64 an) := by rw [cc _ _ (by first | omega | (simp; done) | (simp; omega))]; first | assumption | go_simp
  have g3_0_1 : w3.cell? ⟨w.heap.size, 1, none⟩ = some (.int .i64 ad) := by rw [cc _ _ (by first | omega | (simp; done) | (simp; omega))]; first | assumption | go_simp
  have l3_1 : w.heap.size + 1 < w3.heap.size := by first | omega | (simp at *; omega)
  have g3_1_0 : w3.cell? ⟨w.heap.size + 1, 0, none⟩ = some (.int .i64 bn) := by rw [cc _ _ (by first | omega | (simp; done) | (simp; omega))]; first | assumption | go_simp
  have g3_1_1 : w3.cell? ⟨w.heap.size + 1, 1, none⟩ = some (.int .i64 bd) := by rw [cc _ _ (by first | omega | (simp; done) | (simp; omega))]; first | assumption | go_simp
  clear cc zz
  clear g2_0_0 g2_0_1 g2_1_0 g2_1_1
  go_wp2_with fail
  refine (sub_any sn sd bn bd an ad 0 _ s1 s2 s3 s4 bn1 bn2 bd1 bd2 HD.out).mono ?_
  rintro e w4 ⟨rfl, hb4⟩
  have cc := (bcell hb4).1
  have zz := hb4.size
  try simp at zz
  have l4_0 : w.heap.size < w4.heap.size := by first | omega | (simp at *; omega)
  have g4_0_0 : w4.cell? ⟨w.heap.size, 0, none⟩ = some (.int .i64 an) := by rw [cc _ _ (by first | omega | (simp; done) | (simp; omega))]; first | assumption | go_simp
  have g4_0_1 : w4.cell? ⟨w.heap.size, 1, none⟩ = some (.int .i64 ad) := by rw [cc _ _ (by first | omega | (simp; done) | (simp; omega))]; first | assumption | go_simp
  have l4_1 : w.heap.size + 1 < w4.heap.size := by first | omega | (simp at *; omega)
  have g4_1_0 : w4.cell? ⟨w.heap.size + 1, 0, none⟩ = some (.int .i64 bn) := by rw [cc _ _ (by first | omega | (simp; done) | (simp; omega))]; first | assumption | go_simp
  have g4_1_1 : w4.cell? ⟨w.heap.size + 1, 1, none⟩ = some (.int .i64 bd) := by rw [cc _ _ (by first | omega | (simp; done) | (simp; omega))]; first | assumption | go_simp
  have l4_2 : w3.heap.size < w4.heap.size := by first | omega | (simp at *; omega)
  have g4_2_0 : w4.cell? ⟨w3.heap.size, 0, none⟩ = some (.int .i64 sn) := by rw [cc _ _ (by first | omega | (simp; done) | (simp; omega))]; first | assumption | go_simp
  have g4_2_1 : w4.cell? ⟨w3.heap.size, 1, none⟩ = some (.int .i64 sd) := by rw [cc _ _ (by first | omega | (simp; done) | (simp; omega))]; first | assumption | go_simp
  clear cc zz
  clear g3_0_0 g3_0_1 g3_1_0 g3_1_1
  go_wp2_with fail
  refine (mul_any an ad bn bd 0 1 0 _ an1 an2 ad1 ad2 bn1 bn2 bd1 bd2 HP.out).mono ?_
  rintro e w5 ⟨rfl, hb5⟩
  have cc := (bcell hb5).1
  have zz := hb5.size
  try simp at zz
  have l5_0 : w.heap.size < w5.heap.size := by first | omega | (simp at *; omega)
  have g5_0_0 : w5.cell? ⟨w.heap.size, 0, none⟩ = some (.int .i64 an) := by rw [cc _ _ (by first | omega | (simp; done) | (simp; omega))]; first | assumption | go_simp
  have g5_0_1 : w5.cell? ⟨w.heap.size, 1, none⟩ = some (.int .i64 ad) := by rw [cc _ _ (by first | omega | (simp; done) | (simp; omega))]; first | assumption | go_simp
  have l5_1 : w.heap.size + 1 < w5.heap.size := by first | omega | (simp at *; omega)
  have g5_1_0 : w5.cell? ⟨w.heap.size + 1, 0, none⟩ = some (.int .i64 bn) := by rw [cc _ _ (by first | omega | (simp; done) | (simp; omega))]; first | assumption | go_simp
  have g5_1_1 : w5.cell? ⟨w.heap.size + 1, 1, none⟩ = some (.int .i64 bd) := by rw [cc _ _ (by first | omega | (simp; done) | (simp; omega))]; first | assumption | go_simp
  have l5_2 : w3.heap.size < w5.heap.size := by first | omega | (simp at *; omega)
  have g5_2_0 : w5.cell? ⟨w3.heap.size, 0, none⟩ = some (.int .i64 sn) := by rw [cc _ _ (by first | omega | (simp; done) | (simp; omega))]; first | assumption | go_simp
  have g5_2_1 : w5.cell? ⟨w3.heap.size, 1, none⟩ = some (.int .i64 sd) := by rw [cc _ _ (by first | omega | (simp; done) | (simp; omega))]; first | assumption | go_simp
  have l5_3 : w4.heap.size < w5.heap.size := by first | omega | (simp at *; omega)
  have g5_3_0 : w5.cell? ⟨w4.heap.size, 0, none⟩ = some (.int .i64 an) := by rw [cc _ _ (by first | omega | (simp; done) | (simp; omega))]; first | assumption | go_simp
  have g5_3_1 : w5.cell? ⟨w4.heap.size, 1, none⟩ = some (.int .i64 ad) := by rw [cc _ _ (by first | omega | (simp; done) | (simp; omega))]; first | assumption | go_simp
  clear cc zz
  clear g4_0_0 g4_0_1 g4_1_0 g4_1_1 g4_2_0 g4_2_1
  go_wp2_with fail
  refine (div_any an ad bn bd 0 0 21 _ an1 an2 ad1 ad2 bn1 bn2 bd1 bd2 HQ.out).mono ?_
  rintro e w6 ⟨rfl, hb6⟩
  have cc := (bcell hb6).1
  have zz := hb6.size
  try simp at zz
  have l6_0 : w.heap.size < w6.heap.size := by first | omega | (simp at *; omega)
  have g6_0_0 : w6.cell? ⟨w.heap.size, 0, none⟩ = some (.int .i64 an) := by rw [cc _ _ (by first | omega | (simp; done) | (simp; omega))]; first | assumption | go_simp
  have g6_0_1 : w6.cell? ⟨w.heap.size, 1, none⟩ = some (.int .i64 ad) := by rw [cc _ _ (by first | omega | (simp; done) | (simp; omega))]; first | assumption | go_simp
  have l6_1 : w.heap.size + 1 < w6.heap.size := by first | omega | (simp at *; omega)
  have g6_1_0 : w6.cell? ⟨w.heap.size + 1, 0, none⟩ = some (.int .i64 bn) := by rw [cc _ _ (by first | omega | (simp; done) | (simp; omega))]; first | assumption | go_simp
  have g6_1_1 : w6.cell? ⟨w.heap.size + 1, 1, none⟩ = some (.int .i64 bd) := by rw [cc _ _ (by first | omega | (simp; done) | (simp; omega))]; first | assumption | go_simp
  have l6_2 : w3.heap.size < w6.heap.size := by first | omega | (simp at *; omega)
  have g6_2_0 : w6.cell? ⟨w3.heap.size, 0, none⟩ = some (.int .i64 sn) := by rw [cc _ _ (by first | omega | (simp; done) | (simp; omega))]; first | assumption | go_simp
  have g6_2_1 : w6.cell? ⟨w3.heap.size, 1, none⟩ = some (.int .i64 sd) := by rw [cc _ _ (by first | omega | (simp; done) | (simp; omega))]; first | assumption | go_simp
  have l6_3 : w4.heap.size < w6.heap.size := by first | omega | (simp at *; omega)
  have g6_3_0 : w6.cell? ⟨w4.heap.size, 0, none⟩ = some (.int .i64 an) := by rw [cc _ _ (by first | omega | (simp; done) | (simp; omega))]; first | assumption | go_simp
  have g6_3_1 : w6.cell? ⟨w4.heap.size, 1, none⟩ = some (.int .i64 ad) := by rw [cc _ _ (by first | omega | (simp; done) | (simp; omega))]; first | assumption | go_simp
  have l6_4 : w5.heap.size < w6.heap.size := by first | omega | (simp at *; omega)
  have g6_4_0 : w6.cell? ⟨w5.heap.size, 0, none⟩ = some (.int .i64 0) := by rw [cc _ _ (by first | omega | (simp; done) | (simp; omega))]; first | assumption | go_simp
  have g6_4_1 : w6.cell? ⟨w5.heap.size, 1, none⟩ = some (.int .i64 1) := by rw [cc _ _ (by first | omega | (simp; done) | (simp; omega))]; first | assumption | go_simp
  clear cc zz
  clear g5_0_0 g5_0_1 g5_1_0 g5_1_1 g5_2_0 g5_2_1 g5_3_0 g5_3_1
  go_wp2_with fail
  refine (awake_any _).mono ?_
  rintro e w7 ⟨rfl, hb7⟩
  have cc := (bcell hb7).1
  have zz := hb7.size
  try simp at zz
  have l7_0 : w.heap.size < w7.heap.size := by first | omega | (simp at *; omega)
  have g7_0_0 : w7.cell? ⟨w.heap.size, 0, none⟩ = some (.int .i64 an) := by rw [cc _ _ (by first | omega | (simp; done) | (simp; omega))]; first | assumption | go_simp
  have g7_0_1 : w7.cell? ⟨w.heap.size, 1, none⟩ = some (.int .i64 ad) := by rw [cc _ _ (by first | omega | (simp; done) | (simp; omega))]; first | assumption | go_simp
  have l7_1 : w.heap.size + 1 < w7.heap.size := by first | omega | (simp at *; omega)
  have g7_1_0 : w7.cell? ⟨w.heap.size + 1, 0, none⟩ = some (.int .i64 bn) := by rw [cc _ _ (by first | omega | (simp; done) | (simp; omega))]; first | assumption | go_simp
  have g7_1_1 : w7.cell? ⟨w.heap.size + 1, 1, none⟩ = some (.int .i64 bd) := by rw [cc _ _ (by first | omega | (simp; done) | (simp; omega))]; first | assumption | go_simp
  have l7_2 : w3.heap.size < w7.heap.size := by first | omega | (simp at *; omega)
  have g7_2_0 : w7.cell? ⟨w3.heap.size, 0, none⟩ = some (.int .i64 sn) := by rw [cc _ _ (by first | omega | (simp; done) | (simp; omega))]; first | assumption | go_simp
  have g7_2_1 : w7.cell? ⟨w3.heap.size, 1, none⟩ = some (.int .i64 sd) := by rw [cc _ _ (by first | omega | (simp; done) | (simp; omega))]; first | assumption | go_simp
  have l7_3 : w4.heap.size < w7.heap.size := by first | omega | (simp at *; omega)
  have g7_3_0 : w7.cell? ⟨w4.heap.size, 0, none⟩ = some (.int .i64 an) := by rw [cc _ _ (by first | omega | (simp; done) | (simp; omega))]; first | assumption | go_simp
  have g7_3_1 : w7.cell? ⟨w4.heap.size, 1, none⟩ = some (.int .i64 ad) := by rw [cc _ _ (by first | omega | (simp; done) | (simp; omega))]; first | assumption | go_simp
  have l7_4 : w5.heap.size < w7.heap.size := by first | omega | (simp at *; omega)
  have g7_4_0 : w7.cell? ⟨w5.heap.size, 0, none⟩ = some (.int .i64 0) := by rw [cc _ _ (by first | omega | (simp; done) | (simp; omega))]; first | assumption | go_simp
  have g7_4_1 : w7.cell? ⟨w5.heap.size, 1, none⟩ = some (.int .i64 1) := by rw [cc _ _ (by first | omega | (simp; done) | (simp; omega))]; first | assumption | go_simp
  have l7_5 : w6.heap.size < w7.heap.size := by first | omega | (simp at *; omega)
  have g7_5_0 : w7.cell? ⟨w6.heap.size, 0, none⟩ = some (.int .i64 0) := by rw [cc _ _ (by first | omega | (simp; done) | (simp; omega))]; first | assumption | go_simp
  have g7_5_1 : w7.cell? ⟨w6.heap.size, 1, none⟩ = some (.int .i64 0) := by rw [cc _ _ (by first | omega | (simp; done) | (simp; omega))]; first | assumption | go_simp
  clear cc zz
  clear g6_0_0 g6_0_1 g6_1_0 g6_1_1 g6_2_0 g6_2_1 g6_3_0 g6_3_1 g6_4_0 g6_4_1
  go_wp2
  go_ret
  exact ⟨rfl, (by repeat' (first | exact Below.refl _ _ | assumption | (with_reducible refine bdrewN ?_ _) | (with_reducible refine bdrew ?_) | (with_reducible refine bset ?_ ?_) | (with_reducible refine balloc0 ?_) | (with_reducible refine balloc ?_ ?_) | (apply btrans0; rotate_left; assumption) | (apply btrans; rotate_left; assumption) | (simp; done) | omega | (simp; omega)))⟩

set_option maxRecDepth 100000 in
set_option maxHeartbeats 2400000 in
theorem way_1_over (an ad bn bd : Int) (w : World) (an1 : -9223372036854775808 ≤ an) (an2 : an ≤ 9223372036854775807) (ad1 : -9223372036854775808 ≤ ad) (ad2 : ad ≤ 9223372036854775807) (bn1 : -9223372036854775808 ≤ bn) (bn2 : bn ≤ 9223372036854775807) (bd1 : -9223372036854775808 ≤ bd) (bd2 : bd ≤ 9223372036854775807) (pn pd : Int) (ha : chk (an, ad) = 0) (hb : chk (bn, bd) = 0) (sn sd : Int) (hs : opS add0 (an, ad) (bn, bd) = ((sn, sd), 0)) (s1 : -9223372036854775808 ≤ sn) (s2 : sn ≤ 9223372036854775807) (s3 : -9223372036854775808 ≤ sd) (s4 : sd ≤ 9223372036854775807) (hd : opS sub0 (sn, sd) (bn, bd) = ((an, ad), 0)) (hp : opS mul0 (an, ad) (bn, bd) = ((pn, pd), 5)) (zb : (bn == 0) = false) :
    Calls Try.prog 9 #[.agg #[.int .i64 an, .int .i64 ad], .agg #[.int .i64 bn, .int .i64 bd]] w fun e w' => e = .returned (.bool true) ∧ Below w.heap.size w w' := by
  have HA := Lib.hid ha
  have HB := Lib.hid hb
  have HS := Lib.hid hs
  have HP := Lib.hid hp
  have HD := Lib.hid hd
  clear ha hb hs hp hd
  go_enter Try.func9, Try.ntmps9
  go_wp2_with fail
  refine (check_any an ad 0 _ an1 an2 ad1 ad2 HA.out).mono ?_
  rintro e w1 ⟨rfl, hb1⟩
  have cc := (bcell hb1).1
  have zz := hb1.size
  try simp at zz
  have l1_0 : w.heap.size < w1.heap.size := by first | omega | (simp at *; omega)
  have g1_0_0 : w1.cell? ⟨w.heap.size, 0, none⟩ = some (.int .i64 an) := by rw [cc _ _ (by first | omega | (simp; done) | (simp; omega))]; first | assumption | go_simp
  have g1_0_1 : w1.cell? ⟨w.heap.size, 1, none⟩ = some (.int .i64 ad) := by rw [cc _ _ (by first | omega | (simp; done) | (simp; omega))]; first | assumption | go_simp
  have l1_1 : w.heap.size + 1 < w1.heap.size := by first | omega | (simp at *; omega)
  have g1_1_0 : w1.cell? ⟨w.heap.size + 1, 0, none⟩ = some (.int .i64 bn) := by rw [cc _ _ (by first | omega | (simp; done) | (simp; omega))]; first | assumption | go_simp
  have g1_1_1 : w1.cell? ⟨w.heap.size + 1, 1, none⟩ = some (.int .i64 bd) := by rw [cc _ _ (by first | omega | (simp; done) | (simp; omega))]; first | assumption | go_simp
  clear cc zz
  go_wp2_with fail
  refine (check_any bn bd 0 _ bn1 bn2 bd1 bd2 HB.out).mono ?_
  rintro e w2 ⟨rfl, hb2⟩
  have cc := (bcell hb2).1
  have zz := hb2.size
  try simp at zz
  have l2_0 : w.heap.size < w2.heap.size := by first | omega | (simp at *; omega)
  have g2_0_0 : w2.cell? ⟨w.heap.size, 0, none⟩ = some (.int .i64 an) := by rw [cc _ _ (by first | omega | (simp; done) | (simp; omega))]; first | assumption | go_simp
  have g2_0_1 : w2.cell? ⟨w.heap.size, 1, none⟩ = some (.int .i64 ad) := by rw [cc _ _ (by first | omega | (simp; done) | (simp; omega))]; first | assumption | go_simp
  have l2_1 : w.heap.size + 1 < w2.heap.size := by first | omega | (simp at *; omega)
  have g2_1_0 : w2.cell? ⟨w.heap.size + 1, 0, none⟩ = some (.int .i64 bn) := by rw [cc _ _ (by first | omega | (simp; done) | (simp; omega))]; first | assumption | go_simp
  have g2_1_1 : w2.cell? ⟨w.heap.size + 1, 1, none⟩ = some (.int .i64 bd) := by rw [cc _ _ (by first | omega | (simp; done) | (simp; omega))]; first | assumption | go_simp
  clear cc zz
  clear g1_0_0 g1_0_1 g1_1_0 g1_1_1
  go_wp2_with fail
  refine (add_any an ad bn bd sn sd 0 _ an1 an2 ad1 ad2 bn1 bn2 bd1 bd2 HS.out).mono ?_
  rintro e w3 ⟨rfl, hb3⟩
  have cc := (bcell hb3).1
  have zz := hb3.size
  try simp at zz
  have l3_0 : w.heap.size < w3.heap.size := by first | omega | (simp at *; omega)
  have g3_0_0 : w3.cell? ⟨w.heap.size, 0, none⟩ = some (.int .i64 an) := by rw [cc _ _ (by first | omega | (simp; done) | (simp; omega))]; first | assumption | go_simp
  have g3_0_1 : w3.cell? ⟨w.heap.size, 1, none⟩ = some (.int .i64 ad) := by rw [cc _ _ (by first | omega | (simp; done) | (simp; omega))]; first | assumption | go_simp
  have l3_1 : w.heap.size + 1 < w3.heap.size := by first | omega | (simp at *; omega)
  have g3_1_0 : w3.cell? ⟨w.heap.size + 1, 0, none⟩ = some (.int .i64 bn) := by rw [cc _ _ (by first | omega | (simp; done) | (simp; omega))]; first | assumption | go_simp
  have g3_1_1 : w3.cell? ⟨w.heap.size + 1, 1, none⟩ = some (.int .i64 bd) := by rw [cc _ _ (by first | omega | (simp; done) | (simp; omega))]; first | assumption | go_simp
  clear cc zz
  clear g2_0_0 g2_0_1 g2_1_0 g2_1_1
  go_wp2_with fail
  refine (sub_any sn sd bn bd an ad 0 _ s1 s2 s3 s4 bn1 bn2 bd1 bd2 HD.out).mono ?_
  rintro e w4 ⟨rfl, hb4⟩
  have cc := (bcell hb4).1
  have zz := hb4.size
  try simp at zz
  have l4_0 : w.heap.size < w4.heap.size := by first | omega | (simp at *; omega)
  have g4_0_0 : w4.cell? ⟨w.heap.size, 0, none⟩ = some (.int .i64 an) := by rw [cc _ _ (by first | omega | (simp; done) | (simp; omega))]; first | assumption | go_simp
  have g4_0_1 : w4.cell? ⟨w.heap.size, 1, none⟩ = some (.int .i64 ad) := by rw [cc _ _ (by first | omega | (simp; done) | (simp; omega))]; first | assumption | go_simp
  have l4_1 : w.heap.size + 1 < w4.heap.size := by first | omega | (simp at *; omega)
  have g4_1_0 : w4.cell? ⟨w.heap.size + 1, 0, none⟩ = some (.int .i64 bn) := by rw [cc _ _ (by first | omega | (simp; done) | (simp; omega))]; first | assumption | go_simp
  have g4_1_1 : w4.cell? ⟨w.heap.size + 1, 1, none⟩ = some (.int .i64 bd) := by rw [cc _ _ (by first | omega | (simp; done) | (simp; omega))]; first | assumption | go_simp
  have l4_2 : w3.heap.size < w4.heap.size := by first | omega | (simp at *; omega)
  have g4_2_0 : w4.cell? ⟨w3.heap.size, 0, none⟩ = some (.int .i64 sn) := by rw [cc _ _ (by first | omega | (simp; done) | (simp; omega))]; first | assumption | go_simp
  have g4_2_1 : w4.cell? ⟨w3.heap.size, 1, none⟩ = some (.int .i64 sd) := by rw [cc _ _ (by first | omega | (simp; done) | (simp; omega))]; first | assumption | go_simp
  clear cc zz
  clear g3_0_0 g3_0_1 g3_1_0 g3_1_1
  go_wp2_with fail
  refine (mul_any an ad bn bd pn pd 5 _ an1 an2 ad1 ad2 bn1 bn2 bd1 bd2 HP.out).mono ?_
  rintro e w5 ⟨rfl, hb5⟩
  have cc := (bcell hb5).1
  have zz := hb5.size
  try simp at zz
  have l5_0 : w.heap.size < w5.heap.size := by first | omega | (simp at *; omega)
  have g5_0_0 : w5.cell? ⟨w.heap.size, 0, none⟩ = some (.int .i64 an) := by rw [cc _ _ (by first | omega | (simp; done) | (simp; omega))]; first | assumption | go_simp
  have g5_0_1 : w5.cell? ⟨w.heap.size, 1, none⟩ = some (.int .i64 ad) := by rw [cc _ _ (by first | omega | (simp; done) | (simp; omega))]; first | assumption | go_simp
  have l5_1 : w.heap.size + 1 < w5.heap.size := by first | omega | (simp at *; omega)
  have g5_1_0 : w5.cell? ⟨w.heap.size + 1, 0, none⟩ = some (.int .i64 bn) := by rw [cc _ _ (by first | omega | (simp; done) | (simp; omega))]; first | assumption | go_simp
  have g5_1_1 : w5.cell? ⟨w.heap.size + 1, 1, none⟩ = some (.int .i64 bd) := by rw [cc _ _ (by first | omega | (simp; done) | (simp; omega))]; first | assumption | go_simp
  have l5_2 : w3.heap.size < w5.heap.size := by first | omega | (simp at *; omega)
  have g5_2_0 : w5.cell? ⟨w3.heap.size, 0, none⟩ = some (.int .i64 sn) := by rw [cc _ _ (by first | omega | (simp; done) | (simp; omega))]; first | assumption | go_simp
  have g5_2_1 : w5.cell? ⟨w3.heap.size, 1, none⟩ = some (.int .i64 sd) := by rw [cc _ _ (by first | omega | (simp; done) | (simp; omega))]; first | assumption | go_simp
  have l5_3 : w4.heap.size < w5.heap.size := by first | omega | (simp at *; omega)
  have g5_3_0 : w5.cell? ⟨w4.heap.size, 0, none⟩ = some (.int .i64 an) := by rw [cc _ _ (by first | omega | (simp; done) | (simp; omega))]; first | assumption | go_simp
  have g5_3_1 : w5.cell? ⟨w4.heap.size, 1, none⟩ = some (.int .i64 ad) := by rw [cc _ _ (by first | omega | (simp; done) | (simp; omega))]; first | assumption | go_simp
  clear cc zz
  clear g4_0_0 g4_0_1 g4_1_0 g4_1_1 g4_2_0 g4_2_1
  go_wp2_with fail
  refine (awake_any _).mono ?_
  rintro e w6 ⟨rfl, hb6⟩
  have cc := (bcell hb6).1
  have zz := hb6.size
  try simp at zz
  have l6_0 : w.heap.size < w6.heap.size := by first | omega | (simp at *; omega)
  have g6_0_0 : w6.cell? ⟨w.heap.size, 0, none⟩ = some (.int .i64 an) := by rw [cc _ _ (by first | omega | (simp; done) | (simp; omega))]; first | assumption | go_simp
  have g6_0_1 : w6.cell? ⟨w.heap.size, 1, none⟩ = some (.int .i64 ad) := by rw [cc _ _ (by first | omega | (simp; done) | (simp; omega))]; first | assumption | go_simp
  have l6_1 : w.heap.size + 1 < w6.heap.size := by first | omega | (simp at *; omega)
  have g6_1_0 : w6.cell? ⟨w.heap.size + 1, 0, none⟩ = some (.int .i64 bn) := by rw [cc _ _ (by first | omega | (simp; done) | (simp; omega))]; first | assumption | go_simp
  have g6_1_1 : w6.cell? ⟨w.heap.size + 1, 1, none⟩ = some (.int .i64 bd) := by rw [cc _ _ (by first | omega | (simp; done) | (simp; omega))]; first | assumption | go_simp
  have l6_2 : w3.heap.size < w6.heap.size := by first | omega | (simp at *; omega)
  have g6_2_0 : w6.cell? ⟨w3.heap.size, 0, none⟩ = some (.int .i64 sn) := by rw [cc _ _ (by first | omega | (simp; done) | (simp; omega))]; first | assumption | go_simp
  have g6_2_1 : w6.cell? ⟨w3.heap.size, 1, none⟩ = some (.int .i64 sd) := by rw [cc _ _ (by first | omega | (simp; done) | (simp; omega))]; first | assumption | go_simp
  have l6_3 : w4.heap.size < w6.heap.size := by first | omega | (simp at *; omega)
  have g6_3_0 : w6.cell? ⟨w4.heap.size, 0, none⟩ = some (.int .i64 an) := by rw [cc _ _ (by first | omega | (simp; done) | (simp; omega))]; first | assumption | go_simp
  have g6_3_1 : w6.cell? ⟨w4.heap.size, 1, none⟩ = some (.int .i64 ad) := by rw [cc _ _ (by first | omega | (simp; done) | (simp; omega))]; first | assumption | go_simp
  have l6_4 : w5.heap.size < w6.heap.size := by first | omega | (simp at *; omega)
  have g6_4_0 : w6.cell? ⟨w5.heap.size, 0, none⟩ = some (.int .i64 pn) := by rw [cc _ _ (by first | omega | (simp; done) | (simp; omega))]; first | assumption | go_simp
  have g6_4_1 : w6.cell? ⟨w5.heap.size, 1, none⟩ = some (.int .i64 pd) := by rw [cc _ _ (by first | omega | (simp; done) | (simp; omega))]; first | assumption | go_simp
  clear cc zz
  clear g5_0_0 g5_0_1 g5_1_0 g5_1_1 g5_2_0 g5_2_1 g5_3_0 g5_3_1
  go_wp2
  go_ret
  exact ⟨rfl, (by repeat' (first | exact Below.refl _ _ | assumption | (with_reducible refine bdrewN ?_ _) | (with_reducible refine bdrew ?_) | (with_reducible refine bset ?_ ?_) | (with_reducible refine balloc0 ?_) | (with_reducible refine balloc ?_ ?_) | (apply btrans0; rotate_left; assumption) | (apply btrans; rotate_left; assumption) | (simp; done) | omega | (simp; omega)))⟩

set_option maxRecDepth 100000 in
set_option maxHeartbeats 2400000 in
theorem way_1_ok (an ad bn bd : Int) (w : World) (an1 : -9223372036854775808 ≤ an) (an2 : an ≤ 9223372036854775807) (ad1 : -9223372036854775808 ≤ ad) (ad2 : ad ≤ 9223372036854775807) (bn1 : -9223372036854775808 ≤ bn) (bn2 : bn ≤ 9223372036854775807) (bd1 : -9223372036854775808 ≤ bd) (bd2 : bd ≤ 9223372036854775807) (pn pd : Int) (ha : chk (an, ad) = 0) (hb : chk (bn, bd) = 0) (sn sd : Int) (hs : opS add0 (an, ad) (bn, bd) = ((sn, sd), 0)) (s1 : -9223372036854775808 ≤ sn) (s2 : sn ≤ 9223372036854775807) (s3 : -9223372036854775808 ≤ sd) (s4 : sd ≤ 9223372036854775807) (hd : opS sub0 (sn, sd) (bn, bd) = ((an, ad), 0)) (hp : opS mul0 (an, ad) (bn, bd) = ((pn, pd), 0)) (zb : (bn == 0) = false) (p1 : -9223372036854775808 ≤ pn) (p2 : pn ≤ 9223372036854775807) (p3 : -9223372036854775808 ≤ pd) (p4 : pd ≤ 9223372036854775807) (hq : opS div0 (pn, pd) (bn, bd) = ((an, ad), 0)) :
    Calls Try.prog 9 #[.agg #[.int .i64 an, .int .i64 ad], .agg #[.int .i64 bn, .int .i64 bd]] w fun e w' => e = .returned (.bool true) ∧ Below w.heap.size w w' := by
  have HA := Lib.hid ha
  have HB := Lib.hid hb
  have HS := Lib.hid hs
  have HP := Lib.hid hp
  have HD := Lib.hid hd
  have HQ := Lib.hid hq
  clear ha hb hs hp hd hq
  go_enter Try.func9, Try.ntmps9
  go_wp2_with fail
  refine (check_any an ad 0 _ an1 an2 ad1 ad2 HA.out).mono ?_
  rintro e w1 ⟨rfl, hb1⟩
  have cc := (bcell hb1).1
  have zz := hb1.size
  try simp at zz
  have l1_0 : w.heap.size < w1.heap.size := by first | omega | (simp at *; omega)
  have g1_0_0 : w1.cell? ⟨w.heap.size, 0, none⟩ = some (.int .i64 an) := by rw [cc _ _ (by first | omega | (simp; done) | (simp; omega))]; first | assumption | go_simp
  have g1_0_1 : w1.cell? ⟨w.heap.size, 1, none⟩ = some (.int .i64 ad) := by rw [cc _ _ (by first | omega | (simp; done) | (simp; omega))]; first | assumption | go_simp
  have l1_1 : w.heap.size + 1 < w1.heap.size := by first | omega | (simp at *; omega)
  have g1_1_0 : w1.cell? ⟨w.heap.size + 1, 0, none⟩ = some (.int .i64 bn) := by rw [cc _ _ (by first | omega | (simp; done) | (simp; omega))]; first | assumption | go_simp
  have g1_1_1 : w1.cell? ⟨w.heap.size + 1, 1, none⟩ = some (.int .i64 bd) := by rw [cc _ _ (by first | omega | (simp; done) | (simp; omega))]; first | assumption | go_simp
  clear cc zz
  go_wp2_with fail
  refine (check_any bn bd 0 _ bn1 bn2 bd1 bd2 HB.out).mono ?_
  rintro e w2 ⟨rfl, hb2⟩
  have cc := (bcell hb2).1
  have zz := hb2.size
  try simp at zz
  have l2_0 : w.heap.size < w2.heap.size := by first | omega | (simp at *; omega)
  have g2_0_0 : w2.cell? ⟨w.heap.size, 0, none⟩ = some (.int .i64 an) := by rw [cc _ _ (by first | omega | (simp; done) | (simp; omega))]; first | assumption | go_simp
  have g2_0_1 : w2.cell? ⟨w.heap.size, 1, none⟩ = some (.int .i64 ad) := by rw [cc _ _ (by first | omega | (simp; done) | (simp; omega))]; first | assumption | go_simp
  have l2_1 : w.heap.size + 1 < w2.heap.size := by first | omega | (simp at *; omega)
  have g2_1_0 : w2.cell? ⟨w.heap.size + 1, 0, none⟩ = some (.int .i64 bn) := by rw [cc _ _ (by first | omega | (simp; done) | (simp; omega))]; first | assumption | go_simp
  have g2_1_1 : w2.cell? ⟨w.heap.size + 1, 1, none⟩ = some (.int .i64 bd) := by rw [cc _ _ (by first | omega | (simp; done) | (simp; omega))]; first | assumption | go_simp
  clear cc zz
  clear g1_0_0 g1_0_1 g1_1_0 g1_1_1
  go_wp2_with fail
  refine (add_any an ad bn bd sn sd 0 _ an1 an2 ad1 ad2 bn1 bn2 bd1 bd2 HS.out).mono ?_
  rintro e w3 ⟨rfl, hb3⟩
  have cc := (bcell hb3).1
  have zz := hb3.size
  try simp at zz
  have l3_0 : w.heap.size < w3.heap.size := by first | omega | (simp at *; omega)
  have g3_0_0 : w3.cell? ⟨w.heap.size, 0, none⟩ = some (.int .i64 an) := by rw [cc _ _ (by first | omega | (simp; done) | (simp; omega))]; first | assumption | go_simp
  have g3_0_1 : w3.cell? ⟨w.heap.size, 1, none⟩ = some (.int .i64 ad) := by rw [cc _ _ (by first | omega | (simp; done) | (simp; omega))]; first | assumption | go_simp
  have l3_1 : w.heap.size + 1 < w3.heap.size := by first | omega | (simp at *; omega)
  have g3_1_0 : w3.cell? ⟨w.heap.size + 1, 0, none⟩ = some (.int .i64 bn) := by rw [cc _ _ (by first | omega | (simp; done) | (simp; omega))]; first | assumption | go_simp
  have g3_1_1 : w3.cell? ⟨w.heap.size + 1, 1, none⟩ = some (.int .i64 bd) := by rw [cc _ _ (by first | omega | (simp; done) | (simp; omega))]; first | assumption | go_simp
  clear cc zz
  clear g2_0_0 g2_0_1 g2_1_0 g2_1_1
  go_wp2_with fail
  refine (sub_any sn sd bn bd an ad 0 _ s1 s2 s3 s4 bn1 bn2 bd1 bd2 HD.out).mono ?_
  rintro e w4 ⟨rfl, hb4⟩
  have cc := (bcell hb4).1
  have zz := hb4.size
  try simp at zz
  have l4_0 : w.heap.size < w4.heap.size := by first | omega | (simp at *; omega)
  have g4_0_0 : w4.cell? ⟨w.heap.size, 0, none⟩ = some (.int .i64 an) := by rw [cc _ _ (by first | omega | (simp; done) | (simp; omega))]; first | assumption | go_simp
  have g4_0_1 : w4.cell? ⟨w.heap.size, 1, none⟩ = some (.int .i64 ad) := by rw [cc _ _ (by first | omega | (simp; done) | (simp; omega))]; first | assumption | go_simp
  have l4_1 : w.heap.size + 1 < w4.heap.size := by first | omega | (simp at *; omega)
  have g4_1_0 : w4.cell? ⟨w.heap.size + 1, 0, none⟩ = some (.int .i64 bn) := by rw [cc _ _ (by first | omega | (simp; done) | (simp; omega))]; first | assumption | go_simp
  have g4_1_1 : w4.cell? ⟨w.heap.size + 1, 1, none⟩ = some (.int .i64 bd) := by rw [cc _ _ (by first | omega | (simp; done) | (simp; omega))]; first | assumption | go_simp
  have l4_2 : w3.heap.size < w4.heap.size := by first | omega | (simp at *; omega)
  have g4_2_0 : w4.cell? ⟨w3.heap.size, 0, none⟩ = some (.int .i64 sn) := by rw [cc _ _ (by first | omega | (simp; done) | (simp; omega))]; first | assumption | go_simp
  have g4_2_1 : w4.cell? ⟨w3.heap.size, 1, none⟩ = some (.int .i64 sd) := by rw [cc _ _ (by first | omega | (simp; done) | (simp; omega))]; first | assumption | go_simp
  clear cc zz
  clear g3_0_0 g3_0_1 g3_1_0 g3_1_1
  go_wp2_with fail
  refine (mul_any an ad bn bd pn pd 0 _ an1 an2 ad1 ad2 bn1 bn2 bd1 bd2 HP.out).mono ?_
  rintro e w5 ⟨rfl, hb5⟩
  have cc := (bcell hb5).1
  have zz := hb5.size
  try simp at zz
  have l5_0 : w.heap.size < w5.heap.size := by first | omega | (simp at *; omega)
  have g5_0_0 : w5.cell? ⟨w.heap.size, 0, none⟩ = some (.int .i64 an) := by rw [cc _ _ (by first | omega | (simp; done) | (simp; omega))]; first | assumption | go_simp
  have g5_0_1 : w5.cell? ⟨w.heap.size, 1, none⟩ = some (.int .i64 ad) := by rw [cc _ _ (by first | omega | (simp; done) | (simp; omega))]; first | assumption | go_simp
  have l5_1 : w.heap.size + 1 < w5.heap.size := by first | omega | (simp at *; omega)
  have g5_1_0 : w5.cell? ⟨w.heap.size + 1, 0, none⟩ = some (.int .i64 bn) := by rw [cc _ _ (by first | omega | (simp; done) | (simp; omega))]; first | assumption | go_simp
  have g5_1_1 : w5.cell? ⟨w.heap.size + 1, 1, none⟩ = some (.int .i64 bd) := by rw [cc _ _ (by first | omega | (simp; done) | (simp; omega))]; first | assumption | go_simp
  have l5_2 : w3.heap.size < w5.heap.size := by first | omega | (simp at *; omega)
  have g5_2_0 : w5.cell? ⟨w3.heap.size, 0, none⟩ = some (.int .i64 sn) := by rw [cc _ _ (by first | omega | (simp; done) | (simp; omega))]; first | assumption | go_simp
  have g5_2_1 : w5.cell? ⟨w3.heap.size, 1, none⟩ = some (.int .i64 sd) := by rw [cc _ _ (by first | omega | (simp; done) | (simp; omega))]; first | assumption | go_simp
  have l5_3 : w4.heap.size < w5.heap.size := by first | omega | (simp at *; omega)
  have g5_3_0 : w5.cell? ⟨w4.heap.size, 0, none⟩ = some (.int .i64 an) := by rw [cc _ _ (by first | omega | (simp; done) | (simp; omega))]; first | assumption | go_simp
  have g5_3_1 : w5.cell? ⟨w4.heap.size, 1, none⟩ = some (.int .i64 ad) := by rw [cc _ _ (by first | omega | (simp; done) | (simp; omega))]; first | assumption | go_simp
  clear cc zz
  clear g4_0_0 g4_0_1 g4_1_0 g4_1_1 g4_2_0 g4_2_1
  go_wp2_with fail
  refine (div_any pn pd bn bd an ad 0 _ p1 p2 p3 p4 bn1 bn2 bd1 bd2 HQ.out).mono ?_
  rintro e w6 ⟨rfl, hb6⟩
  have cc := (bcell hb6).1
  have zz := hb6.size
  try simp at zz
  have l6_0 : w.heap.size < w6.heap.size := by first | omega | (simp at *; omega)
  have g6_0_0 : w6.cell? ⟨w.heap.size, 0, none⟩ = some (.int .i64 an) := by rw [cc _ _ (by first | omega | (simp; done) | (simp; omega))]; first | assumption | go_simp
  have g6_0_1 : w6.cell? ⟨w.heap.size, 1, none⟩ = some (.int .i64 ad) := by rw [cc _ _ (by first | omega | (simp; done) | (simp; omega))]; first | assumption | go_simp
  have l6_1 : w.heap.size + 1 < w6.heap.size := by first | omega | (simp at *; omega)
  have g6_1_0 : w6.cell? ⟨w.heap.size + 1, 0, none⟩ = some (.int .i64 bn) := by rw [cc _ _ (by first | omega | (simp; done) | (simp; omega))]; first | assumption | go_simp
  have g6_1_1 : w6.cell? ⟨w.heap.size + 1, 1, none⟩ = some (.int .i64 bd) := by rw [cc _ _ (by first | omega | (simp; done) | (simp; omega))]; first | assumption | go_simp
  have l6_2 : w3.heap.size < w6.heap.size := by first | omega | (simp at *; omega)
  have g6_2_0 : w6.cell? ⟨w3.heap.size, 0, none⟩ = some (.int .i64 sn) := by rw [cc _ _ (by first | omega | (simp; done) | (simp; omega))]; first | assumption | go_simp
  have g6_2_1 : w6.cell? ⟨w3.heap.size, 1, none⟩ = some (.int .i64 sd) := by rw [cc _ _ (by first | omega | (simp; done) | (simp; omega))]; first | assumption | go_simp
  have l6_3 : w4.heap.size < w6.heap.size := by first | omega | (simp at *; omega)
  have g6_3_0 : w6.cell? ⟨w4.heap.size, 0, none⟩ = some (.int .i64 an) := by rw [cc _ _ (by first | omega | (simp; done) | (simp; omega))]; first | assumption | go_simp
  have g6_3_1 : w6.cell? ⟨w4.heap.size, 1, none⟩ = some (.int .i64 ad) := by rw [cc _ _ (by first | omega | (simp; done) | (simp; omega))]; first | assumption | go_simp
  have l6_4 : w5.heap.size < w6.heap.size := by first | omega | (simp at *; omega)
  have g6_4_0 : w6.cell? ⟨w5.heap.size, 0, none⟩ = some (.int .i64 pn) := by rw [cc _ _ (by first | omega | (simp; done) | (simp; omega))]; first | assumption | go_simp
  have g6_4_1 : w6.cell? ⟨w5.heap.size, 1, none⟩ = some (.int .i64 pd) := by rw [cc _ _ (by first | omega | (simp; done) | (simp; omega))]; first | assumption | go_simp
  clear cc zz
  clear g5_0_0 g5_0_1 g5_1_0 g5_1_1 g5_2_0 g5_2_1 g5_3_0 g5_3_1
  go_wp2_with fail
  refine (awake_any _).mono ?_
  rintro e w7 ⟨rfl, hb7⟩
  have cc := (bcell hb7).1
  have zz := hb7.size
  try simp at zz
  have l7_0 : w.heap.size < w7.heap.size := by first | omega | (simp at *; omega)
  have g7_0_0 : w7.cell? ⟨w.heap.size, 0, none⟩ = some (.int .i64 an) := by rw [cc _ _ (by first | omega | (simp; done) | (simp; omega))]; first | assumption | go_simp
  have g7_0_1 : w7.cell? ⟨w.heap.size, 1, none⟩ = some (.int .i64 ad) := by rw [cc _ _ (by first | omega | (simp; done) | (simp; omega))]; first | assumption | go_simp
  have l7_1 : w.heap.size + 1 < w7.heap.size := by first | omega | (simp at *; omega)
  have g7_1_0 : w7.cell? ⟨w.heap.size + 1, 0, none⟩ = some (.int .i64 bn) := by rw [cc _ _ (by first | omega | (simp; done) | (simp; omega))]; first | assumption | go_simp
  have g7_1_1 : w7.cell? ⟨w.heap.size + 1, 1, none⟩ = some (.int .i64 bd) := by rw [cc _ _ (by first | omega | (simp; done) | (simp; omega))]; first | assumption | go_simp
  have l7_2 : w3.heap.size < w7.heap.size := by first | omega | (simp at *; omega)
  have g7_2_0 : w7.cell? ⟨w3.heap.size, 0, none⟩ = some (.int .i64 sn) := by rw [cc _ _ (by first | omega | (simp; done) | (simp; omega))]; first | assumption | go_simp
  have g7_2_1 : w7.cell? ⟨w3.heap.size, 1, none⟩ = some (.int .i64 sd) := by rw [cc _ _ (by first | omega | (simp; done) | (simp; omega))]; first | assumption | go_simp
  have l7_3 : w4.heap.size < w7.heap.size := by first | omega | (simp at *; omega)
  have g7_3_0 : w7.cell? ⟨w4.heap.size, 0, none⟩ = some (.int .i64 an) := by rw [cc _ _ (by first | omega | (simp; done) | (simp; omega))]; first | assumption | go_simp
  have g7_3_1 : w7.cell? ⟨w4.heap.size, 1, none⟩ = some (.int .i64 ad) := by rw [cc _ _ (by first | omega | (simp; done) | (simp; omega))]; first | assumption | go_simp
  have l7_4 : w5.heap.size < w7.heap.size := by first | omega | (simp at *; omega)
  have g7_4_0 : w7.cell? ⟨w5.heap.size, 0, none⟩ = some (.int .i64 pn) := by rw [cc _ _ (by first | omega | (simp; done) | (simp; omega))]; first | assumption | go_simp
  have g7_4_1 : w7.cell? ⟨w5.heap.size, 1, none⟩ = some (.int .i64 pd) := by rw [cc _ _ (by first | omega | (simp; done) | (simp; omega))]; first | assumption | go_simp
  have l7_5 : w6.heap.size < w7.heap.size := by first | omega | (simp at *; omega)
  have g7_5_0 : w7.cell? ⟨w6.heap.size, 0, none⟩ = some (.int .i64 an) := by rw [cc _ _ (by first | omega | (simp; done) | (simp; omega))]; first | assumption | go_simp
  have g7_5_1 : w7.cell? ⟨w6.heap.size, 1, none⟩ = some (.int .i64 ad) := by rw [cc _ _ (by first | omega | (simp; done) | (simp; omega))]; first | assumption | go_simp
  clear cc zz
  clear g6_0_0 g6_0_1 g6_1_0 g6_1_1 g6_2_0 g6_2_1 g6_3_0 g6_3_1 g6_4_0 g6_4_1
  go_wp2
  go_ret
  exact ⟨rfl, (by repeat' (first | exact Below.refl _ _ | assumption | (with_reducible refine bdrewN ?_ _) | (with_reducible refine bdrew ?_) | (with_reducible refine bset ?_ ?_) | (with_reducible refine balloc0 ?_) | (with_reducible refine balloc ?_ ?_) | (apply btrans0; rotate_left; assumption) | (apply btrans; rotate_left; assumption) | (simp; done) | omega | (simp; omega)))⟩

set_option maxRecDepth 100000 in
set_option maxHeartbeats 1600000 in
theorem walk (an ad bn bd : Int) (w : World) (an1 : -9223372036854775808 ≤ an) (an2 : an ≤ 9223372036854775807) (ad1 : -9223372036854775808 ≤ ad) (ad2 : ad ≤ 9223372036854775807) (bn1 : -9223372036854775808 ≤ bn) (bn2 : bn ≤ 9223372036854775807) (bd1 : -9223372036854775808 ≤ bd) (bd2 : bd ≤ 9223372036854775807) :
    Calls Try.prog 9 #[.agg #[.int .i64 an, .int .i64 ad], .agg #[.int .i64 bn, .int .i64 bd]] w fun e w' => e = .returned (.bool true) ∧ Below w.heap.size w w' := by
  obtain ⟨k, hk⟩ : ∃ k, chk (an, ad) = k := ⟨_, rfl⟩
  obtain ⟨l, hl⟩ : ∃ k, chk (bn, bd) = k := ⟨_, rfl⟩
  by_cases z1 : k = 0
  · subst z1
    by_cases z2 : l = 0
    · subst z2
      have va := (chk_iff _).1 hk
      have vb := (chk_iff _).1 hl
      obtain ⟨⟨⟨sn, sd⟩, se⟩, hs⟩ : ∃ x, opS add0 (an, ad) (bn, bd) = x := ⟨_, rfl⟩
      obtain ⟨⟨⟨pn, pd⟩, pe⟩, hp⟩ : ∃ x, opS mul0 (an, ad) (bn, bd) = x := ⟨_, rfl⟩
      have pc := opS_code mul_fin (an, ad) (bn, bd) va vb
      rw [hp] at pc
      have ps : pe = 0 → (-9223372036854775808 ≤ pn ∧ pn ≤ 9223372036854775807) ∧ -9223372036854775808 ≤ pd ∧ pd ≤ 9223372036854775807 := fun h => by
        subst h
        obtain ⟨_, _, v, _⟩ := opS_ok mul_fin hp
        have := v.lo; have := v.hi; have := v.dlo; have := v.dhi; simp only at *; omega
      have ss : se = 0 → (-9223372036854775808 ≤ sn ∧ sn ≤ 9223372036854775807) ∧ -9223372036854775808 ≤ sd ∧ sd ≤ 9223372036854775807 := fun h => by
        subst h
        obtain ⟨_, _, v, _⟩ := opS_ok add_fin hs
        have := v.lo; have := v.hi; have := v.dlo; have := v.dhi; simp only at *; omega
      by_cases z3 : se = 0
      · subst z3
        obtain ⟨⟨s1, s2⟩, s3, s4⟩ := ss rfl
        have hd := sub_add hs
        by_cases z4 : bn = 0
        · exact way_1_zero an ad bn bd w an1 an2 ad1 ad2 bn1 bn2 bd1 bd2 hk hl sn sd hs s1 s2 s3 s4 hd (mul_zero_r va vb z4) (div_zero_r va vb z4) (by simpa using z4)
        · rcases pc with h | h
          · simp only at h; subst h
            obtain ⟨⟨p1, p2⟩, p3, p4⟩ := ps rfl
            exact way_1_ok an ad bn bd w an1 an2 ad1 ad2 bn1 bn2 bd1 bd2 pn pd hk hl sn sd hs s1 s2 s3 s4 hd hp (by simpa using z4) p1 p2 p3 p4 (div_mul hp z4)
          · simp only at h; subst h
            exact way_1_over an ad bn bd w an1 an2 ad1 ad2 bn1 bn2 bd1 bd2 pn pd hk hl sn sd hs s1 s2 s3 s4 hd hp (by simpa using z4)
      · by_cases z4 : bn = 0
        · exact way_0_zero an ad bn bd w an1 an2 ad1 ad2 bn1 bn2 bd1 bd2 hk hl sn sd se hs (by simpa using z3) (mul_zero_r va vb z4) (div_zero_r va vb z4) (by simpa using z4)
        · rcases pc with h | h
          · simp only at h; subst h
            obtain ⟨⟨p1, p2⟩, p3, p4⟩ := ps rfl
            exact way_0_ok an ad bn bd w an1 an2 ad1 ad2 bn1 bn2 bd1 bd2 pn pd hk hl sn sd se hs (by simpa using z3) hp (by simpa using z4) p1 p2 p3 p4 (div_mul hp z4)
          · simp only at h; subst h
            exact way_0_over an ad bn bd w an1 an2 ad1 ad2 bn1 bn2 bd1 bd2 pn pd hk hl sn sd se hs (by simpa using z3) hp (by simpa using z4)
    · exact bad_b an ad bn bd w an1 an2 ad1 ad2 bn1 bn2 bd1 bd2 l hk hl (by simpa using z2)
  · exact bad_a an ad bn bd w an1 an2 ad1 ad2 bn1 bn2 bd1 bd2 k hk (by simpa using z1)

theorem i64bd (n : Int) (h : (Lit.int .i64 n).wf = true) : -9223372036854775808 ≤ n ∧ n ≤ 9223372036854775807 := by
  simpa [Lit.wf, IntKind.min, IntKind.max, IntKind.signed, IntKind.bits] using h

set_option maxRecDepth 100000 in
theorem lifted (os : Os) (started : os.Started) (H : Type) (enc : TypeId × Value → H) :
    ReturnsInHanded {} Try.checked os 9 .any (Rows.rationalInverseSpec.pre6 enc Try.prog Try.f9 Rows.rationalInverseRow.domain false) (Rows.rationalInverseSpec.post enc Try.prog Try.f9 false true false false) := by
  refine returnsInHanded_of_change (C := Try.checked) own started (by kernel_rfl) Try.func9
    (ChangeSpec.witness6 (enc := enc) (C := Try.checked) false ⟨#[], #[.agg #[.int .i64 0, .int .i64 0], .agg #[.int .i64 0, .int .i64 0]], []⟩ 8 (by kernel_rfl) (by kernel_rfl) (by kernel_rfl) (by kernel_rfl)) ?_
  intro W base args ds gs before hval0 hW hcnd _
  have hval : ∀ (j : Nat) t v, Try.f9.params[j]? = some t → args[j]? = some v → Value.okWide Try.prog W .any base t v := hval0
  have hW' := hW
  obtain ⟨p, q, hA0, hV, rfl, hfz, hnd⟩ := hW
  have hA : DataW.TrodAll enc Try.prog W 0 (fun _ => true) true Try.f9.params.toList args.toList ds p := hA0
  rw [Try.params9] at hA hval
  obtain ⟨v0, vs0, d0, ds0, p0, q0, hargs, rfl, rfl, h0, r0⟩ := trodAll_cons hA
  obtain ⟨v1, vs1, d1, ds1, p1, q1, rfl, rfl, rfl, h1, r1⟩ := trodAll_cons r0
  obtain ⟨rfl, rfl, rfl⟩ := trodAll_nil r1
  obtain rfl : args = #[v0, v1] := by cases args; simp_all
  obtain ⟨c0, c1, y0, y1, m, rfl, _, _, hy0, hy1⟩ := open_agg2 Try.underlying23 (by kernel_rfl) (by kernel_rfl) (hval 0 23 v0 rfl rfl) h0
  obtain ⟨an, e0, _, wan⟩ := DataW.trod_int Try.underlying3 hy0
  obtain ⟨ad, e1, _, wad⟩ := DataW.trod_int Try.underlying3 hy1
  simp at e0 e1
  subst e0 e1
  obtain ⟨c0, c1, y0, y1, m, rfl, _, _, hy0, hy1⟩ := open_agg2 Try.underlying23 (by kernel_rfl) (by kernel_rfl) (hval 1 23 v1 rfl rfl) h1
  obtain ⟨bn, e0, _, wbn⟩ := DataW.trod_int Try.underlying3 hy0
  obtain ⟨bd, e1, _, wbd⟩ := DataW.trod_int Try.underlying3 hy1
  simp at e0 e1
  subst e0 e1
  refine (walk an ad bn bd W (i64bd an wan).1 (i64bd an wan).2 (i64bd ad wad).1 (i64bd ad wad).2 (i64bd bn wbn).1 (i64bd bn wbn).2 (i64bd bd wbd).1 (i64bd bd wbd).2).mono fun e W' ⟨he, hB⟩ => ?_
  subst he
  refine ⟨_, rfl, law_post (by kernel_rfl) (by kernel_rfl) rfl Try.underlying4 rfl ?_ hW' hB⟩
  intro es hes
  match es, hes with
  | [_, _], _ => rfl

theorem proved : Rows.RationalInverseSaid :=
  OpenClaim.holds_of_wide 9 Try.f9 rfl rfl rfl rfl rfl rfl rfl ⟨rfl, rfl, rfl, rfl, rfl⟩ rfl rfl rfl rfl rfl (by kernel_rfl) Try.func9 (by kernel_rfl)
    (of_decide_eq_true (by kernel_rfl)) (by unfold Func.isWrapper; first | (rw [if_pos (by decide +kernel)]; kernel_rfl) | (rw [if_neg (by decide +kernel)]; exact ⟨rfl, rfl⟩))
    (fun os started H enc _ => lifted os started H enc)
#print axioms proved
end Go.Proofs.Ytfkdhcfedjbkfaa.rationalInverse
