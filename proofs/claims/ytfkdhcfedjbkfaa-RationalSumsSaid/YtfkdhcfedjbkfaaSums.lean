/-
  Proved: mailboatlaw04.RationalSums returns true for every input (Add, Sub, Mul and Div return what the reference returns), and leaves its arguments as they were. No condition.
-/
import Derived.Test.YtfkdhcfedjbkfaaRows
import Derived.Test.YtfkdhcfedjbkfaaL
import Derived.Test.YtfkdhcfedjbkfaaM
namespace Go.Proofs.Ytfkdhcfedjbkfaa.rationalSums
open Go.ChangeShapes Go.WideShapes Go.ChangeAt Go.RowKit Go.Joins Go.Proofs.Ytfkdhcfedjbkfaa

theorem own : ownKnob Try.prog.godebug = none := by kernel_rfl

set_option maxHeartbeats 1600000 in
theorem walk (an ad bn bd : Int) (w : World) (an1 : -9223372036854775808 ≤ an) (an2 : an ≤ 9223372036854775807) (ad1 : -9223372036854775808 ≤ ad) (ad2 : ad ≤ 9223372036854775807) (bn1 : -9223372036854775808 ≤ bn) (bn2 : bn ≤ 9223372036854775807) (bd1 : -9223372036854775808 ≤ bd) (bd2 : bd ≤ 9223372036854775807) :
    Calls Try.prog 8 #[.agg #[.int .i64 an, .int .i64 ad], .agg #[.int .i64 bn, .int .i64 bd]] w fun e w' => e = .returned (.bool true) ∧ Below w.heap.size w w' := by
  obtain ⟨⟨⟨sn, sd⟩, se⟩, hs⟩ : ∃ x, opS add0 (an, ad) (bn, bd) = x := ⟨_, rfl⟩
  obtain ⟨⟨⟨dn, dd⟩, de⟩, hd⟩ : ∃ x, opS sub0 (an, ad) (bn, bd) = x := ⟨_, rfl⟩
  obtain ⟨⟨⟨pn, pd⟩, pe⟩, hp⟩ : ∃ x, opS mul0 (an, ad) (bn, bd) = x := ⟨_, rfl⟩
  obtain ⟨⟨⟨qn, qd⟩, qe⟩, hq⟩ : ∃ x, opS div0 (an, ad) (bn, bd) = x := ⟨_, rfl⟩
  have hp' := hp
  rw [← rmul_op] at hp'
  have hq' := hq
  rw [← rdiv_op] at hq'
  have Hs := Lib.hid hs
  have Hd := Lib.hid hd
  have Hp := Lib.hid hp
  have Hq := Lib.hid hq
  have Hp' := Lib.hid hp'
  have Hq' := Lib.hid hq'
  clear hs hd hp hq hp' hq'
  go_enter Try.func8, Try.ntmps8
  go_wp2_with fail
  refine (add_any an ad bn bd sn sd se _ an1 an2 ad1 ad2 bn1 bn2 bd1 bd2 Hs.out).mono ?_
  rintro e w1 ⟨rfl, hb1⟩
  have cc := (bcell hb1).1
  have zz := hb1.size
  try simp at zz
  have l1_0 : w.heap.size < w1.heap.size := by first | omega | (simp at *; omega)
  have g1_0_0 : w1.cell? ⟨w.heap.size, 0, none⟩ = some (.int .i64 an) := by rw [cc _ _ (by first | omega | (simp; done) | (simp; omega))]; first | assumption | go_simp
  have g1_0_1 : w1.cell? ⟨w.heap.size, 1, none⟩ = some (.int .i64 ad) := by rw [cc _ _ (by first | omega | (simp; done) | (simp; omega))]; first | assumption | go_simp
  have l1_1 : w.heap.size + 1 < w1.heap.size := by first | omega | (simp at *; omega)
  have g1_1_0 : w1.cell? ⟨w.heap.size + 1, 0, none⟩ = some (.int .i64 bn) := by rw [cc _ _ (by first | omega | (simp; done) | (simp; omega))]; first | assumption | go_simp
  have g1_1_1 : w1.cell? ⟨w.heap.size + 1, 1, none⟩ = some (.int .i64 bd) := by rw [cc _ _ (by first | omega | (simp; done) | (simp; omega))]; first | assumption | go_simp
  clear cc zz
  go_wp2_with fail
  refine (radd_any an ad bn bd sn sd se _ an1 an2 ad1 ad2 bn1 bn2 bd1 bd2 Hs.out).mono ?_
  rintro e w2 ⟨rfl, hb2⟩
  have cc := (bcell hb2).1
  have zz := hb2.size
  try simp at zz
  have l2_0 : w.heap.size < w2.heap.size := by first | omega | (simp at *; omega)
  have g2_0_0 : w2.cell? ⟨w.heap.size, 0, none⟩ = some (.int .i64 an) := by rw [cc _ _ (by first | omega | (simp; done) | (simp; omega))]; first | assumption | go_simp
  have g2_0_1 : w2.cell? ⟨w.heap.size, 1, none⟩ = some (.int .i64 ad) := by rw [cc _ _ (by first | omega | (simp; done) | (simp; omega))]; first | assumption | go_simp
  have l2_1 : w.heap.size + 1 < w2.heap.size := by first | omega | (simp at *; omega)
  have g2_1_0 : w2.cell? ⟨w.heap.size + 1, 0, none⟩ = some (.int .i64 bn) := by rw [cc _ _ (by first | omega | (simp; done) | (simp; omega))]; first | assumption | go_simp
  have g2_1_1 : w2.cell? ⟨w.heap.size + 1, 1, none⟩ = some (.int .i64 bd) := by rw [cc _ _ (by first | omega | (simp; done) | (simp; omega))]; first | assumption | go_simp
  have l2_2 : w1.heap.size < w2.heap.size := by first | omega | (simp at *; omega)
  have g2_2_0 : w2.cell? ⟨w1.heap.size, 0, none⟩ = some (.int .i64 sn) := by rw [cc _ _ (by first | omega | (simp; done) | (simp; omega))]; first | assumption | go_simp
  have g2_2_1 : w2.cell? ⟨w1.heap.size, 1, none⟩ = some (.int .i64 sd) := by rw [cc _ _ (by first | omega | (simp; done) | (simp; omega))]; first | assumption | go_simp
  clear cc zz
  clear g1_0_0 g1_0_1 g1_1_0 g1_1_1
  go_wp2_with fail
  refine (sub_any an ad bn bd dn dd de _ an1 an2 ad1 ad2 bn1 bn2 bd1 bd2 Hd.out).mono ?_
  rintro e w3 ⟨rfl, hb3⟩
  have cc := (bcell hb3).1
  have zz := hb3.size
  try simp at zz
  have l3_0 : w.heap.size < w3.heap.size := by first | omega | (simp at *; omega)
  have g3_0_0 : w3.cell? ⟨w.heap.size, 0, none⟩ = some (.int .i64 an) := by rw [cc _ _ (by first | omega | (simp; done) | (simp; omega))]; first | assumption | go_simp
  have g3_0_1 : w3.cell? ⟨w.heap.size, 1, none⟩ = some (.int .i64 ad) := by rw [cc _ _ (by first | omega | (simp; done) | (simp; omega))]; first | assumption | go_simp
  have l3_1 : w.heap.size + 1 < w3.heap.size := by first | omega | (simp at *; omega)
  have g3_1_0 : w3.cell? ⟨w.heap.size + 1, 0, none⟩ = some (.int .i64 bn) := by rw [cc _ _ (by first | omega | (simp; done) | (simp; omega))]; first | assumption | go_simp
  have g3_1_1 : w3.cell? ⟨w.heap.size + 1, 1, none⟩ = some (.int .i64 bd) := by rw [cc _ _ (by first | omega | (simp; done) | (simp; omega))]; first | assumption | go_simp
  have l3_2 : w1.heap.size < w3.heap.size := by first | omega | (simp at *; omega)
  have g3_2_0 : w3.cell? ⟨w1.heap.size, 0, none⟩ = some (.int .i64 sn) := by rw [cc _ _ (by first | omega | (simp; done) | (simp; omega))]; first | assumption | go_simp
  have g3_2_1 : w3.cell? ⟨w1.heap.size, 1, none⟩ = some (.int .i64 sd) := by rw [cc _ _ (by first | omega | (simp; done) | (simp; omega))]; first | assumption | go_simp
  have l3_3 : w2.heap.size < w3.heap.size := by first | omega | (simp at *; omega)
  have g3_3_0 : w3.cell? ⟨w2.heap.size, 0, none⟩ = some (.int .i64 sn) := by rw [cc _ _ (by first | omega | (simp; done) | (simp; omega))]; first | assumption | go_simp
  have g3_3_1 : w3.cell? ⟨w2.heap.size, 1, none⟩ = some (.int .i64 sd) := by rw [cc _ _ (by first | omega | (simp; done) | (simp; omega))]; first | assumption | go_simp
  clear cc zz
  clear g2_0_0 g2_0_1 g2_1_0 g2_1_1 g2_2_0 g2_2_1
  go_wp2_with fail
  refine (rsub_any an ad bn bd dn dd de _ an1 an2 ad1 ad2 bn1 bn2 bd1 bd2 Hd.out).mono ?_
  rintro e w4 ⟨rfl, hb4⟩
  have cc := (bcell hb4).1
  have zz := hb4.size
  try simp at zz
  have l4_0 : w.heap.size < w4.heap.size := by first | omega | (simp at *; omega)
  have g4_0_0 : w4.cell? ⟨w.heap.size, 0, none⟩ = some (.int .i64 an) := by rw [cc _ _ (by first | omega | (simp; done) | (simp; omega))]; first | assumption | go_simp
  have g4_0_1 : w4.cell? ⟨w.heap.size, 1, none⟩ = some (.int .i64 ad) := by rw [cc _ _ (by first | omega | (simp; done) | (simp; omega))]; first | assumption | go_simp
  have l4_1 : w.heap.size + 1 < w4.heap.size := by first | omega | (simp at *; omega)
  have g4_1_0 : w4.cell? ⟨w.heap.size + 1, 0, none⟩ = some (.int .i64 bn) := by rw [cc _ _ (by first | omega | (simp; done) | (simp; omega))]; first | assumption | go_simp
  have g4_1_1 : w4.cell? ⟨w.heap.size + 1, 1, none⟩ = some (.int .i64 bd) := by rw [cc _ _ (by first | omega | (simp; done) | (simp; omega))]; first | assumption | go_simp
  have l4_2 : w1.heap.size < w4.heap.size := by first | omega | (simp at *; omega)
  have g4_2_0 : w4.cell? ⟨w1.heap.size, 0, none⟩ = some (.int .i64 sn) := by rw [cc _ _ (by first | omega | (simp; done) | (simp; omega))]; first | assumption | go_simp
  have g4_2_1 : w4.cell? ⟨w1.heap.size, 1, none⟩ = some (.int .i64 sd) := by rw [cc _ _ (by first | omega | (simp; done) | (simp; omega))]; first | assumption | go_simp
  have l4_3 : w2.heap.size < w4.heap.size := by first | omega | (simp at *; omega)
  have g4_3_0 : w4.cell? ⟨w2.heap.size, 0, none⟩ = some (.int .i64 sn) := by rw [cc _ _ (by first | omega | (simp; done) | (simp; omega))]; first | assumption | go_simp
  have g4_3_1 : w4.cell? ⟨w2.heap.size, 1, none⟩ = some (.int .i64 sd) := by rw [cc _ _ (by first | omega | (simp; done) | (simp; omega))]; first | assumption | go_simp
  have l4_4 : w3.heap.size < w4.heap.size := by first | omega | (simp at *; omega)
  have g4_4_0 : w4.cell? ⟨w3.heap.size, 0, none⟩ = some (.int .i64 dn) := by rw [cc _ _ (by first | omega | (simp; done) | (simp; omega))]; first | assumption | go_simp
  have g4_4_1 : w4.cell? ⟨w3.heap.size, 1, none⟩ = some (.int .i64 dd) := by rw [cc _ _ (by first | omega | (simp; done) | (simp; omega))]; first | assumption | go_simp
  clear cc zz
  clear g3_0_0 g3_0_1 g3_1_0 g3_1_1 g3_2_0 g3_2_1 g3_3_0 g3_3_1
  go_wp2_with fail
  refine (mul_any an ad bn bd pn pd pe _ an1 an2 ad1 ad2 bn1 bn2 bd1 bd2 Hp.out).mono ?_
  rintro e w5 ⟨rfl, hb5⟩
  have cc := (bcell hb5).1
  have zz := hb5.size
  try simp at zz
  have l5_0 : w.heap.size < w5.heap.size := by first | omega | (simp at *; omega)
  have g5_0_0 : w5.cell? ⟨w.heap.size, 0, none⟩ = some (.int .i64 an) := by rw [cc _ _ (by first | omega | (simp; done) | (simp; omega))]; first | assumption | go_simp
  have g5_0_1 : w5.cell? ⟨w.heap.size, 1, none⟩ = some (.int .i64 ad) := by rw [cc _ _ (by first | omega | (simp; done) | (simp; omega))]; first | assumption | go_simp
  have l5_1 : w.heap.size + 1 < w5.heap.size := by first | omega | (simp at *; omega)
  have g5_1_0 : w5.cell? ⟨w.heap.size + 1, 0, none⟩ = some (.int .i64 bn) := by rw [cc _ _ (by first | omega | (simp; done) | (simp; omega))]; first | assumption | go_simp
  have g5_1_1 : w5.cell? ⟨w.heap.size + 1, 1, none⟩ = some (.int .i64 bd) := by rw [cc _ _ (by first | omega | (simp; done) | (simp; omega))]; first | assumption | go_simp
  have l5_2 : w1.heap.size < w5.heap.size := by first | omega | (simp at *; omega)
  have g5_2_0 : w5.cell? ⟨w1.heap.size, 0, none⟩ = some (.int .i64 sn) := by rw [cc _ _ (by first | omega | (simp; done) | (simp; omega))]; first | assumption | go_simp
  have g5_2_1 : w5.cell? ⟨w1.heap.size, 1, none⟩ = some (.int .i64 sd) := by rw [cc _ _ (by first | omega | (simp; done) | (simp; omega))]; first | assumption | go_simp
  have l5_3 : w2.heap.size < w5.heap.size := by first | omega | (simp at *; omega)
  have g5_3_0 : w5.cell? ⟨w2.heap.size, 0, none⟩ = some (.int .i64 sn) := by rw [cc _ _ (by first | omega | (simp; done) | (simp; omega))]; first | assumption | go_simp
  have g5_3_1 : w5.cell? ⟨w2.heap.size, 1, none⟩ = some (.int .i64 sd) := by rw [cc _ _ (by first | omega | (simp; done) | (simp; omega))]; first | assumption | go_simp
  have l5_4 : w3.heap.size < w5.heap.size := by first | omega | (simp at *; omega)
  have g5_4_0 : w5.cell? ⟨w3.heap.size, 0, none⟩ = some (.int .i64 dn) := by rw [cc _ _ (by first | omega | (simp; done) | (simp; omega))]; first | assumption | go_simp
  have g5_4_1 : w5.cell? ⟨w3.heap.size, 1, none⟩ = some (.int .i64 dd) := by rw [cc _ _ (by first | omega | (simp; done) | (simp; omega))]; first | assumption | go_simp
  have l5_5 : w4.heap.size < w5.heap.size := by first | omega | (simp at *; omega)
  have g5_5_0 : w5.cell? ⟨w4.heap.size, 0, none⟩ = some (.int .i64 dn) := by rw [cc _ _ (by first | omega | (simp; done) | (simp; omega))]; first | assumption | go_simp
  have g5_5_1 : w5.cell? ⟨w4.heap.size, 1, none⟩ = some (.int .i64 dd) := by rw [cc _ _ (by first | omega | (simp; done) | (simp; omega))]; first | assumption | go_simp
  clear cc zz
  clear g4_0_0 g4_0_1 g4_1_0 g4_1_1 g4_2_0 g4_2_1 g4_3_0 g4_3_1 g4_4_0 g4_4_1
  go_wp2_with fail
  refine (rmul_any an ad bn bd pn pd pe _ an1 an2 ad1 ad2 bn1 bn2 bd1 bd2 Hp'.out).mono ?_
  rintro e w6 ⟨rfl, hb6⟩
  have cc := (bcell hb6).1
  have zz := hb6.size
  try simp at zz
  have l6_0 : w.heap.size < w6.heap.size := by first | omega | (simp at *; omega)
  have g6_0_0 : w6.cell? ⟨w.heap.size, 0, none⟩ = some (.int .i64 an) := by rw [cc _ _ (by first | omega | (simp; done) | (simp; omega))]; first | assumption | go_simp
  have g6_0_1 : w6.cell? ⟨w.heap.size, 1, none⟩ = some (.int .i64 ad) := by rw [cc _ _ (by first | omega | (simp; done) | (simp; omega))]; first | assumption | go_simp
  have l6_1 : w.heap.size + 1 < w6.heap.size := by first | omega | (simp at *; omega)
  have g6_1_0 : w6.cell? ⟨w.heap.size + 1, 0, none⟩ = some (.int .i64 bn) := by rw [cc _ _ (by first | omega | (simp; done) | (simp; omega))]; first | assumption | go_simp
  have g6_1_1 : w6.cell? ⟨w.heap.size + 1, 1, none⟩ = some (.int .i64 bd) := by rw [cc _ _ (by first | omega | (simp; done) | (simp; omega))]; first | assumption | go_simp
  have l6_2 : w1.heap.size < w6.heap.size := by first | omega | (simp at *; omega)
  have g6_2_0 : w6.cell? ⟨w1.heap.size, 0, none⟩ = some (.int .i64 sn) := by rw [cc _ _ (by first | omega | (simp; done) | (simp; omega))]; first | assumption | go_simp
  have g6_2_1 : w6.cell? ⟨w1.heap.size, 1, none⟩ = some (.int .i64 sd) := by rw [cc _ _ (by first | omega | (simp; done) | (simp; omega))]; first | assumption | go_simp
  have l6_3 : w2.heap.size < w6.heap.size := by first | omega | (simp at *; omega)
  have g6_3_0 : w6.cell? ⟨w2.heap.size, 0, none⟩ = some (.int .i64 sn) := by rw [cc _ _ (by first | omega | (simp; done) | (simp; omega))]; first | assumption | go_simp
  have g6_3_1 : w6.cell? ⟨w2.heap.size, 1, none⟩ = some (.int .i64 sd) := by rw [cc _ _ (by first | omega | (simp; done) | (simp; omega))]; first | assumption | go_simp
  have l6_4 : w3.heap.size < w6.heap.size := by first | omega | (simp at *; omega)
  have g6_4_0 : w6.cell? ⟨w3.heap.size, 0, none⟩ = some (.int .i64 dn) := by rw [cc _ _ (by first | omega | (simp; done) | (simp; omega))]; first | assumption | go_simp
  have g6_4_1 : w6.cell? ⟨w3.heap.size, 1, none⟩ = some (.int .i64 dd) := by rw [cc _ _ (by first | omega | (simp; done) | (simp; omega))]; first | assumption | go_simp
  have l6_5 : w4.heap.size < w6.heap.size := by first | omega | (simp at *; omega)
  have g6_5_0 : w6.cell? ⟨w4.heap.size, 0, none⟩ = some (.int .i64 dn) := by rw [cc _ _ (by first | omega | (simp; done) | (simp; omega))]; first | assumption | go_simp
  have g6_5_1 : w6.cell? ⟨w4.heap.size, 1, none⟩ = some (.int .i64 dd) := by rw [cc _ _ (by first | omega | (simp; done) | (simp; omega))]; first | assumption | go_simp
  have l6_6 : w5.heap.size < w6.heap.size := by first | omega | (simp at *; omega)
  have g6_6_0 : w6.cell? ⟨w5.heap.size, 0, none⟩ = some (.int .i64 pn) := by rw [cc _ _ (by first | omega | (simp; done) | (simp; omega))]; first | assumption | go_simp
  have g6_6_1 : w6.cell? ⟨w5.heap.size, 1, none⟩ = some (.int .i64 pd) := by rw [cc _ _ (by first | omega | (simp; done) | (simp; omega))]; first | assumption | go_simp
  clear cc zz
  clear g5_0_0 g5_0_1 g5_1_0 g5_1_1 g5_2_0 g5_2_1 g5_3_0 g5_3_1 g5_4_0 g5_4_1 g5_5_0 g5_5_1
  go_wp2_with fail
  refine (div_any an ad bn bd qn qd qe _ an1 an2 ad1 ad2 bn1 bn2 bd1 bd2 Hq.out).mono ?_
  rintro e w7 ⟨rfl, hb7⟩
  have cc := (bcell hb7).1
  have zz := hb7.size
  try simp at zz
  have l7_0 : w.heap.size < w7.heap.size := by first | omega | (simp at *; omega)
  have g7_0_0 : w7.cell? ⟨w.heap.size, 0, none⟩ = some (.int .i64 an) := by rw [cc _ _ (by first | omega | (simp; done) | (simp; omega))]; first | assumption | go_simp
  have g7_0_1 : w7.cell? ⟨w.heap.size, 1, none⟩ = some (.int .i64 ad) := by rw [cc _ _ (by first | omega | (simp; done) | (simp; omega))]; first | assumption | go_simp
  have l7_1 : w.heap.size + 1 < w7.heap.size := by first | omega | (simp at *; omega)
  have g7_1_0 : w7.cell? ⟨w.heap.size + 1, 0, none⟩ = some (.int .i64 bn) := by rw [cc _ _ (by first | omega | (simp; done) | (simp; omega))]; first | assumption | go_simp
  have g7_1_1 : w7.cell? ⟨w.heap.size + 1, 1, none⟩ = some (.int .i64 bd) := by rw [cc _ _ (by first | omega | (simp; done) | (simp; omega))]; first | assumption | go_simp
  have l7_2 : w1.heap.size < w7.heap.size := by first | omega | (simp at *; omega)
  have g7_2_0 : w7.cell? ⟨w1.heap.size, 0, none⟩ = some (.int .i64 sn) := by rw [cc _ _ (by first | omega | (simp; done) | (simp; omega))]; first | assumption | go_simp
  have g7_2_1 : w7.cell? ⟨w1.heap.size, 1, none⟩ = some (.int .i64 sd) := by rw [cc _ _ (by first | omega | (simp; done) | (simp; omega))]; first | assumption | go_simp
  have l7_3 : w2.heap.size < w7.heap.size := by first | omega | (simp at *; omega)
  have g7_3_0 : w7.cell? ⟨w2.heap.size, 0, none⟩ = some (.int .i64 sn) := by rw [cc _ _ (by first | omega | (simp; done) | (simp; omega))]; first | assumption | go_simp
  have g7_3_1 : w7.cell? ⟨w2.heap.size, 1, none⟩ = some (.int .i64 sd) := by rw [cc _ _ (by first | omega | (simp; done) | (simp; omega))]; first | assumption | go_simp
  have l7_4 : w3.heap.size < w7.heap.size := by first | omega | (simp at *; omega)
  have g7_4_0 : w7.cell? ⟨w3.heap.size, 0, none⟩ = some (.int .i64 dn) := by rw [cc _ _ (by first | omega | (simp; done) | (simp; omega))]; first | assumption | go_simp
  have g7_4_1 : w7.cell? ⟨w3.heap.size, 1, none⟩ = some (.int .i64 dd) := by rw [cc _ _ (by first | omega | (simp; done) | (simp; omega))]; first | assumption | go_simp
  have l7_5 : w4.heap.size < w7.heap.size := by first | omega | (simp at *; omega)
  have g7_5_0 : w7.cell? ⟨w4.heap.size, 0, none⟩ = some (.int .i64 dn) := by rw [cc _ _ (by first | omega | (simp; done) | (simp; omega))]; first | assumption | go_simp
  have g7_5_1 : w7.cell? ⟨w4.heap.size, 1, none⟩ = some (.int .i64 dd) := by rw [cc _ _ (by first | omega | (simp; done) | (simp; omega))]; first | assumption | go_simp
  have l7_6 : w5.heap.size < w7.heap.size := by first | omega | (simp at *; omega)
  have g7_6_0 : w7.cell? ⟨w5.heap.size, 0, none⟩ = some (.int .i64 pn) := by rw [cc _ _ (by first | omega | (simp; done) | (simp; omega))]; first | assumption | go_simp
  have g7_6_1 : w7.cell? ⟨w5.heap.size, 1, none⟩ = some (.int .i64 pd) := by rw [cc _ _ (by first | omega | (simp; done) | (simp; omega))]; first | assumption | go_simp
  have l7_7 : w6.heap.size < w7.heap.size := by first | omega | (simp at *; omega)
  have g7_7_0 : w7.cell? ⟨w6.heap.size, 0, none⟩ = some (.int .i64 pn) := by rw [cc _ _ (by first | omega | (simp; done) | (simp; omega))]; first | assumption | go_simp
  have g7_7_1 : w7.cell? ⟨w6.heap.size, 1, none⟩ = some (.int .i64 pd) := by rw [cc _ _ (by first | omega | (simp; done) | (simp; omega))]; first | assumption | go_simp
  clear cc zz
  clear g6_0_0 g6_0_1 g6_1_0 g6_1_1 g6_2_0 g6_2_1 g6_3_0 g6_3_1 g6_4_0 g6_4_1 g6_5_0 g6_5_1 g6_6_0 g6_6_1
  go_wp2_with fail
  refine (rdiv_any an ad bn bd qn qd qe _ an1 an2 ad1 ad2 bn1 bn2 bd1 bd2 Hq'.out).mono ?_
  rintro e w8 ⟨rfl, hb8⟩
  have cc := (bcell hb8).1
  have zz := hb8.size
  try simp at zz
  have l8_0 : w.heap.size < w8.heap.size := by first | omega | (simp at *; omega)
  have g8_0_0 : w8.cell? ⟨w.heap.size, 0, none⟩ = some (.int .i64 an) := by rw [cc _ _ (by first | omega | (simp; done) | (simp; omega))]; first | assumption | go_simp
  have g8_0_1 : w8.cell? ⟨w.heap.size, 1, none⟩ = some (.int .i64 ad) := by rw [cc _ _ (by first | omega | (simp; done) | (simp; omega))]; first | assumption | go_simp
  have l8_1 : w.heap.size + 1 < w8.heap.size := by first | omega | (simp at *; omega)
  have g8_1_0 : w8.cell? ⟨w.heap.size + 1, 0, none⟩ = some (.int .i64 bn) := by rw [cc _ _ (by first | omega | (simp; done) | (simp; omega))]; first | assumption | go_simp
  have g8_1_1 : w8.cell? ⟨w.heap.size + 1, 1, none⟩ = some (.int .i64 bd) := by rw [cc _ _ (by first | omega | (simp; done) | (simp; omega))]; first | assumption | go_simp
  have l8_2 : w1.heap.size < w8.heap.size := by first | omega | (simp at *; omega)
  have g8_2_0 : w8.cell? ⟨w1.heap.size, 0, none⟩ = some (.int .i64 sn) := by rw [cc _ _ (by first | omega | (simp; done) | (simp; omega))]; first | assumption | go_simp
  have g8_2_1 : w8.cell? ⟨w1.heap.size, 1, none⟩ = some (.int .i64 sd) := by rw [cc _ _ (by first | omega | (simp; done) | (simp; omega))]; first | assumption | go_simp
  have l8_3 : w2.heap.size < w8.heap.size := by first | omega | (simp at *; omega)
  have g8_3_0 : w8.cell? ⟨w2.heap.size, 0, none⟩ = some (.int .i64 sn) := by rw [cc _ _ (by first | omega | (simp; done) | (simp; omega))]; first | assumption | go_simp
  have g8_3_1 : w8.cell? ⟨w2.heap.size, 1, none⟩ = some (.int .i64 sd) := by rw [cc _ _ (by first | omega | (simp; done) | (simp; omega))]; first | assumption | go_simp
  have l8_4 : w3.heap.size < w8.heap.size := by first | omega | (simp at *; omega)
  have g8_4_0 : w8.cell? ⟨w3.heap.size, 0, none⟩ = some (.int .i64 dn) := by rw [cc _ _ (by first | omega | (simp; done) | (simp; omega))]; first | assumption | go_simp
  have g8_4_1 : w8.cell? ⟨w3.heap.size, 1, none⟩ = some (.int .i64 dd) := by rw [cc _ _ (by first | omega | (simp; done) | (simp; omega))]; first | assumption | go_simp
  have l8_5 : w4.heap.size < w8.heap.size := by first | omega | (simp at *; omega)
  have g8_5_0 : w8.cell? ⟨w4.heap.size, 0, none⟩ = some (.int .i64 dn) := by rw [cc _ _ (by first | omega | (simp; done) | (simp; omega))]; first | assumption | go_simp
  have g8_5_1 : w8.cell? ⟨w4.heap.size, 1, none⟩ = some (.int .i64 dd) := by rw [cc _ _ (by first | omega | (simp; done) | (simp; omega))]; first | assumption | go_simp
  have l8_6 : w5.heap.size < w8.heap.size := by first | omega | (simp at *; omega)
  have g8_6_0 : w8.cell? ⟨w5.heap.size, 0, none⟩ = some (.int .i64 pn) := by rw [cc _ _ (by first | omega | (simp; done) | (simp; omega))]; first | assumption | go_simp
  have g8_6_1 : w8.cell? ⟨w5.heap.size, 1, none⟩ = some (.int .i64 pd) := by rw [cc _ _ (by first | omega | (simp; done) | (simp; omega))]; first | assumption | go_simp
  have l8_7 : w6.heap.size < w8.heap.size := by first | omega | (simp at *; omega)
  have g8_7_0 : w8.cell? ⟨w6.heap.size, 0, none⟩ = some (.int .i64 pn) := by rw [cc _ _ (by first | omega | (simp; done) | (simp; omega))]; first | assumption | go_simp
  have g8_7_1 : w8.cell? ⟨w6.heap.size, 1, none⟩ = some (.int .i64 pd) := by rw [cc _ _ (by first | omega | (simp; done) | (simp; omega))]; first | assumption | go_simp
  have l8_8 : w7.heap.size < w8.heap.size := by first | omega | (simp at *; omega)
  have g8_8_0 : w8.cell? ⟨w7.heap.size, 0, none⟩ = some (.int .i64 qn) := by rw [cc _ _ (by first | omega | (simp; done) | (simp; omega))]; first | assumption | go_simp
  have g8_8_1 : w8.cell? ⟨w7.heap.size, 1, none⟩ = some (.int .i64 qd) := by rw [cc _ _ (by first | omega | (simp; done) | (simp; omega))]; first | assumption | go_simp
  clear cc zz
  clear g7_0_0 g7_0_1 g7_1_0 g7_1_1 g7_2_0 g7_2_1 g7_3_0 g7_3_1 g7_4_0 g7_4_1 g7_5_0 g7_5_1 g7_6_0 g7_6_1 g7_7_0 g7_7_1
  go_wp2_with fail
  refine (awake_any _).mono ?_
  rintro e w9 ⟨rfl, hb9⟩
  have cc := (bcell hb9).1
  have zz := hb9.size
  try simp at zz
  have l9_0 : w.heap.size < w9.heap.size := by first | omega | (simp at *; omega)
  have g9_0_0 : w9.cell? ⟨w.heap.size, 0, none⟩ = some (.int .i64 an) := by rw [cc _ _ (by first | omega | (simp; done) | (simp; omega))]; first | assumption | go_simp
  have g9_0_1 : w9.cell? ⟨w.heap.size, 1, none⟩ = some (.int .i64 ad) := by rw [cc _ _ (by first | omega | (simp; done) | (simp; omega))]; first | assumption | go_simp
  have l9_1 : w.heap.size + 1 < w9.heap.size := by first | omega | (simp at *; omega)
  have g9_1_0 : w9.cell? ⟨w.heap.size + 1, 0, none⟩ = some (.int .i64 bn) := by rw [cc _ _ (by first | omega | (simp; done) | (simp; omega))]; first | assumption | go_simp
  have g9_1_1 : w9.cell? ⟨w.heap.size + 1, 1, none⟩ = some (.int .i64 bd) := by rw [cc _ _ (by first | omega | (simp; done) | (simp; omega))]; first | assumption | go_simp
  have l9_2 : w1.heap.size < w9.heap.size := by first | omega | (simp at *; omega)
  have g9_2_0 : w9.cell? ⟨w1.heap.size, 0, none⟩ = some (.int .i64 sn) := by rw [cc _ _ (by first | omega | (simp; done) | (simp; omega))]; first | assumption | go_simp
  have g9_2_1 : w9.cell? ⟨w1.heap.size, 1, none⟩ = some (.int .i64 sd) := by rw [cc _ _ (by first | omega | (simp; done) | (simp; omega))]; first | assumption | go_simp
  have l9_3 : w2.heap.size < w9.heap.size := by first | omega | (simp at *; omega)
  have g9_3_0 : w9.cell? ⟨w2.heap.size, 0, none⟩ = some (.int .i64 sn) := by rw [cc _ _ (by first | omega | (simp; done) | (simp; omega))]; first | assumption | go_simp
  have g9_3_1 : w9.cell? ⟨w2.heap.size, 1, none⟩ = some (.int .i64 sd) := by rw [cc _ _ (by first | omega | (simp; done) | (simp; omega))]; first | assumption | go_simp
  have l9_4 : w3.heap.size < w9.heap.size := by first | omega | (simp at *; omega)
  have g9_4_0 : w9.cell? ⟨w3.heap.size, 0, none⟩ = some (.int .i64 dn) := by rw [cc _ _ (by first | omega | (simp; done) | (simp; omega))]; first | assumption | go_simp
  have g9_4_1 : w9.cell? ⟨w3.heap.size, 1, none⟩ = some (.int .i64 dd) := by rw [cc _ _ (by first | omega | (simp; done) | (simp; omega))]; first | assumption | go_simp
  have l9_5 : w4.heap.size < w9.heap.size := by first | omega | (simp at *; omega)
  have g9_5_0 : w9.cell? ⟨w4.heap.size, 0, none⟩ = some (.int .i64 dn) := by rw [cc _ _ (by first | omega | (simp; done) | (simp; omega))]; first | assumption | go_simp
  have g9_5_1 : w9.cell? ⟨w4.heap.size, 1, none⟩ = some (.int .i64 dd) := by rw [cc _ _ (by first | omega | (simp; done) | (simp; omega))]; first | assumption | go_simp
  have l9_6 : w5.heap.size < w9.heap.size := by first | omega | (simp at *; omega)
  have g9_6_0 : w9.cell? ⟨w5.heap.size, 0, none⟩ = some (.int .i64 pn) := by rw [cc _ _ (by first | omega | (simp; done) | (simp; omega))]; first | assumption | go_simp
  have g9_6_1 : w9.cell? ⟨w5.heap.size, 1, none⟩ = some (.int .i64 pd) := by rw [cc _ _ (by first | omega | (simp; done) | (simp; omega))]; first | assumption | go_simp
  have l9_7 : w6.heap.size < w9.heap.size := by first | omega | (simp at *; omega)
  have g9_7_0 : w9.cell? ⟨w6.heap.size, 0, none⟩ = some (.int .i64 pn) := by rw [cc _ _ (by first | omega | (simp; done) | (simp; omega))]; first | assumption | go_simp
  have g9_7_1 : w9.cell? ⟨w6.heap.size, 1, none⟩ = some (.int .i64 pd) := by rw [cc _ _ (by first | omega | (simp; done) | (simp; omega))]; first | assumption | go_simp
  have l9_8 : w7.heap.size < w9.heap.size := by first | omega | (simp at *; omega)
  have g9_8_0 : w9.cell? ⟨w7.heap.size, 0, none⟩ = some (.int .i64 qn) := by rw [cc _ _ (by first | omega | (simp; done) | (simp; omega))]; first | assumption | go_simp
  have g9_8_1 : w9.cell? ⟨w7.heap.size, 1, none⟩ = some (.int .i64 qd) := by rw [cc _ _ (by first | omega | (simp; done) | (simp; omega))]; first | assumption | go_simp
  have l9_9 : w8.heap.size < w9.heap.size := by first | omega | (simp at *; omega)
  have g9_9_0 : w9.cell? ⟨w8.heap.size, 0, none⟩ = some (.int .i64 qn) := by rw [cc _ _ (by first | omega | (simp; done) | (simp; omega))]; first | assumption | go_simp
  have g9_9_1 : w9.cell? ⟨w8.heap.size, 1, none⟩ = some (.int .i64 qd) := by rw [cc _ _ (by first | omega | (simp; done) | (simp; omega))]; first | assumption | go_simp
  clear cc zz
  clear g8_0_0 g8_0_1 g8_1_0 g8_1_1 g8_2_0 g8_2_1 g8_3_0 g8_3_1 g8_4_0 g8_4_1 g8_5_0 g8_5_1 g8_6_0 g8_6_1 g8_7_0 g8_7_1 g8_8_0 g8_8_1
  go_wp2
  go_ret
  exact ⟨rfl, (by repeat' (first | exact Below.refl _ _ | assumption | (with_reducible refine bdrewN ?_ _) | (with_reducible refine bdrew ?_) | (with_reducible refine bset ?_ ?_) | (with_reducible refine balloc0 ?_) | (with_reducible refine balloc ?_ ?_) | (apply btrans0; rotate_left; assumption) | (apply btrans; rotate_left; assumption) | (simp; done) | omega | (simp; omega)))⟩

theorem i64bd (n : Int) (h : (Lit.int .i64 n).wf = true) : -9223372036854775808 ≤ n ∧ n ≤ 9223372036854775807 := by
  simpa [Lit.wf, IntKind.min, IntKind.max, IntKind.signed, IntKind.bits] using h

set_option maxRecDepth 100000 in
theorem lifted (os : Os) (started : os.Started) (H : Type) (enc : TypeId × Value → H) :
    ReturnsInHanded {} Try.checked os 8 .any (Rows.rationalSumsSpec.pre6 enc Try.prog Try.f8 Rows.rationalSumsRow.domain false) (Rows.rationalSumsSpec.post enc Try.prog Try.f8 false true false false) := by
  refine returnsInHanded_of_change (C := Try.checked) own started (by kernel_rfl) Try.func8
    (ChangeSpec.witness6 (enc := enc) (C := Try.checked) false ⟨#[], #[.agg #[.int .i64 0, .int .i64 0], .agg #[.int .i64 0, .int .i64 0]], []⟩ 8 (by kernel_rfl) (by kernel_rfl) (by kernel_rfl) (by kernel_rfl)) ?_
  intro W base args ds gs before hval0 hW hcnd _
  have hval : ∀ (j : Nat) t v, Try.f8.params[j]? = some t → args[j]? = some v → Value.okWide Try.prog W .any base t v := hval0
  have hW' := hW
  obtain ⟨p, q, hA0, hV, rfl, hfz, hnd⟩ := hW
  have hA : DataW.TrodAll enc Try.prog W 0 (fun _ => true) true Try.f8.params.toList args.toList ds p := hA0
  rw [Try.params8] at hA hval
  obtain ⟨v0, vs0, d0, ds0, p0, q0, hargs, rfl, rfl, h0, r0⟩ := trodAll_cons hA
  obtain ⟨v1, vs1, d1, ds1, p1, q1, rfl, rfl, rfl, h1, r1⟩ := trodAll_cons r0
  obtain ⟨rfl, rfl, rfl⟩ := trodAll_nil r1
  obtain rfl : args = #[v0, v1] := by cases args; simp_all
  obtain ⟨c0, c1, y0, y1, m, rfl, _, _, hy0, hy1⟩ := open_agg2 Try.underlying23 (by kernel_rfl) (by kernel_rfl) (hval 0 23 v0 rfl rfl) h0
  obtain ⟨an, e0, _, wan⟩ := DataW.trod_int Try.underlying3 hy0
  obtain ⟨ad, e1, _, wad⟩ := DataW.trod_int Try.underlying3 hy1
  simp at e0 e1
  subst e0 e1
  obtain ⟨c0, c1, y0, y1, m, rfl, _, _, hy0, hy1⟩ := open_agg2 Try.underlying23 (by kernel_rfl) (by kernel_rfl) (hval 1 23 v1 rfl rfl) h1
  obtain ⟨bn, e0, _, wbn⟩ := DataW.trod_int Try.underlying3 hy0
  obtain ⟨bd, e1, _, wbd⟩ := DataW.trod_int Try.underlying3 hy1
  simp at e0 e1
  subst e0 e1
  refine (walk an ad bn bd W (i64bd an wan).1 (i64bd an wan).2 (i64bd ad wad).1 (i64bd ad wad).2 (i64bd bn wbn).1 (i64bd bn wbn).2 (i64bd bd wbd).1 (i64bd bd wbd).2).mono fun e W' ⟨he, hB⟩ => ?_
  subst he
  refine ⟨_, rfl, law_post (by kernel_rfl) (by kernel_rfl) rfl Try.underlying4 rfl ?_ hW' hB⟩
  intro es hes
  match es, hes with
  | [_, _], _ => rfl

theorem proved : Rows.RationalSumsSaid :=
  OpenClaim.holds_of_wide 8 Try.f8 rfl rfl rfl rfl rfl rfl rfl ⟨rfl, rfl, rfl, rfl, rfl⟩ rfl rfl rfl rfl rfl (by kernel_rfl) Try.func8 (by kernel_rfl)
    (of_decide_eq_true (by kernel_rfl)) (by unfold Func.isWrapper; first | (rw [if_pos (by decide +kernel)]; kernel_rfl) | (rw [if_neg (by decide +kernel)]; exact ⟨rfl, rfl⟩))
    (fun os started H enc _ => lifted os started H enc)
#print axioms proved
end Go.Proofs.Ytfkdhcfedjbkfaa.rationalSums
