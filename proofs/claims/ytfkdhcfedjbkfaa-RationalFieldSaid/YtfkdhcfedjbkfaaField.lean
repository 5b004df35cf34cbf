/-
  Proved: mailboatlaw04.RationalField returns true for every input (addition and multiplication), and leaves its arguments as they were. No condition.
-/
import Derived.Test.YtfkdhcfedjbkfaaRows
import Derived.Test.YtfkdhcfedjbkfaaL
import Derived.Test.YtfkdhcfedjbkfaaM
import Derived.Test.YtfkdhcfedjbkfaaFieldBad
set_option linter.unusedVariables false
set_option linter.unusedSimpArgs false
namespace Go.Proofs.Ytfkdhcfedjbkfaa.rationalField
open Go.ChangeShapes Go.WideShapes Go.ChangeAt Go.RowKit Go.Joins Go.Proofs.Ytfkdhcfedjbkfaa

theorem own : ownKnob Try.prog.godebug = none := by kernel_rfl

/-- what one round of the loop over Add and Mul, and what lies behind the loop, is told of the three numbers -/
structure Facts (f : R2 → R2 → R2 × Int) (a b c : R2) : Prop where
  com : opS f b a = opS f a b
  code : (opS f a b).2 = 0 ∨ (opS f a b).2 = 5
  fit : ∀ x y z, opS f x y = (z, 0) → Vld z
  ass : ∀ x l z r, opS f a b = (x, 0) → opS f x c = (l, 0) → opS f b c = (z, 0) → opS f a z = (r, 0) → l = r
theorem vbd {x y : Int} (h : Vld (x, y)) : ((-9223372036854775808 ≤ x ∧ x ≤ 9223372036854775807) ∧ -9223372036854775808 ≤ y ∧ y ≤ 9223372036854775807) ∧ chk (x, y) = 0 := by
  have := h.lo; have := h.hi; have := h.dlo; have := h.dhi; simp only at *
  exact ⟨by omega, (chk_iff _).2 h⟩
theorem cd_bd {f : R2 → R2 → R2 × Int} (hf : ∀ x y z, opS f x y = (z, 0) → Vld z) {x y : R2} {p q r : Int} (h : opS f x y = ((p, q), r)) (hr : r = 0) : ((-9223372036854775808 ≤ p ∧ p ≤ 9223372036854775807) ∧ -9223372036854775808 ≤ q ∧ q ≤ 9223372036854775807) ∧ chk (p, q) = 0 := by
  subst hr; exact vbd (hf _ _ _ h)
theorem opS_bd {f : R2 → R2 → R2 × Int} {g : Rat → Rat → Rat} (hf : ∀ {a b : R2}, Vld a → Vld b → f a b = fin (g (rat a) (rat b))) {a b : R2} {p q r : Int} (h : opS f a b = ((p, q), r)) :
    (-9223372036854775808 ≤ p ∧ p ≤ 9223372036854775807) ∧ -9223372036854775808 ≤ q ∧ q ≤ 9223372036854775807 := by
  by_cases k : chk a = 0 ∧ chk b = 0
  · rw [opS_fin hf a b ((chk_iff _).1 k.1) ((chk_iff _).1 k.2)] at h
    unfold fin at h
    split at h
    · simp only [Prod.mk.injEq] at h; omega
    · simp only [Prod.mk.injEq] at h; omega
  · obtain ⟨rfl, rfl, _⟩ := opS_bad h k
    omega

set_option maxRecDepth 100000 in
set_option maxHeartbeats 16000000 in
theorem good (an ad bn bd cn cd : Int) (w : World) (an1 : -9223372036854775808 ≤ an) (an2 : an ≤ 9223372036854775807) (ad1 : -9223372036854775808 ≤ ad) (ad2 : ad ≤ 9223372036854775807) (bn1 : -9223372036854775808 ≤ bn) (bn2 : bn ≤ 9223372036854775807) (bd1 : -9223372036854775808 ≤ bd) (bd2 : bd ≤ 9223372036854775807) (cn1 : -9223372036854775808 ≤ cn) (cn2 : cn ≤ 9223372036854775807) (cd1 : -9223372036854775808 ≤ cd) (cd2 : cd ≤ 9223372036854775807) (ha : chk (an, ad) = 0) (hb : chk (bn, bd) = 0) (hc : chk (cn, cd) = 0) :
    Calls Try.prog 7 #[.agg #[.int .i64 an, .int .i64 ad], .agg #[.int .i64 bn, .int .i64 bd], .agg #[.int .i64 cn, .int .i64 cd]] w fun e w' => e = .returned (.bool true) ∧ Below w.heap.size w w' := by
  have va := (chk_iff _).1 ha
  have vb := (chk_iff _).1 hb
  have vc := (chk_iff _).1 hc
  have FA : Facts add0 (an, ad) (bn, bd) (cn, cd) := ⟨comm_law add_fin Rat.add_comm _ _ vb va, opS_code add_fin _ _ va vb, fun _ _ _ h => (opS_ok add_fin h).2.2.1, fun _ _ _ _ h1 h2 h3 h4 => assoc_law add_fin Rat.add_assoc h1 h2 h3 h4⟩
  have FM : Facts mul0 (an, ad) (bn, bd) (cn, cd) := ⟨comm_law mul_fin Rat.mul_comm _ _ vb va, opS_code mul_fin _ _ va vb, fun _ _ _ h => (opS_ok mul_fin h).2.2.1, fun _ _ _ _ h1 h2 h3 h4 => assoc_law mul_fin Rat.mul_assoc h1 h2 h3 h4⟩
  have HFA := Lib.hid FA
  have HFM := Lib.hid FM
  have HA := Lib.hid ha
  have HB := Lib.hid hb
  have HC := Lib.hid hc
  clear ha hb hc va vb vc FA FM
  go_enter Try.func7, Try.ntmps7
  go_wp2_with fail
  refine (check_any an ad 0 _ an1 an2 ad1 ad2 HA.out).mono ?_
  rintro e w1 ⟨rfl, hb1⟩
  have cc := (bcell hb1).1
  have zz := hb1.size
  try simp at zz
  have l1_0 : w.heap.size < w1.heap.size := by first | omega | (simp at *; omega)
  have g1_0_0 : w1.cell? ⟨w.heap.size, 0, none⟩ = some (.int .i64 an) := by rw [cc _ _ (by first | omega | (simp; done) | (simp; omega))]; first | assumption | go_simp
  have g1_0_1 : w1.cell? ⟨w.heap.size, 1, none⟩ = some (.int .i64 ad) := by rw [cc _ _ (by first | omega | (simp; done) | (simp; omega))]; first | assumption | go_simp
  have l1_1 : w.heap.size + 1 < w1.heap.size := by first | omega | (simp at *; omega)
  have g1_1_0 : w1.cell? ⟨w.heap.size + 1, 0, none⟩ = some (.int .i64 bn) := by rw [cc _ _ (by first | omega | (simp; done) | (simp; omega))]; first | assumption | go_simp
  have g1_1_1 : w1.cell? ⟨w.heap.size + 1, 1, none⟩ = some (.int .i64 bd) := by rw [cc _ _ (by first | omega | (simp; done) | (simp; omega))]; first | assumption | go_simp
  have l1_2 : w.heap.size + 2 < w1.heap.size := by first | omega | (simp at *; omega)
  have g1_2_0 : w1.cell? ⟨w.heap.size + 2, 0, none⟩ = some (.int .i64 cn) := by rw [cc _ _ (by first | omega | (simp; done) | (simp; omega))]; first | assumption | go_simp
  have g1_2_1 : w1.cell? ⟨w.heap.size + 2, 1, none⟩ = some (.int .i64 cd) := by rw [cc _ _ (by first | omega | (simp; done) | (simp; omega))]; first | assumption | go_simp
  clear cc zz
  go_wp2_with fail
  refine (check_any bn bd 0 _ bn1 bn2 bd1 bd2 HB.out).mono ?_
  rintro e w2 ⟨rfl, hb2⟩
  have cc := (bcell hb2).1
  have zz := hb2.size
  try simp at zz
  have l2_0 : w.heap.size < w2.heap.size := by first | omega | (simp at *; omega)
  have g2_0_0 : w2.cell? ⟨w.heap.size, 0, none⟩ = some (.int .i64 an) := by rw [cc _ _ (by first | omega | (simp; done) | (simp; omega))]; first | assumption | go_simp
  have g2_0_1 : w2.cell? ⟨w.heap.size, 1, none⟩ = some (.int .i64 ad) := by rw [cc _ _ (by first | omega | (simp; done) | (simp; omega))]; first | assumption | go_simp
  have l2_1 : w.heap.size + 1 < w2.heap.size := by first | omega | (simp at *; omega)
  have g2_1_0 : w2.cell? ⟨w.heap.size + 1, 0, none⟩ = some (.int .i64 bn) := by rw [cc _ _ (by first | omega | (simp; done) | (simp; omega))]; first | assumption | go_simp
  have g2_1_1 : w2.cell? ⟨w.heap.size + 1, 1, none⟩ = some (.int .i64 bd) := by rw [cc _ _ (by first | omega | (simp; done) | (simp; omega))]; first | assumption | go_simp
  have l2_2 : w.heap.size + 2 < w2.heap.size := by first | omega | (simp at *; omega)
  have g2_2_0 : w2.cell? ⟨w.heap.size + 2, 0, none⟩ = some (.int .i64 cn) := by rw [cc _ _ (by first | omega | (simp; done) | (simp; omega))]; first | assumption | go_simp
  have g2_2_1 : w2.cell? ⟨w.heap.size + 2, 1, none⟩ = some (.int .i64 cd) := by rw [cc _ _ (by first | omega | (simp; done) | (simp; omega))]; first | assumption | go_simp
  clear cc zz
  clear g1_0_0 g1_0_1 g1_1_0 g1_1_1 g1_2_0 g1_2_1
  go_wp2_with fail
  refine (check_any cn cd 0 _ cn1 cn2 cd1 cd2 HC.out).mono ?_
  rintro e w3 ⟨rfl, hb3⟩
  have cc := (bcell hb3).1
  have zz := hb3.size
  try simp at zz
  have l3_0 : w.heap.size < w3.heap.size := by first | omega | (simp at *; omega)
  have g3_0_0 : w3.cell? ⟨w.heap.size, 0, none⟩ = some (.int .i64 an) := by rw [cc _ _ (by first | omega | (simp; done) | (simp; omega))]; first | assumption | go_simp
  have g3_0_1 : w3.cell? ⟨w.heap.size, 1, none⟩ = some (.int .i64 ad) := by rw [cc _ _ (by first | omega | (simp; done) | (simp; omega))]; first | assumption | go_simp
  have l3_1 : w.heap.size + 1 < w3.heap.size := by first | omega | (simp at *; omega)
  have g3_1_0 : w3.cell? ⟨w.heap.size + 1, 0, none⟩ = some (.int .i64 bn) := by rw [cc _ _ (by first | omega | (simp; done) | (simp; omega))]; first | assumption | go_simp
  have g3_1_1 : w3.cell? ⟨w.heap.size + 1, 1, none⟩ = some (.int .i64 bd) := by rw [cc _ _ (by first | omega | (simp; done) | (simp; omega))]; first | assumption | go_simp
  have l3_2 : w.heap.size + 2 < w3.heap.size := by first | omega | (simp at *; omega)
  have g3_2_0 : w3.cell? ⟨w.heap.size + 2, 0, none⟩ = some (.int .i64 cn) := by rw [cc _ _ (by first | omega | (simp; done) | (simp; omega))]; first | assumption | go_simp
  have g3_2_1 : w3.cell? ⟨w.heap.size + 2, 1, none⟩ = some (.int .i64 cd) := by rw [cc _ _ (by first | omega | (simp; done) | (simp; omega))]; first | assumption | go_simp
  clear cc zz
  clear g2_0_0 g2_0_1 g2_1_0 g2_1_1 g2_2_0 g2_2_1
  go_wp2_with fail
  have hW0 : Below w.heap.size w (w3.alloc (.cells #[.func (.func 22) #[] #[], .func (.func 23) #[] #[]] 34)) := (by repeat' (first | exact Below.refl _ _ | assumption | (with_reducible refine bdrewN ?_ _) | (with_reducible refine bdrew ?_) | (with_reducible refine bset ?_ ?_) | (with_reducible refine balloc0 ?_) | (with_reducible refine balloc ?_ ?_) | (apply btrans0; rotate_left; assumption) | (apply btrans; rotate_left; assumption) | (simp; done) | omega | (simp; omega)))
  go_loopw [45] (fun i wr => ∃ k : Nat, k ≤ 2 ∧ i = .int .i64 (k : Int) ∧ Below (w3.alloc (.cells #[.func (.func 22) #[] #[], .func (.func 23) #[] #[]] 34)).heap.size (w3.alloc (.cells #[.func (.func 22) #[] #[], .func (.func 23) #[] #[]] 34)) wr) (fun i _ => 2 - (intOf i).toNat)
  case atStart => exact ⟨0, by omega, rfl, Below.refl _ _⟩
  case round =>
    obtain ⟨k, hk, rfl, hbr⟩ := hrel
    have cc := (bcell hbr).1
    have zz := hbr.size
    simp at zz
    have lr_0 : w.heap.size < wr.heap.size := by omega
    have gr_0_0 : wr.cell? ⟨w.heap.size, 0, none⟩ = some (.int .i64 an) := by rw [cc _ _ (by simp; omega)]; first | assumption | go_simp
    have gr_0_1 : wr.cell? ⟨w.heap.size, 1, none⟩ = some (.int .i64 ad) := by rw [cc _ _ (by simp; omega)]; first | assumption | go_simp
    have lr_1 : w.heap.size + 1 < wr.heap.size := by omega
    have gr_1_0 : wr.cell? ⟨w.heap.size + 1, 0, none⟩ = some (.int .i64 bn) := by rw [cc _ _ (by simp; omega)]; first | assumption | go_simp
    have gr_1_1 : wr.cell? ⟨w.heap.size + 1, 1, none⟩ = some (.int .i64 bd) := by rw [cc _ _ (by simp; omega)]; first | assumption | go_simp
    have lr_2 : w.heap.size + 2 < wr.heap.size := by omega
    have gr_2_0 : wr.cell? ⟨w.heap.size + 2, 0, none⟩ = some (.int .i64 cn) := by rw [cc _ _ (by simp; omega)]; first | assumption | go_simp
    have gr_2_1 : wr.cell? ⟨w.heap.size + 2, 1, none⟩ = some (.int .i64 cd) := by rw [cc _ _ (by simp; omega)]; first | assumption | go_simp
    have sr_0 : wr.cell? ⟨w3.heap.size, 0, none⟩ = some (.func (.func 22) #[] #[]) := by rw [cc _ _ (by simp)]; go_simp
    have sr_1 : wr.cell? ⟨w3.heap.size, 1, none⟩ = some (.func (.func 23) #[] #[]) := by rw [cc _ _ (by simp)]; go_simp
    have l3r : w3.heap.size < wr.heap.size := by omega
    have hB : Below w.heap.size w wr := (by repeat' (first | exact Below.refl _ _ | assumption | (with_reducible refine bdrewN ?_ _) | (with_reducible refine bdrew ?_) | (with_reducible refine bset ?_ ?_) | (with_reducible refine balloc0 ?_) | (with_reducible refine balloc ?_ ?_) | (apply btrans0; rotate_left; assumption) | (apply btrans; rotate_left; assumption) | (simp; done) | omega | (simp; omega)))
    clear cc zz g3_0_0 g3_0_1 g3_1_0 g3_1_1 g3_2_0 g3_2_1
    rcases (show k = 0 ∨ k = 1 ∨ k = 2 by omega) with rfl | rfl | rfl
    · obtain ⟨⟨⟨xn, xd⟩, xe⟩, hx⟩ : ∃ x, opS add0 (an, ad) (bn, bd) = x := ⟨_, rfl⟩
      obtain ⟨⟨⟨ln, ld⟩, le⟩, hl⟩ : ∃ x, opS add0 (xn, xd) (cn, cd) = x := ⟨_, rfl⟩
      obtain ⟨⟨⟨zn, zd⟩, ze⟩, hz⟩ : ∃ x, opS add0 (bn, bd) (cn, cd) = x := ⟨_, rfl⟩
      obtain ⟨⟨⟨rn, rd⟩, re⟩, hr⟩ : ∃ x, opS add0 (an, ad) (zn, zd) = x := ⟨_, rfl⟩
      have hy := HFA.out.com
      rw [hx] at hy
      have hcode := HFA.out.code
      rw [hx] at hcode
      simp only at hcode
      have fit : xe = 0 → chk (xn, xd) = 0 := fun h => by subst h; exact (chk_iff _).2 (HFA.out.fit _ _ _ hx)
      have ass : xe = 0 → le = 0 → ze = 0 → re = 0 → ln = rn ∧ ld = rd := fun h1 h2 h3 h4 => by subst h1 h2 h3 h4; have := HFA.out.ass _ _ _ _ hx hl hz hr; simpa using this
      obtain ⟨⟨xn1, xn2⟩, xd1, xd2⟩ := opS_bd add_fin hx
      obtain ⟨⟨zn1, zn2⟩, zd1, zd2⟩ := opS_bd add_fin hz
      have HX := Lib.hid hx
      have HY := Lib.hid hy
      have HL := Lib.hid hl
      have HZ := Lib.hid hz
      have HR := Lib.hid hr
      clear hx hy hl hz hr
      rcases hcode with rfl | rfl
      · have hF := fit rfl
        have HF := Lib.hid hF
        clear hF fit
        by_cases e1 : le = 0
        · subst e1
          by_cases e2 : ze = 0
          · subst e2
            by_cases e3 : re = 0
            · subst e3
              obtain ⟨rfl, rfl⟩ := ass rfl rfl rfl rfl
              clear ass
              go_wp2_with fail
              refine (add_any an ad bn bd xn xd 0 _ an1 an2 ad1 ad2 bn1 bn2 bd1 bd2 HX.out).mono ?_
              rintro e w4 ⟨rfl, hb4⟩
              have cc := (bcell hb4).1
              have zz := hb4.size
              try simp at zz
              have l4_0 : w.heap.size < w4.heap.size := by first | omega | (simp at *; omega)
              have g4_0_0 : w4.cell? ⟨w.heap.size, 0, none⟩ = some (.int .i64 an) := by rw [cc _ _ (by first | omega | (simp; done) | (simp; omega))]; first | assumption | go_simp
              have g4_0_1 : w4.cell? ⟨w.heap.size, 1, none⟩ = some (.int .i64 ad) := by rw [cc _ _ (by first | omega | (simp; done) | (simp; omega))]; first | assumption | go_simp
              have l4_1 : w.heap.size + 1 < w4.heap.size := by first | omega | (simp at *; omega)
              have g4_1_0 : w4.cell? ⟨w.heap.size + 1, 0, none⟩ = some (.int .i64 bn) := by rw [cc _ _ (by first | omega | (simp; done) | (simp; omega))]; first | assumption | go_simp
              have g4_1_1 : w4.cell? ⟨w.heap.size + 1, 1, none⟩ = some (.int .i64 bd) := by rw [cc _ _ (by first | omega | (simp; done) | (simp; omega))]; first | assumption | go_simp
              have l4_2 : w.heap.size + 2 < w4.heap.size := by first | omega | (simp at *; omega)
              have g4_2_0 : w4.cell? ⟨w.heap.size + 2, 0, none⟩ = some (.int .i64 cn) := by rw [cc _ _ (by first | omega | (simp; done) | (simp; omega))]; first | assumption | go_simp
              have g4_2_1 : w4.cell? ⟨w.heap.size + 2, 1, none⟩ = some (.int .i64 cd) := by rw [cc _ _ (by first | omega | (simp; done) | (simp; omega))]; first | assumption | go_simp
              clear cc zz
              go_wp2_with fail
              refine (add_any bn bd an ad xn xd 0 _ bn1 bn2 bd1 bd2 an1 an2 ad1 ad2 HY.out).mono ?_
              rintro e w5 ⟨rfl, hb5⟩
              have cc := (bcell hb5).1
              have zz := hb5.size
              try simp at zz
              have l5_0 : w.heap.size < w5.heap.size := by first | omega | (simp at *; omega)
              have g5_0_0 : w5.cell? ⟨w.heap.size, 0, none⟩ = some (.int .i64 an) := by rw [cc _ _ (by first | omega | (simp; done) | (simp; omega))]; first | assumption | go_simp
              have g5_0_1 : w5.cell? ⟨w.heap.size, 1, none⟩ = some (.int .i64 ad) := by rw [cc _ _ (by first | omega | (simp; done) | (simp; omega))]; first | assumption | go_simp
              have l5_1 : w.heap.size + 1 < w5.heap.size := by first | omega | (simp at *; omega)
              have g5_1_0 : w5.cell? ⟨w.heap.size + 1, 0, none⟩ = some (.int .i64 bn) := by rw [cc _ _ (by first | omega | (simp; done) | (simp; omega))]; first | assumption | go_simp
              have g5_1_1 : w5.cell? ⟨w.heap.size + 1, 1, none⟩ = some (.int .i64 bd) := by rw [cc _ _ (by first | omega | (simp; done) | (simp; omega))]; first | assumption | go_simp
              have l5_2 : w.heap.size + 2 < w5.heap.size := by first | omega | (simp at *; omega)
              have g5_2_0 : w5.cell? ⟨w.heap.size + 2, 0, none⟩ = some (.int .i64 cn) := by rw [cc _ _ (by first | omega | (simp; done) | (simp; omega))]; first | assumption | go_simp
              have g5_2_1 : w5.cell? ⟨w.heap.size + 2, 1, none⟩ = some (.int .i64 cd) := by rw [cc _ _ (by first | omega | (simp; done) | (simp; omega))]; first | assumption | go_simp
              have l5_3 : w4.heap.size < w5.heap.size := by first | omega | (simp at *; omega)
              have g5_3_0 : w5.cell? ⟨w4.heap.size, 0, none⟩ = some (.int .i64 xn) := by rw [cc _ _ (by first | omega | (simp; done) | (simp; omega))]; first | assumption | go_simp
              have g5_3_1 : w5.cell? ⟨w4.heap.size, 1, none⟩ = some (.int .i64 xd) := by rw [cc _ _ (by first | omega | (simp; done) | (simp; omega))]; first | assumption | go_simp
              clear cc zz
              clear g4_0_0 g4_0_1 g4_1_0 g4_1_1 g4_2_0 g4_2_1
              go_wp2_with fail
              refine (check_any xn xd 0 _ xn1 xn2 xd1 xd2 HF.out).mono ?_
              rintro e w6 ⟨rfl, hb6⟩
              have cc := (bcell hb6).1
              have zz := hb6.size
              try simp at zz
              have l6_0 : w.heap.size < w6.heap.size := by first | omega | (simp at *; omega)
              have g6_0_0 : w6.cell? ⟨w.heap.size, 0, none⟩ = some (.int .i64 an) := by rw [cc _ _ (by first | omega | (simp; done) | (simp; omega))]; first | assumption | go_simp
              have g6_0_1 : w6.cell? ⟨w.heap.size, 1, none⟩ = some (.int .i64 ad) := by rw [cc _ _ (by first | omega | (simp; done) | (simp; omega))]; first | assumption | go_simp
              have l6_1 : w.heap.size + 1 < w6.heap.size := by first | omega | (simp at *; omega)
              have g6_1_0 : w6.cell? ⟨w.heap.size + 1, 0, none⟩ = some (.int .i64 bn) := by rw [cc _ _ (by first | omega | (simp; done) | (simp; omega))]; first | assumption | go_simp
              have g6_1_1 : w6.cell? ⟨w.heap.size + 1, 1, none⟩ = some (.int .i64 bd) := by rw [cc _ _ (by first | omega | (simp; done) | (simp; omega))]; first | assumption | go_simp
              have l6_2 : w.heap.size + 2 < w6.heap.size := by first | omega | (simp at *; omega)
              have g6_2_0 : w6.cell? ⟨w.heap.size + 2, 0, none⟩ = some (.int .i64 cn) := by rw [cc _ _ (by first | omega | (simp; done) | (simp; omega))]; first | assumption | go_simp
              have g6_2_1 : w6.cell? ⟨w.heap.size + 2, 1, none⟩ = some (.int .i64 cd) := by rw [cc _ _ (by first | omega | (simp; done) | (simp; omega))]; first | assumption | go_simp
              have l6_3 : w4.heap.size < w6.heap.size := by first | omega | (simp at *; omega)
              have g6_3_0 : w6.cell? ⟨w4.heap.size, 0, none⟩ = some (.int .i64 xn) := by rw [cc _ _ (by first | omega | (simp; done) | (simp; omega))]; first | assumption | go_simp
              have g6_3_1 : w6.cell? ⟨w4.heap.size, 1, none⟩ = some (.int .i64 xd) := by rw [cc _ _ (by first | omega | (simp; done) | (simp; omega))]; first | assumption | go_simp
              have l6_4 : w5.heap.size < w6.heap.size := by first | omega | (simp at *; omega)
              have g6_4_0 : w6.cell? ⟨w5.heap.size, 0, none⟩ = some (.int .i64 xn) := by rw [cc _ _ (by first | omega | (simp; done) | (simp; omega))]; first | assumption | go_simp
              have g6_4_1 : w6.cell? ⟨w5.heap.size, 1, none⟩ = some (.int .i64 xd) := by rw [cc _ _ (by first | omega | (simp; done) | (simp; omega))]; first | assumption | go_simp
              clear cc zz
              clear g5_0_0 g5_0_1 g5_1_0 g5_1_1 g5_2_0 g5_2_1 g5_3_0 g5_3_1
              go_wp2_with fail
              refine (add_any xn xd cn cd ln ld 0 _ xn1 xn2 xd1 xd2 cn1 cn2 cd1 cd2 HL.out).mono ?_
              rintro e w7 ⟨rfl, hb7⟩
              have cc := (bcell hb7).1
              have zz := hb7.size
              try simp at zz
              have l7_0 : w.heap.size < w7.heap.size := by first | omega | (simp at *; omega)
              have g7_0_0 : w7.cell? ⟨w.heap.size, 0, none⟩ = some (.int .i64 an) := by rw [cc _ _ (by first | omega | (simp; done) | (simp; omega))]; first | assumption | go_simp
              have g7_0_1 : w7.cell? ⟨w.heap.size, 1, none⟩ = some (.int .i64 ad) := by rw [cc _ _ (by first | omega | (simp; done) | (simp; omega))]; first | assumption | go_simp
              have l7_1 : w.heap.size + 1 < w7.heap.size := by first | omega | (simp at *; omega)
              have g7_1_0 : w7.cell? ⟨w.heap.size + 1, 0, none⟩ = some (.int .i64 bn) := by rw [cc _ _ (by first | omega | (simp; done) | (simp; omega))]; first | assumption | go_simp
              have g7_1_1 : w7.cell? ⟨w.heap.size + 1, 1, none⟩ = some (.int .i64 bd) := by rw [cc _ _ (by first | omega | (simp; done) | (simp; omega))]; first | assumption | go_simp
              have l7_2 : w.heap.size + 2 < w7.heap.size := by first | omega | (simp at *; omega)
              have g7_2_0 : w7.cell? ⟨w.heap.size + 2, 0, none⟩ = some (.int .i64 cn) := by rw [cc _ _ (by first | omega | (simp; done) | (simp; omega))]; first | assumption | go_simp
              have g7_2_1 : w7.cell? ⟨w.heap.size + 2, 1, none⟩ = some (.int .i64 cd) := by rw [cc _ _ (by first | omega | (simp; done) | (simp; omega))]; first | assumption | go_simp
              have l7_3 : w4.heap.size < w7.heap.size := by first | omega | (simp at *; omega)
              have g7_3_0 : w7.cell? ⟨w4.heap.size, 0, none⟩ = some (.int .i64 xn) := by rw [cc _ _ (by first | omega | (simp; done) | (simp; omega))]; first | assumption | go_simp
              have g7_3_1 : w7.cell? ⟨w4.heap.size, 1, none⟩ = some (.int .i64 xd) := by rw [cc _ _ (by first | omega | (simp; done) | (simp; omega))]; first | assumption | go_simp
              have l7_4 : w5.heap.size < w7.heap.size := by first | omega | (simp at *; omega)
              have g7_4_0 : w7.cell? ⟨w5.heap.size, 0, none⟩ = some (.int .i64 xn) := by rw [cc _ _ (by first | omega | (simp; done) | (simp; omega))]; first | assumption | go_simp
              have g7_4_1 : w7.cell? ⟨w5.heap.size, 1, none⟩ = some (.int .i64 xd) := by rw [cc _ _ (by first | omega | (simp; done) | (simp; omega))]; first | assumption | go_simp
              clear cc zz
              clear g6_0_0 g6_0_1 g6_1_0 g6_1_1 g6_2_0 g6_2_1 g6_3_0 g6_3_1 g6_4_0 g6_4_1
              go_wp2_with fail
              refine (add_any bn bd cn cd zn zd 0 _ bn1 bn2 bd1 bd2 cn1 cn2 cd1 cd2 HZ.out).mono ?_
              rintro e w8 ⟨rfl, hb8⟩
              have cc := (bcell hb8).1
              have zz := hb8.size
              try simp at zz
              have l8_0 : w.heap.size < w8.heap.size := by first | omega | (simp at *; omega)
              have g8_0_0 : w8.cell? ⟨w.heap.size, 0, none⟩ = some (.int .i64 an) := by rw [cc _ _ (by first | omega | (simp; done) | (simp; omega))]; first | assumption | go_simp
              have g8_0_1 : w8.cell? ⟨w.heap.size, 1, none⟩ = some (.int .i64 ad) := by rw [cc _ _ (by first | omega | (simp; done) | (simp; omega))]; first | assumption | go_simp
              have l8_1 : w.heap.size + 1 < w8.heap.size := by first | omega | (simp at *; omega)
              have g8_1_0 : w8.cell? ⟨w.heap.size + 1, 0, none⟩ = some (.int .i64 bn) := by rw [cc _ _ (by first | omega | (simp; done) | (simp; omega))]; first | assumption | go_simp
              have g8_1_1 : w8.cell? ⟨w.heap.size + 1, 1, none⟩ = some (.int .i64 bd) := by rw [cc _ _ (by first | omega | (simp; done) | (simp; omega))]; first | assumption | go_simp
              have l8_2 : w.heap.size + 2 < w8.heap.size := by first | omega | (simp at *; omega)
              have g8_2_0 : w8.cell? ⟨w.heap.size + 2, 0, none⟩ = some (.int .i64 cn) := by rw [cc _ _ (by first | omega | (simp; done) | (simp; omega))]; first | assumption | go_simp
              have g8_2_1 : w8.cell? ⟨w.heap.size + 2, 1, none⟩ = some (.int .i64 cd) := by rw [cc _ _ (by first | omega | (simp; done) | (simp; omega))]; first | assumption | go_simp
              have l8_3 : w4.heap.size < w8.heap.size := by first | omega | (simp at *; omega)
              have g8_3_0 : w8.cell? ⟨w4.heap.size, 0, none⟩ = some (.int .i64 xn) := by rw [cc _ _ (by first | omega | (simp; done) | (simp; omega))]; first | assumption | go_simp
              have g8_3_1 : w8.cell? ⟨w4.heap.size, 1, none⟩ = some (.int .i64 xd) := by rw [cc _ _ (by first | omega | (simp; done) | (simp; omega))]; first | assumption | go_simp
              have l8_4 : w5.heap.size < w8.heap.size := by first | omega | (simp at *; omega)
              have g8_4_0 : w8.cell? ⟨w5.heap.size, 0, none⟩ = some (.int .i64 xn) := by rw [cc _ _ (by first | omega | (simp; done) | (simp; omega))]; first | assumption | go_simp
              have g8_4_1 : w8.cell? ⟨w5.heap.size, 1, none⟩ = some (.int .i64 xd) := by rw [cc _ _ (by first | omega | (simp; done) | (simp; omega))]; first | assumption | go_simp
              have l8_5 : w7.heap.size < w8.heap.size := by first | omega | (simp at *; omega)
              have g8_5_0 : w8.cell? ⟨w7.heap.size, 0, none⟩ = some (.int .i64 ln) := by rw [cc _ _ (by first | omega | (simp; done) | (simp; omega))]; first | assumption | go_simp
              have g8_5_1 : w8.cell? ⟨w7.heap.size, 1, none⟩ = some (.int .i64 ld) := by rw [cc _ _ (by first | omega | (simp; done) | (simp; omega))]; first | assumption | go_simp
              clear cc zz
              clear g7_0_0 g7_0_1 g7_1_0 g7_1_1 g7_2_0 g7_2_1 g7_3_0 g7_3_1 g7_4_0 g7_4_1
              go_wp2_with fail
              refine (add_any an ad zn zd ln ld 0 _ an1 an2 ad1 ad2 zn1 zn2 zd1 zd2 HR.out).mono ?_
              rintro e w9 ⟨rfl, hb9⟩
              have cc := (bcell hb9).1
              have zz := hb9.size
              try simp at zz
              have l9_0 : w.heap.size < w9.heap.size := by first | omega | (simp at *; omega)
              have g9_0_0 : w9.cell? ⟨w.heap.size, 0, none⟩ = some (.int .i64 an) := by rw [cc _ _ (by first | omega | (simp; done) | (simp; omega))]; first | assumption | go_simp
              have g9_0_1 : w9.cell? ⟨w.heap.size, 1, none⟩ = some (.int .i64 ad) := by rw [cc _ _ (by first | omega | (simp; done) | (simp; omega))]; first | assumption | go_simp
              have l9_1 : w.heap.size + 1 < w9.heap.size := by first | omega | (simp at *; omega)
              have g9_1_0 : w9.cell? ⟨w.heap.size + 1, 0, none⟩ = some (.int .i64 bn) := by rw [cc _ _ (by first | omega | (simp; done) | (simp; omega))]; first | assumption | go_simp
              have g9_1_1 : w9.cell? ⟨w.heap.size + 1, 1, none⟩ = some (.int .i64 bd) := by rw [cc _ _ (by first | omega | (simp; done) | (simp; omega))]; first | assumption | go_simp
              have l9_2 : w.heap.size + 2 < w9.heap.size := by first | omega | (simp at *; omega)
              have g9_2_0 : w9.cell? ⟨w.heap.size + 2, 0, none⟩ = some (.int .i64 cn) := by rw [cc _ _ (by first | omega | (simp; done) | (simp; omega))]; first | assumption | go_simp
              have g9_2_1 : w9.cell? ⟨w.heap.size + 2, 1, none⟩ = some (.int .i64 cd) := by rw [cc _ _ (by first | omega | (simp; done) | (simp; omega))]; first | assumption | go_simp
              have l9_3 : w4.heap.size < w9.heap.size := by first | omega | (simp at *; omega)
              have g9_3_0 : w9.cell? ⟨w4.heap.size, 0, none⟩ = some (.int .i64 xn) := by rw [cc _ _ (by first | omega | (simp; done) | (simp; omega))]; first | assumption | go_simp
              have g9_3_1 : w9.cell? ⟨w4.heap.size, 1, none⟩ = some (.int .i64 xd) := by rw [cc _ _ (by first | omega | (simp; done) | (simp; omega))]; first | assumption | go_simp
              have l9_4 : w5.heap.size < w9.heap.size := by first | omega | (simp at *; omega)
              have g9_4_0 : w9.cell? ⟨w5.heap.size, 0, none⟩ = some (.int .i64 xn) := by rw [cc _ _ (by first | omega | (simp; done) | (simp; omega))]; first | assumption | go_simp
              have g9_4_1 : w9.cell? ⟨w5.heap.size, 1, none⟩ = some (.int .i64 xd) := by rw [cc _ _ (by first | omega | (simp; done) | (simp; omega))]; first | assumption | go_simp
              have l9_5 : w7.heap.size < w9.heap.size := by first | omega | (simp at *; omega)
              have g9_5_0 : w9.cell? ⟨w7.heap.size, 0, none⟩ = some (.int .i64 ln) := by rw [cc _ _ (by first | omega | (simp; done) | (simp; omega))]; first | assumption | go_simp
              have g9_5_1 : w9.cell? ⟨w7.heap.size, 1, none⟩ = some (.int .i64 ld) := by rw [cc _ _ (by first | omega | (simp; done) | (simp; omega))]; first | assumption | go_simp
              have l9_6 : w8.heap.size < w9.heap.size := by first | omega | (simp at *; omega)
              have g9_6_0 : w9.cell? ⟨w8.heap.size, 0, none⟩ = some (.int .i64 zn) := by rw [cc _ _ (by first | omega | (simp; done) | (simp; omega))]; first | assumption | go_simp
              have g9_6_1 : w9.cell? ⟨w8.heap.size, 1, none⟩ = some (.int .i64 zd) := by rw [cc _ _ (by first | omega | (simp; done) | (simp; omega))]; first | assumption | go_simp
              clear cc zz
              clear g8_0_0 g8_0_1 g8_1_0 g8_1_1 g8_2_0 g8_2_1 g8_3_0 g8_3_1 g8_4_0 g8_4_1 g8_5_0 g8_5_1
              go_wp2
              go_roundw
              case rel => exact ⟨1, by omega, rfl, (by repeat' (first | exact Below.refl _ _ | assumption | (with_reducible refine bdrewN ?_ _) | (with_reducible refine bdrew ?_) | (with_reducible refine bset ?_ ?_) | (with_reducible refine balloc0 ?_) | (with_reducible refine balloc ?_ ?_) | (apply btrans0; rotate_left; assumption) | (apply btrans; rotate_left; assumption) | (simp; done) | omega | (simp; omega)))⟩
              case measure => simp [intOf]
            · have e3' : (re == 0) = false := by simpa using e3
              clear ass e3
              go_wp2_with fail
              refine (add_any an ad bn bd xn xd 0 _ an1 an2 ad1 ad2 bn1 bn2 bd1 bd2 HX.out).mono ?_
              rintro e w4 ⟨rfl, hb4⟩
              have cc := (bcell hb4).1
              have zz := hb4.size
              try simp at zz
              have l4_0 : w.heap.size < w4.heap.size := by first | omega | (simp at *; omega)
              have g4_0_0 : w4.cell? ⟨w.heap.size, 0, none⟩ = some (.int .i64 an) := by rw [cc _ _ (by first | omega | (simp; done) | (simp; omega))]; first | assumption | go_simp
              have g4_0_1 : w4.cell? ⟨w.heap.size, 1, none⟩ = some (.int .i64 ad) := by rw [cc _ _ (by first | omega | (simp; done) | (simp; omega))]; first | assumption | go_simp
              have l4_1 : w.heap.size + 1 < w4.heap.size := by first | omega | (simp at *; omega)
              have g4_1_0 : w4.cell? ⟨w.heap.size + 1, 0, none⟩ = some (.int .i64 bn) := by rw [cc _ _ (by first | omega | (simp; done) | (simp; omega))]; first | assumption | go_simp
              have g4_1_1 : w4.cell? ⟨w.heap.size + 1, 1, none⟩ = some (.int .i64 bd) := by rw [cc _ _ (by first | omega | (simp; done) | (simp; omega))]; first | assumption | go_simp
              have l4_2 : w.heap.size + 2 < w4.heap.size := by first | omega | (simp at *; omega)
              have g4_2_0 : w4.cell? ⟨w.heap.size + 2, 0, none⟩ = some (.int .i64 cn) := by rw [cc _ _ (by first | omega | (simp; done) | (simp; omega))]; first | assumption | go_simp
              have g4_2_1 : w4.cell? ⟨w.heap.size + 2, 1, none⟩ = some (.int .i64 cd) := by rw [cc _ _ (by first | omega | (simp; done) | (simp; omega))]; first | assumption | go_simp
              clear cc zz
              go_wp2_with fail
              refine (add_any bn bd an ad xn xd 0 _ bn1 bn2 bd1 bd2 an1 an2 ad1 ad2 HY.out).mono ?_
              rintro e w5 ⟨rfl, hb5⟩
              have cc := (bcell hb5).1
              have zz := hb5.size
              try simp at zz
              have l5_0 : w.heap.size < w5.heap.size := by first | omega | (simp at *; omega)
              have g5_0_0 : w5.cell? ⟨w.heap.size, 0, none⟩ = some (.int .i64 an) := by rw [cc _ _ (by first | omega | (simp; done) | (simp; omega))]; first | assumption | go_simp
              have g5_0_1 : w5.cell? ⟨w.heap.size, 1, none⟩ = some (.int .i64 ad) := by rw [cc _ _ (by first | omega | (simp; done) | (simp; omega))]; first | assumption | go_simp
              have l5_1 : w.heap.size + 1 < w5.heap.size := by first | omega | (simp at *; omega)
              have g5_1_0 : w5.cell? ⟨w.heap.size + 1, 0, none⟩ = some (.int .i64 bn) := by rw [cc _ _ (by first | omega | (simp; done) | (simp; omega))]; first | assumption | go_simp
              have g5_1_1 : w5.cell? ⟨w.heap.size + 1, 1, none⟩ = some (.int .i64 bd) := by rw [cc _ _ (by first | omega | (simp; done) | (simp; omega))]; first | assumption | go_simp
              have l5_2 : w.heap.size + 2 < w5.heap.size := by first | omega | (simp at *; omega)
              have g5_2_0 : w5.cell? ⟨w.heap.size + 2, 0, none⟩ = some (.int .i64 cn) := by rw [cc _ _ (by first | omega | (simp; done) | (simp; omega))]; first | assumption | go_simp
              have g5_2_1 : w5.cell? ⟨w.heap.size + 2, 1, none⟩ = some (.int .i64 cd) := by rw [cc _ _ (by first | omega | (simp; done) | (simp; omega))]; first | assumption | go_simp
              have l5_3 : w4.heap.size < w5.heap.size := by first | omega | (simp at *; omega)
              have g5_3_0 : w5.cell? ⟨w4.heap.size, 0, none⟩ = some (.int .i64 xn) := by rw [cc _ _ (by first | omega | (simp; done) | (simp; omega))]; first | assumption | go_simp
              have g5_3_1 : w5.cell? ⟨w4.heap.size, 1, none⟩ = some (.int .i64 xd) := by rw [cc _ _ (by first | omega | (simp; done) | (simp; omega))]; first | assumption | go_simp
              clear cc zz
              clear g4_0_0 g4_0_1 g4_1_0 g4_1_1 g4_2_0 g4_2_1
              go_wp2_with fail
              refine (check_any xn xd 0 _ xn1 xn2 xd1 xd2 HF.out).mono ?_
              rintro e w6 ⟨rfl, hb6⟩
              have cc := (bcell hb6).1
              have zz := hb6.size
              try simp at zz
              have l6_0 : w.heap.size < w6.heap.size := by first | omega | (simp at *; omega)
              have g6_0_0 : w6.cell? ⟨w.heap.size, 0, none⟩ = some (.int .i64 an) := by rw [cc _ _ (by first | omega | (simp; done) | (simp; omega))]; first | assumption | go_simp
              have g6_0_1 : w6.cell? ⟨w.heap.size, 1, none⟩ = some (.int .i64 ad) := by rw [cc _ _ (by first | omega | (simp; done) | (simp; omega))]; first | assumption | go_simp
              have l6_1 : w.heap.size + 1 < w6.heap.size := by first | omega | (simp at *; omega)
              have g6_1_0 : w6.cell? ⟨w.heap.size + 1, 0, none⟩ = some (.int .i64 bn) := by rw [cc _ _ (by first | omega | (simp; done) | (simp; omega))]; first | assumption | go_simp
              have g6_1_1 : w6.cell? ⟨w.heap.size + 1, 1, none⟩ = some (.int .i64 bd) := by rw [cc _ _ (by first | omega | (simp; done) | (simp; omega))]; first | assumption | go_simp
              have l6_2 : w.heap.size + 2 < w6.heap.size := by first | omega | (simp at *; omega)
              have g6_2_0 : w6.cell? ⟨w.heap.size + 2, 0, none⟩ = some (.int .i64 cn) := by rw [cc _ _ (by first | omega | (simp; done) | (simp; omega))]; first | assumption | go_simp
              have g6_2_1 : w6.cell? ⟨w.heap.size + 2, 1, none⟩ = some (.int .i64 cd) := by rw [cc _ _ (by first | omega | (simp; done) | (simp; omega))]; first | assumption | go_simp
              have l6_3 : w4.heap.size < w6.heap.size := by first | omega | (simp at *; omega)
              have g6_3_0 : w6.cell? ⟨w4.heap.size, 0, none⟩ = some (.int .i64 xn) := by rw [cc _ _ (by first | omega | (simp; done) | (simp; omega))]; first | assumption | go_simp
              have g6_3_1 : w6.cell? ⟨w4.heap.size, 1, none⟩ = some (.int .i64 xd) := by rw [cc _ _ (by first | omega | (simp; done) | (simp; omega))]; first | assumption | go_simp
              have l6_4 : w5.heap.size < w6.heap.size := by first | omega | (simp at *; omega)
              have g6_4_0 : w6.cell? ⟨w5.heap.size, 0, none⟩ = some (.int .i64 xn) := by rw [cc _ _ (by first | omega | (simp; done) | (simp; omega))]; first | assumption | go_simp
              have g6_4_1 : w6.cell? ⟨w5.heap.size, 1, none⟩ = some (.int .i64 xd) := by rw [cc _ _ (by first | omega | (simp; done) | (simp; omega))]; first | assumption | go_simp
              clear cc zz
              clear g5_0_0 g5_0_1 g5_1_0 g5_1_1 g5_2_0 g5_2_1 g5_3_0 g5_3_1
              go_wp2_with fail
              refine (add_any xn xd cn cd ln ld 0 _ xn1 xn2 xd1 xd2 cn1 cn2 cd1 cd2 HL.out).mono ?_
              rintro e w7 ⟨rfl, hb7⟩
              have cc := (bcell hb7).1
              have zz := hb7.size
              try simp at zz
              have l7_0 : w.heap.size < w7.heap.size := by first | omega | (simp at *; omega)
              have g7_0_0 : w7.cell? ⟨w.heap.size, 0, none⟩ = some (.int .i64 an) := by rw [cc _ _ (by first | omega | (simp; done) | (simp; omega))]; first | assumption | go_simp
              have g7_0_1 : w7.cell? ⟨w.heap.size, 1, none⟩ = some (.int .i64 ad) := by rw [cc _ _ (by first | omega | (simp; done) | (simp; omega))]; first | assumption | go_simp
              have l7_1 : w.heap.size + 1 < w7.heap.size := by first | omega | (simp at *; omega)
              have g7_1_0 : w7.cell? ⟨w.heap.size + 1, 0, none⟩ = some (.int .i64 bn) := by rw [cc _ _ (by first | omega | (simp; done) | (simp; omega))]; first | assumption | go_simp
              have g7_1_1 : w7.cell? ⟨w.heap.size + 1, 1, none⟩ = some (.int .i64 bd) := by rw [cc _ _ (by first | omega | (simp; done) | (simp; omega))]; first | assumption | go_simp
              have l7_2 : w.heap.size + 2 < w7.heap.size := by first | omega | (simp at *; omega)
              have g7_2_0 : w7.cell? ⟨w.heap.size + 2, 0, none⟩ = some (.int .i64 cn) := by rw [cc _ _ (by first | omega | (simp; done) | (simp; omega))]; first | assumption | go_simp
              have g7_2_1 : w7.cell? ⟨w.heap.size + 2, 1, none⟩ = some (.int .i64 cd) := by rw [cc _ _ (by first | omega | (simp; done) | (simp; omega))]; first | assumption | go_simp
              have l7_3 : w4.heap.size < w7.heap.size := by first | omega | (simp at *; omega)
              have g7_3_0 : w7.cell? ⟨w4.heap.size, 0, none⟩ = some (.int .i64 xn) := by rw [cc _ _ (by first | omega | (simp; done) | (simp; omega))]; first | assumption | go_simp
              have g7_3_1 : w7.cell? ⟨w4.heap.size, 1, none⟩ = some (.int .i64 xd) := by rw [cc _ _ (by first | omega | (simp; done) | (simp; omega))]; first | assumption | go_simp
              have l7_4 : w5.heap.size < w7.heap.size := by first | omega | (simp at *; omega)
              have g7_4_0 : w7.cell? ⟨w5.heap.size, 0, none⟩ = some (.int .i64 xn) := by rw [cc _ _ (by first | omega | (simp; done) | (simp; omega))]; first | assumption | go_simp
              have g7_4_1 : w7.cell? ⟨w5.heap.size, 1, none⟩ = some (.int .i64 xd) := by rw [cc _ _ (by first | omega | (simp; done) | (simp; omega))]; first | assumption | go_simp
              clear cc zz
              clear g6_0_0 g6_0_1 g6_1_0 g6_1_1 g6_2_0 g6_2_1 g6_3_0 g6_3_1 g6_4_0 g6_4_1
              go_wp2_with fail
              refine (add_any bn bd cn cd zn zd 0 _ bn1 bn2 bd1 bd2 cn1 cn2 cd1 cd2 HZ.out).mono ?_
              rintro e w8 ⟨rfl, hb8⟩
              have cc := (bcell hb8).1
              have zz := hb8.size
              try simp at zz
              have l8_0 : w.heap.size < w8.heap.size := by first | omega | (simp at *; omega)
              have g8_0_0 : w8.cell? ⟨w.heap.size, 0, none⟩ = some (.int .i64 an) := by rw [cc _ _ (by first | omega | (simp; done) | (simp; omega))]; first | assumption | go_simp
              have g8_0_1 : w8.cell? ⟨w.heap.size, 1, none⟩ = some (.int .i64 ad) := by rw [cc _ _ (by first | omega | (simp; done) | (simp; omega))]; first | assumption | go_simp
              have l8_1 : w.heap.size + 1 < w8.heap.size := by first | omega | (simp at *; omega)
              have g8_1_0 : w8.cell? ⟨w.heap.size + 1, 0, none⟩ = some (.int .i64 bn) := by rw [cc _ _ (by first | omega | (simp; done) | (simp; omega))]; first | assumption | go_simp
              have g8_1_1 : w8.cell? ⟨w.heap.size + 1, 1, none⟩ = some (.int .i64 bd) := by rw [cc _ _ (by first | omega | (simp; done) | (simp; omega))]; first | assumption | go_simp
              have l8_2 : w.heap.size + 2 < w8.heap.size := by first | omega | (simp at *; omega)
              have g8_2_0 : w8.cell? ⟨w.heap.size + 2, 0, none⟩ = some (.int .i64 cn) := by rw [cc _ _ (by first | omega | (simp; done) | (simp; omega))]; first | assumption | go_simp
              have g8_2_1 : w8.cell? ⟨w.heap.size + 2, 1, none⟩ = some (.int .i64 cd) := by rw [cc _ _ (by first | omega | (simp; done) | (simp; omega))]; first | assumption | go_simp
              have l8_3 : w4.heap.size < w8.heap.size := by first | omega | (simp at *; omega)
              have g8_3_0 : w8.cell? ⟨w4.heap.size, 0, none⟩ = some (.int .i64 xn) := by rw [cc _ _ (by first | omega | (simp; done) | (simp; omega))]; first | assumption | go_simp
              have g8_3_1 : w8.cell? ⟨w4.heap.size, 1, none⟩ = some (.int .i64 xd) := by rw [cc _ _ (by first | omega | (simp; done) | (simp; omega))]; first | assumption | go_simp
              have l8_4 : w5.heap.size < w8.heap.size := by first | omega | (simp at *; omega)
              have g8_4_0 : w8.cell? ⟨w5.heap.size, 0, none⟩ = some (.int .i64 xn) := by rw [cc _ _ (by first | omega | (simp; done) | (simp; omega))]; first | assumption | go_simp
              have g8_4_1 : w8.cell? ⟨w5.heap.size, 1, none⟩ = some (.int .i64 xd) := by rw [cc _ _ (by first | omega | (simp; done) | (simp; omega))]; first | assumption | go_simp
              have l8_5 : w7.heap.size < w8.heap.size := by first | omega | (simp at *; omega)
              have g8_5_0 : w8.cell? ⟨w7.heap.size, 0, none⟩ = some (.int .i64 ln) := by rw [cc _ _ (by first | omega | (simp; done) | (simp; omega))]; first | assumption | go_simp
              have g8_5_1 : w8.cell? ⟨w7.heap.size, 1, none⟩ = some (.int .i64 ld) := by rw [cc _ _ (by first | omega | (simp; done) | (simp; omega))]; first | assumption | go_simp
              clear cc zz
              clear g7_0_0 g7_0_1 g7_1_0 g7_1_1 g7_2_0 g7_2_1 g7_3_0 g7_3_1 g7_4_0 g7_4_1
              go_wp2_with fail
              refine (add_any an ad zn zd rn rd re _ an1 an2 ad1 ad2 zn1 zn2 zd1 zd2 HR.out).mono ?_
              rintro e w9 ⟨rfl, hb9⟩
              have cc := (bcell hb9).1
              have zz := hb9.size
              try simp at zz
              have l9_0 : w.heap.size < w9.heap.size := by first | omega | (simp at *; omega)
              have g9_0_0 : w9.cell? ⟨w.heap.size, 0, none⟩ = some (.int .i64 an) := by rw [cc _ _ (by first | omega | (simp; done) | (simp; omega))]; first | assumption | go_simp
              have g9_0_1 : w9.cell? ⟨w.heap.size, 1, none⟩ = some (.int .i64 ad) := by rw [cc _ _ (by first | omega | (simp; done) | (simp; omega))]; first | assumption | go_simp
              have l9_1 : w.heap.size + 1 < w9.heap.size := by first | omega | (simp at *; omega)
              have g9_1_0 : w9.cell? ⟨w.heap.size + 1, 0, none⟩ = some (.int .i64 bn) := by rw [cc _ _ (by first | omega | (simp; done) | (simp; omega))]; first | assumption | go_simp
              have g9_1_1 : w9.cell? ⟨w.heap.size + 1, 1, none⟩ = some (.int .i64 bd) := by rw [cc _ _ (by first | omega | (simp; done) | (simp; omega))]; first | assumption | go_simp
              have l9_2 : w.heap.size + 2 < w9.heap.size := by first | omega | (simp at *; omega)
              have g9_2_0 : w9.cell? ⟨w.heap.size + 2, 0, none⟩ = some (.int .i64 cn) := by rw [cc _ _ (by first | omega | (simp; done) | (simp; omega))]; first | assumption | go_simp
              have g9_2_1 : w9.cell? ⟨w.heap.size + 2, 1, none⟩ = some (.int .i64 cd) := by rw [cc _ _ (by first | omega | (simp; done) | (simp; omega))]; first | assumption | go_simp
              have l9_3 : w4.heap.size < w9.heap.size := by first | omega | (simp at *; omega)
              have g9_3_0 : w9.cell? ⟨w4.heap.size, 0, none⟩ = some (.int .i64 xn) := by rw [cc _ _ (by first | omega | (simp; done) | (simp; omega))]; first | assumption | go_simp
              have g9_3_1 : w9.cell? ⟨w4.heap.size, 1, none⟩ = some (.int .i64 xd) := by rw [cc _ _ (by first | omega | (simp; done) | (simp; omega))]; first | assumption | go_simp
              have l9_4 : w5.heap.size < w9.heap.size := by first | omega | (simp at *; omega)
              have g9_4_0 : w9.cell? ⟨w5.heap.size, 0, none⟩ = some (.int .i64 xn) := by rw [cc _ _ (by first | omega | (simp; done) | (simp; omega))]; first | assumption | go_simp
              have g9_4_1 : w9.cell? ⟨w5.heap.size, 1, none⟩ = some (.int .i64 xd) := by rw [cc _ _ (by first | omega | (simp; done) | (simp; omega))]; first | assumption | go_simp
              have l9_5 : w7.heap.size < w9.heap.size := by first | omega | (simp at *; omega)
              have g9_5_0 : w9.cell? ⟨w7.heap.size, 0, none⟩ = some (.int .i64 ln) := by rw [cc _ _ (by first | omega | (simp; done) | (simp; omega))]; first | assumption | go_simp
              have g9_5_1 : w9.cell? ⟨w7.heap.size, 1, none⟩ = some (.int .i64 ld) := by rw [cc _ _ (by first | omega | (simp; done) | (simp; omega))]; first | assumption | go_simp
              have l9_6 : w8.heap.size < w9.heap.size := by first | omega | (simp at *; omega)
              have g9_6_0 : w9.cell? ⟨w8.heap.size, 0, none⟩ = some (.int .i64 zn) := by rw [cc _ _ (by first | omega | (simp; done) | (simp; omega))]; first | assumption | go_simp
              have g9_6_1 : w9.cell? ⟨w8.heap.size, 1, none⟩ = some (.int .i64 zd) := by rw [cc _ _ (by first | omega | (simp; done) | (simp; omega))]; first | assumption | go_simp
              clear cc zz
              clear g8_0_0 g8_0_1 g8_1_0 g8_1_1 g8_2_0 g8_2_1 g8_3_0 g8_3_1 g8_4_0 g8_4_1 g8_5_0 g8_5_1
              go_wp2
              go_roundw
              case rel => exact ⟨1, by omega, rfl, (by repeat' (first | exact Below.refl _ _ | assumption | (with_reducible refine bdrewN ?_ _) | (with_reducible refine bdrew ?_) | (with_reducible refine bset ?_ ?_) | (with_reducible refine balloc0 ?_) | (with_reducible refine balloc ?_ ?_) | (apply btrans0; rotate_left; assumption) | (apply btrans; rotate_left; assumption) | (simp; done) | omega | (simp; omega)))⟩
              case measure => simp [intOf]
          · have e2' : (ze == 0) = false := by simpa using e2
            clear ass e2
            go_wp2_with fail
            refine (add_any an ad bn bd xn xd 0 _ an1 an2 ad1 ad2 bn1 bn2 bd1 bd2 HX.out).mono ?_
            rintro e w4 ⟨rfl, hb4⟩
            have cc := (bcell hb4).1
            have zz := hb4.size
            try simp at zz
            have l4_0 : w.heap.size < w4.heap.size := by first | omega | (simp at *; omega)
            have g4_0_0 : w4.cell? ⟨w.heap.size, 0, none⟩ = some (.int .i64 an) := by rw [cc _ _ (by first | omega | (simp; done) | (simp; omega))]; first | assumption | go_simp
            have g4_0_1 : w4.cell? ⟨w.heap.size, 1, none⟩ = some (.int .i64 ad) := by rw [cc _ _ (by first | omega | (simp; done) | (simp; omega))]; first | assumption | go_simp
            have l4_1 : w.heap.size + 1 < w4.heap.size := by first | omega | (simp at *; omega)
            have g4_1_0 : w4.cell? ⟨w.heap.size + 1, 0, none⟩ = some (.int .i64 bn) := by rw [cc _ _ (by first | omega | (simp; done) | (simp; omega))]; first | assumption | go_simp
            have g4_1_1 : w4.cell? ⟨w.heap.size + 1, 1, none⟩ = some (.int .i64 bd) := by rw [cc _ _ (by first | omega | (simp; done) | (simp; omega))]; first | assumption | go_simp
            have l4_2 : w.heap.size + 2 < w4.heap.size := by first | omega | (simp at *; omega)
            have g4_2_0 : w4.cell? ⟨w.heap.size + 2, 0, none⟩ = some (.int .i64 cn) := by rw [cc _ _ (by first | omega | (simp; done) | (simp; omega))]; first | assumption | go_simp
            have g4_2_1 : w4.cell? ⟨w.heap.size + 2, 1, none⟩ = some (.int .i64 cd) := by rw [cc _ _ (by first | omega | (simp; done) | (simp; omega))]; first | assumption | go_simp
            clear cc zz
            go_wp2_with fail
            refine (add_any bn bd an ad xn xd 0 _ bn1 bn2 bd1 bd2 an1 an2 ad1 ad2 HY.out).mono ?_
            rintro e w5 ⟨rfl, hb5⟩
            have cc := (bcell hb5).1
            have zz := hb5.size
            try simp at zz
            have l5_0 : w.heap.size < w5.heap.size := by first | omega | (simp at *; omega)
            have g5_0_0 : w5.cell? ⟨w.heap.size, 0, none⟩ = some (.int .i64 an) := by rw [cc _ _ (by first | omega | (simp; done) | (simp; omega))]; first | assumption | go_simp
            have g5_0_1 : w5.cell? ⟨w.heap.size, 1, none⟩ = some (.int .i64 ad) := by rw [cc _ _ (by first | omega | (simp; done) | (simp; omega))]; first | assumption | go_simp
            have l5_1 : w.heap.size + 1 < w5.heap.size := by first | omega | (simp at *; omega)
            have g5_1_0 : w5.cell? ⟨w.heap.size + 1, 0, none⟩ = some (.int .i64 bn) := by rw [cc _ _ (by first | omega | (simp; done) | (simp; omega))]; first | assumption | go_simp
            have g5_1_1 : w5.cell? ⟨w.heap.size + 1, 1, none⟩ = some (.int .i64 bd) := by rw [cc _ _ (by first | omega | (simp; done) | (simp; omega))]; first | assumption | go_simp
            have l5_2 : w.heap.size + 2 < w5.heap.size := by first | omega | (simp at *; omega)
            have g5_2_0 : w5.cell? ⟨w.heap.size + 2, 0, none⟩ = some (.int .i64 cn) := by rw [cc _ _ (by first | omega | (simp; done) | (simp; omega))]; first | assumption | go_simp
            have g5_2_1 : w5.cell? ⟨w.heap.size + 2, 1, none⟩ = some (.int .i64 cd) := by rw [cc _ _ (by first | omega | (simp; done) | (simp; omega))]; first | assumption | go_simp
            have l5_3 : w4.heap.size < w5.heap.size := by first | omega | (simp at *; omega)
            have g5_3_0 : w5.cell? ⟨w4.heap.size, 0, none⟩ = some (.int .i64 xn) := by rw [cc _ _ (by first | omega | (simp; done) | (simp; omega))]; first | assumption | go_simp
            have g5_3_1 : w5.cell? ⟨w4.heap.size, 1, none⟩ = some (.int .i64 xd) := by rw [cc _ _ (by first | omega | (simp; done) | (simp; omega))]; first | assumption | go_simp
            clear cc zz
            clear g4_0_0 g4_0_1 g4_1_0 g4_1_1 g4_2_0 g4_2_1
            go_wp2_with fail
            refine (check_any xn xd 0 _ xn1 xn2 xd1 xd2 HF.out).mono ?_
            rintro e w6 ⟨rfl, hb6⟩
            have cc := (bcell hb6).1
            have zz := hb6.size
            try simp at zz
            have l6_0 : w.heap.size < w6.heap.size := by first | omega | (simp at *; omega)
            have g6_0_0 : w6.cell? ⟨w.heap.size, 0, none⟩ = some (.int .i64 an) := by rw [cc _ _ (by first | omega | (simp; done) | (simp; omega))]; first | assumption | go_simp
            have g6_0_1 : w6.cell? ⟨w.heap.size, 1, none⟩ = some (.int .i64 ad) := by rw [cc _ _ (by first | omega | (simp; done) | (simp; omega))]; first | assumption | go_simp
            have l6_1 : w.heap.size + 1 < w6.heap.size := by first | omega | (simp at *; omega)
            have g6_1_0 : w6.cell? ⟨w.heap.size + 1, 0, none⟩ = some (.int .i64 bn) := by rw [cc _ _ (by first | omega | (simp; done) | (simp; omega))]; first | assumption | go_simp
            have g6_1_1 : w6.cell? ⟨w.heap.size + 1, 1, none⟩ = some (.int .i64 bd) := by rw [cc _ _ (by first | omega | (simp; done) | (simp; omega))]; first | assumption | go_simp
            have l6_2 : w.heap.size + 2 < w6.heap.size := by first | omega | (simp at *; omega)
            have g6_2_0 : w6.cell? ⟨w.heap.size + 2, 0, none⟩ = some (.int .i64 cn) := by rw [cc _ _ (by first | omega | (simp; done) | (simp; omega))]; first | assumption | go_simp
            have g6_2_1 : w6.cell? ⟨w.heap.size + 2, 1, none⟩ = some (.int .i64 cd) := by rw [cc _ _ (by first | omega | (simp; done) | (simp; omega))]; first | assumption | go_simp
            have l6_3 : w4.heap.size < w6.heap.size := by first | omega | (simp at *; omega)
            have g6_3_0 : w6.cell? ⟨w4.heap.size, 0, none⟩ = some (.int .i64 xn) := by rw [cc _ _ (by first | omega | (simp; done) | (simp; omega))]; first | assumption | go_simp
            have g6_3_1 : w6.cell? ⟨w4.heap.size, 1, none⟩ = some (.int .i64 xd) := by rw [cc _ _ (by first | omega | (simp; done) | (simp; omega))]; first | assumption | go_simp
            have l6_4 : w5.heap.size < w6.heap.size := by first | omega | (simp at *; omega)
            have g6_4_0 : w6.cell? ⟨w5.heap.size, 0, none⟩ = some (.int .i64 xn) := by rw [cc _ _ (by first | omega | (simp; done) | (simp; omega))]; first | assumption | go_simp
            have g6_4_1 : w6.cell? ⟨w5.heap.size, 1, none⟩ = some (.int .i64 xd) := by rw [cc _ _ (by first | omega | (simp; done) | (simp; omega))]; first | assumption | go_simp
            clear cc zz
            clear g5_0_0 g5_0_1 g5_1_0 g5_1_1 g5_2_0 g5_2_1 g5_3_0 g5_3_1
            go_wp2_with fail
            refine (add_any xn xd cn cd ln ld 0 _ xn1 xn2 xd1 xd2 cn1 cn2 cd1 cd2 HL.out).mono ?_
            rintro e w7 ⟨rfl, hb7⟩
            have cc := (bcell hb7).1
            have zz := hb7.size
            try simp at zz
            have l7_0 : w.heap.size < w7.heap.size := by first | omega | (simp at *; omega)
            have g7_0_0 : w7.cell? ⟨w.heap.size, 0, none⟩ = some (.int .i64 an) := by rw [cc _ _ (by first | omega | (simp; done) | (simp; omega))]; first | assumption | go_simp
            have g7_0_1 : w7.cell? ⟨w.heap.size, 1, none⟩ = some (.int .i64 ad) := by rw [cc _ _ (by first | omega | (simp; done) | (simp; omega))]; first | assumption | go_simp
            have l7_1 : w.heap.size + 1 < w7.heap.size := by first | omega | (simp at *; omega)
            have g7_1_0 : w7.cell? ⟨w.heap.size + 1, 0, none⟩ = some (.int .i64 bn) := by rw [cc _ _ (by first | omega | (simp; done) | (simp; omega))]; first | assumption | go_simp
            have g7_1_1 : w7.cell? ⟨w.heap.size + 1, 1, none⟩ = some (.int .i64 bd) := by rw [cc _ _ (by first | omega | (simp; done) | (simp; omega))]; first | assumption | go_simp
            have l7_2 : w.heap.size + 2 < w7.heap.size := by first | omega | (simp at *; omega)
            have g7_2_0 : w7.cell? ⟨w.heap.size + 2, 0, none⟩ = some (.int .i64 cn) := by rw [cc _ _ (by first | omega | (simp; done) | (simp; omega))]; first | assumption | go_simp
            have g7_2_1 : w7.cell? ⟨w.heap.size + 2, 1, none⟩ = some (.int .i64 cd) := by rw [cc _ _ (by first | omega | (simp; done) | (simp; omega))]; first | assumption | go_simp
            have l7_3 : w4.heap.size < w7.heap.size := by first | omega | (simp at *; omega)
            have g7_3_0 : w7.cell? ⟨w4.heap.size, 0, none⟩ = some (.int .i64 xn) := by rw [cc _ _ (by first | omega | (simp; done) | (simp; omega))]; first | assumption | go_simp
            have g7_3_1 : w7.cell? ⟨w4.heap.size, 1, none⟩ = some (.int .i64 xd) := by rw [cc _ _ (by first | omega | (simp; done) | (simp; omega))]; first | assumption | go_simp
            have l7_4 : w5.heap.size < w7.heap.size := by first | omega | (simp at *; omega)
            have g7_4_0 : w7.cell? ⟨w5.heap.size, 0, none⟩ = some (.int .i64 xn) := by rw [cc _ _ (by first | omega | (simp; done) | (simp; omega))]; first | assumption | go_simp
            have g7_4_1 : w7.cell? ⟨w5.heap.size, 1, none⟩ = some (.int .i64 xd) := by rw [cc _ _ (by first | omega | (simp; done) | (simp; omega))]; first | assumption | go_simp
            clear cc zz
            clear g6_0_0 g6_0_1 g6_1_0 g6_1_1 g6_2_0 g6_2_1 g6_3_0 g6_3_1 g6_4_0 g6_4_1
            go_wp2_with fail
            refine (add_any bn bd cn cd zn zd ze _ bn1 bn2 bd1 bd2 cn1 cn2 cd1 cd2 HZ.out).mono ?_
            rintro e w8 ⟨rfl, hb8⟩
            have cc := (bcell hb8).1
            have zz := hb8.size
            try simp at zz
            have l8_0 : w.heap.size < w8.heap.size := by first | omega | (simp at *; omega)
            have g8_0_0 : w8.cell? ⟨w.heap.size, 0, none⟩ = some (.int .i64 an) := by rw [cc _ _ (by first | omega | (simp; done) | (simp; omega))]; first | assumption | go_simp
            have g8_0_1 : w8.cell? ⟨w.heap.size, 1, none⟩ = some (.int .i64 ad) := by rw [cc _ _ (by first | omega | (simp; done) | (simp; omega))]; first | assumption | go_simp
            have l8_1 : w.heap.size + 1 < w8.heap.size := by first | omega | (simp at *; omega)
            have g8_1_0 : w8.cell? ⟨w.heap.size + 1, 0, none⟩ = some (.int .i64 bn) := by rw [cc _ _ (by first | omega | (simp; done) | (simp; omega))]; first | assumption | go_simp
            have g8_1_1 : w8.cell? ⟨w.heap.size + 1, 1, none⟩ = some (.int .i64 bd) := by rw [cc _ _ (by first | omega | (simp; done) | (simp; omega))]; first | assumption | go_simp
            have l8_2 : w.heap.size + 2 < w8.heap.size := by first | omega | (simp at *; omega)
            have g8_2_0 : w8.cell? ⟨w.heap.size + 2, 0, none⟩ = some (.int .i64 cn) := by rw [cc _ _ (by first | omega | (simp; done) | (simp; omega))]; first | assumption | go_simp
            have g8_2_1 : w8.cell? ⟨w.heap.size + 2, 1, none⟩ = some (.int .i64 cd) := by rw [cc _ _ (by first | omega | (simp; done) | (simp; omega))]; first | assumption | go_simp
            have l8_3 : w4.heap.size < w8.heap.size := by first | omega | (simp at *; omega)
            have g8_3_0 : w8.cell? ⟨w4.heap.size, 0, none⟩ = some (.int .i64 xn) := by rw [cc _ _ (by first | omega | (simp; done) | (simp; omega))]; first | assumption | go_simp
            have g8_3_1 : w8.cell? ⟨w4.heap.size, 1, none⟩ = some (.int .i64 xd) := by rw [cc _ _ (by first | omega | (simp; done) | (simp; omega))]; first | assumption | go_simp
            have l8_4 : w5.heap.size < w8.heap.size := by first | omega | (simp at *; omega)
            have g8_4_0 : w8.cell? ⟨w5.heap.size, 0, none⟩ = some (.int .i64 xn) := by rw [cc _ _ (by first | omega | (simp; done) | (simp; omega))]; first | assumption | go_simp
            have g8_4_1 : w8.cell? ⟨w5.heap.size, 1, none⟩ = some (.int .i64 xd) := by rw [cc _ _ (by first | omega | (simp; done) | (simp; omega))]; first | assumption | go_simp
            have l8_5 : w7.heap.size < w8.heap.size := by first | omega | (simp at *; omega)
            have g8_5_0 : w8.cell? ⟨w7.heap.size, 0, none⟩ = some (.int .i64 ln) := by rw [cc _ _ (by first | omega | (simp; done) | (simp; omega))]; first | assumption | go_simp
            have g8_5_1 : w8.cell? ⟨w7.heap.size, 1, none⟩ = some (.int .i64 ld) := by rw [cc _ _ (by first | omega | (simp; done) | (simp; omega))]; first | assumption | go_simp
            clear cc zz
            clear g7_0_0 g7_0_1 g7_1_0 g7_1_1 g7_2_0 g7_2_1 g7_3_0 g7_3_1 g7_4_0 g7_4_1
            go_wp2_with fail
            refine (add_any an ad zn zd rn rd re _ an1 an2 ad1 ad2 zn1 zn2 zd1 zd2 HR.out).mono ?_
            rintro e w9 ⟨rfl, hb9⟩
            have cc := (bcell hb9).1
            have zz := hb9.size
            try simp at zz
            have l9_0 : w.heap.size < w9.heap.size := by first | omega | (simp at *; omega)
            have g9_0_0 : w9.cell? ⟨w.heap.size, 0, none⟩ = some (.int .i64 an) := by rw [cc _ _ (by first | omega | (simp; done) | (simp; omega))]; first | assumption | go_simp
            have g9_0_1 : w9.cell? ⟨w.heap.size, 1, none⟩ = some (.int .i64 ad) := by rw [cc _ _ (by first | omega | (simp; done) | (simp; omega))]; first | assumption | go_simp
            have l9_1 : w.heap.size + 1 < w9.heap.size := by first | omega | (simp at *; omega)
            have g9_1_0 : w9.cell? ⟨w.heap.size + 1, 0, none⟩ = some (.int .i64 bn) := by rw [cc _ _ (by first | omega | (simp; done) | (simp; omega))]; first | assumption | go_simp
            have g9_1_1 : w9.cell? ⟨w.heap.size + 1, 1, none⟩ = some (.int .i64 bd) := by rw [cc _ _ (by first | omega | (simp; done) | (simp; omega))]; first | assumption | go_simp
            have l9_2 : w.heap.size + 2 < w9.heap.size := by first | omega | (simp at *; omega)
            have g9_2_0 : w9.cell? ⟨w.heap.size + 2, 0, none⟩ = some (.int .i64 cn) := by rw [cc _ _ (by first | omega | (simp; done) | (simp; omega))]; first | assumption | go_simp
            have g9_2_1 : w9.cell? ⟨w.heap.size + 2, 1, none⟩ = some (.int .i64 cd) := by rw [cc _ _ (by first | omega | (simp; done) | (simp; omega))]; first | assumption | go_simp
            have l9_3 : w4.heap.size < w9.heap.size := by first | omega | (simp at *; omega)
            have g9_3_0 : w9.cell? ⟨w4.heap.size, 0, none⟩ = some (.int .i64 xn) := by rw [cc _ _ (by first | omega | (simp; done) | (simp; omega))]; first | assumption | go_simp
            have g9_3_1 : w9.cell? ⟨w4.heap.size, 1, none⟩ = some (.int .i64 xd) := by rw [cc _ _ (by first | omega | (simp; done) | (simp; omega))]; first | assumption | go_simp
            have l9_4 : w5.heap.size < w9.heap.size := by first | omega | (simp at *; omega)
            have g9_4_0 : w9.cell? ⟨w5.heap.size, 0, none⟩ = some (.int .i64 xn) := by rw [cc _ _ (by first | omega | (simp; done) | (simp; omega))]; first | assumption | go_simp
            have g9_4_1 : w9.cell? ⟨w5.heap.size, 1, none⟩ = some (.int .i64 xd) := by rw [cc _ _ (by first | omega | (simp; done) | (simp; omega))]; first | assumption | go_simp
            have l9_5 : w7.heap.size < w9.heap.size := by first | omega | (simp at *; omega)
            have g9_5_0 : w9.cell? ⟨w7.heap.size, 0, none⟩ = some (.int .i64 ln) := by rw [cc _ _ (by first | omega | (simp; done) | (simp; omega))]; first | assumption | go_simp
            have g9_5_1 : w9.cell? ⟨w7.heap.size, 1, none⟩ = some (.int .i64 ld) := by rw [cc _ _ (by first | omega | (simp; done) | (simp; omega))]; first | assumption | go_simp
            have l9_6 : w8.heap.size < w9.heap.size := by first | omega | (simp at *; omega)
            have g9_6_0 : w9.cell? ⟨w8.heap.size, 0, none⟩ = some (.int .i64 zn) := by rw [cc _ _ (by first | omega | (simp; done) | (simp; omega))]; first | assumption | go_simp
            have g9_6_1 : w9.cell? ⟨w8.heap.size, 1, none⟩ = some (.int .i64 zd) := by rw [cc _ _ (by first | omega | (simp; done) | (simp; omega))]; first | assumption | go_simp
            clear cc zz
            clear g8_0_0 g8_0_1 g8_1_0 g8_1_1 g8_2_0 g8_2_1 g8_3_0 g8_3_1 g8_4_0 g8_4_1 g8_5_0 g8_5_1
            go_wp2
            go_roundw
            case rel => exact ⟨1, by omega, rfl, (by repeat' (first | exact Below.refl _ _ | assumption | (with_reducible refine bdrewN ?_ _) | (with_reducible refine bdrew ?_) | (with_reducible refine bset ?_ ?_) | (with_reducible refine balloc0 ?_) | (with_reducible refine balloc ?_ ?_) | (apply btrans0; rotate_left; assumption) | (apply btrans; rotate_left; assumption) | (simp; done) | omega | (simp; omega)))⟩
            case measure => simp [intOf]
        · have e1' : (le == 0) = false := by simpa using e1
          clear ass e1
          go_wp2_with fail
          refine (add_any an ad bn bd xn xd 0 _ an1 an2 ad1 ad2 bn1 bn2 bd1 bd2 HX.out).mono ?_
          rintro e w4 ⟨rfl, hb4⟩
          have cc := (bcell hb4).1
          have zz := hb4.size
          try simp at zz
          have l4_0 : w.heap.size < w4.heap.size := by first | omega | (simp at *; omega)
          have g4_0_0 : w4.cell? ⟨w.heap.size, 0, none⟩ = some (.int .i64 an) := by rw [cc _ _ (by first | omega | (simp; done) | (simp; omega))]; first | assumption | go_simp
          have g4_0_1 : w4.cell? ⟨w.heap.size, 1, none⟩ = some (.int .i64 ad) := by rw [cc _ _ (by first | omega | (simp; done) | (simp; omega))]; first | assumption | go_simp
          have l4_1 : w.heap.size + 1 < w4.heap.size := by first | omega | (simp at *; omega)
          have g4_1_0 : w4.cell? ⟨w.heap.size + 1, 0, none⟩ = some (.int .i64 bn) := by rw [cc _ _ (by first | omega | (simp; done) | (simp; omega))]; first | assumption | go_simp
          have g4_1_1 : w4.cell? ⟨w.heap.size + 1, 1, none⟩ = some (.int .i64 bd) := by rw [cc _ _ (by first | omega | (simp; done) | (simp; omega))]; first | assumption | go_simp
          have l4_2 : w.heap.size + 2 < w4.heap.size := by first | omega | (simp at *; omega)
          have g4_2_0 : w4.cell? ⟨w.heap.size + 2, 0, none⟩ = some (.int .i64 cn) := by rw [cc _ _ (by first | omega | (simp; done) | (simp; omega))]; first | assumption | go_simp
          have g4_2_1 : w4.cell? ⟨w.heap.size + 2, 1, none⟩ = some (.int .i64 cd) := by rw [cc _ _ (by first | omega | (simp; done) | (simp; omega))]; first | assumption | go_simp
          clear cc zz
          go_wp2_with fail
          refine (add_any bn bd an ad xn xd 0 _ bn1 bn2 bd1 bd2 an1 an2 ad1 ad2 HY.out).mono ?_
          rintro e w5 ⟨rfl, hb5⟩
          have cc := (bcell hb5).1
          have zz := hb5.size
          try simp at zz
          have l5_0 : w.heap.size < w5.heap.size := by first | omega | (simp at *; omega)
          have g5_0_0 : w5.cell? ⟨w.heap.size, 0, none⟩ = some (.int .i64 an) := by rw [cc _ _ (by first | omega | (simp; done) | (simp; omega))]; first | assumption | go_simp
          have g5_0_1 : w5.cell? ⟨w.heap.size, 1, none⟩ = some (.int .i64 ad) := by rw [cc _ _ (by first | omega | (simp; done) | (simp; omega))]; first | assumption | go_simp
          have l5_1 : w.heap.size + 1 < w5.heap.size := by first | omega | (simp at *; omega)
          have g5_1_0 : w5.cell? ⟨w.heap.size + 1, 0, none⟩ = some (.int .i64 bn) := by rw [cc _ _ (by first | omega | (simp; done) | (simp; omega))]; first | assumption | go_simp
          have g5_1_1 : w5.cell? ⟨w.heap.size + 1, 1, none⟩ = some (.int .i64 bd) := by rw [cc _ _ (by first | omega | (simp; done) | (simp; omega))]; first | assumption | go_simp
          have l5_2 : w.heap.size + 2 < w5.heap.size := by first | omega | (simp at *; omega)
          have g5_2_0 : w5.cell? ⟨w.heap.size + 2, 0, none⟩ = some (.int .i64 cn) := by rw [cc _ _ (by first | omega | (simp; done) | (simp; omega))]; first | assumption | go_simp
          have g5_2_1 : w5.cell? ⟨w.heap.size + 2, 1, none⟩ = some (.int .i64 cd) := by rw [cc _ _ (by first | omega | (simp; done) | (simp; omega))]; first | assumption | go_simp
          have l5_3 : w4.heap.size < w5.heap.size := by first | omega | (simp at *; omega)
          have g5_3_0 : w5.cell? ⟨w4.heap.size, 0, none⟩ = some (.int .i64 xn) := by rw [cc _ _ (by first | omega | (simp; done) | (simp; omega))]; first | assumption | go_simp
          have g5_3_1 : w5.cell? ⟨w4.heap.size, 1, none⟩ = some (.int .i64 xd) := by rw [cc _ _ (by first | omega | (simp; done) | (simp; omega))]; first | assumption | go_simp
          clear cc zz
          clear g4_0_0 g4_0_1 g4_1_0 g4_1_1 g4_2_0 g4_2_1
          go_wp2_with fail
          refine (check_any xn xd 0 _ xn1 xn2 xd1 xd2 HF.out).mono ?_
          rintro e w6 ⟨rfl, hb6⟩
          have cc := (bcell hb6).1
          have zz := hb6.size
          try simp at zz
          have l6_0 : w.heap.size < w6.heap.size := by first | omega | (simp at *; omega)
          have g6_0_0 : w6.cell? ⟨w.heap.size, 0, none⟩ = some (.int .i64 an) := by rw [cc _ _ (by first | omega | (simp; done) | (simp; omega))]; first | assumption | go_simp
          have g6_0_1 : w6.cell? ⟨w.heap.size, 1, none⟩ = some (.int .i64 ad) := by rw [cc _ _ (by first | omega | (simp; done) | (simp; omega))]; first | assumption | go_simp
          have l6_1 : w.heap.size + 1 < w6.heap.size := by first | omega | (simp at *; omega)
          have g6_1_0 : w6.cell? ⟨w.heap.size + 1, 0, none⟩ = some (.int .i64 bn) := by rw [cc _ _ (by first | omega | (simp; done) | (simp; omega))]; first | assumption | go_simp
          have g6_1_1 : w6.cell? ⟨w.heap.size + 1, 1, none⟩ = some (.int .i64 bd) := by rw [cc _ _ (by first | omega | (simp; done) | (simp; omega))]; first | assumption | go_simp
          have l6_2 : w.heap.size + 2 < w6.heap.size := by first | omega | (simp at *; omega)
          have g6_2_0 : w6.cell? ⟨w.heap.size + 2, 0, none⟩ = some (.int .i64 cn) := by rw [cc _ _ (by first | omega | (simp; done) | (simp; omega))]; first | assumption | go_simp
          have g6_2_1 : w6.cell? ⟨w.heap.size + 2, 1, none⟩ = some (.int .i64 cd) := by rw [cc _ _ (by first | omega | (simp; done) | (simp; omega))]; first | assumption | go_simp
          have l6_3 : w4.heap.size < w6.heap.size := by first | omega | (simp at *; omega)
          have g6_3_0 : w6.cell? ⟨w4.heap.size, 0, none⟩ = some (.int .i64 xn) := by rw [cc _ _ (by first | omega | (simp; done) | (simp; omega))]; first | assumption | go_simp
          have g6_3_1 : w6.cell? ⟨w4.heap.size, 1, none⟩ = some (.int .i64 xd) := by rw [cc _ _ (by first | omega | (simp; done) | (simp; omega))]; first | assumption | go_simp
          have l6_4 : w5.heap.size < w6.heap.size := by first | omega | (simp at *; omega)
          have g6_4_0 : w6.cell? ⟨w5.heap.size, 0, none⟩ = some (.int .i64 xn) := by rw [cc _ _ (by first | omega | (simp; done) | (simp; omega))]; first | assumption | go_simp
          have g6_4_1 : w6.cell? ⟨w5.heap.size, 1, none⟩ = some (.int .i64 xd) := by rw [cc _ _ (by first | omega | (simp; done) | (simp; omega))]; first | assumption | go_simp
          clear cc zz
          clear g5_0_0 g5_0_1 g5_1_0 g5_1_1 g5_2_0 g5_2_1 g5_3_0 g5_3_1
          go_wp2_with fail
          refine (add_any xn xd cn cd ln ld le _ xn1 xn2 xd1 xd2 cn1 cn2 cd1 cd2 HL.out).mono ?_
          rintro e w7 ⟨rfl, hb7⟩
          have cc := (bcell hb7).1
          have zz := hb7.size
          try simp at zz
          have l7_0 : w.heap.size < w7.heap.size := by first | omega | (simp at *; omega)
          have g7_0_0 : w7.cell? ⟨w.heap.size, 0, none⟩ = some (.int .i64 an) := by rw [cc _ _ (by first | omega | (simp; done) | (simp; omega))]; first | assumption | go_simp
          have g7_0_1 : w7.cell? ⟨w.heap.size, 1, none⟩ = some (.int .i64 ad) := by rw [cc _ _ (by first | omega | (simp; done) | (simp; omega))]; first | assumption | go_simp
          have l7_1 : w.heap.size + 1 < w7.heap.size := by first | omega | (simp at *; omega)
          have g7_1_0 : w7.cell? ⟨w.heap.size + 1, 0, none⟩ = some (.int .i64 bn) := by rw [cc _ _ (by first | omega | (simp; done) | (simp; omega))]; first | assumption | go_simp
          have g7_1_1 : w7.cell? ⟨w.heap.size + 1, 1, none⟩ = some (.int .i64 bd) := by rw [cc _ _ (by first | omega | (simp; done) | (simp; omega))]; first | assumption | go_simp
          have l7_2 : w.heap.size + 2 < w7.heap.size := by first | omega | (simp at *; omega)
          have g7_2_0 : w7.cell? ⟨w.heap.size + 2, 0, none⟩ = some (.int .i64 cn) := by rw [cc _ _ (by first | omega | (simp; done) | (simp; omega))]; first | assumption | go_simp
          have g7_2_1 : w7.cell? ⟨w.heap.size + 2, 1, none⟩ = some (.int .i64 cd) := by rw [cc _ _ (by first | omega | (simp; done) | (simp; omega))]; first | assumption | go_simp
          have l7_3 : w4.heap.size < w7.heap.size := by first | omega | (simp at *; omega)
          have g7_3_0 : w7.cell? ⟨w4.heap.size, 0, none⟩ = some (.int .i64 xn) := by rw [cc _ _ (by first | omega | (simp; done) | (simp; omega))]; first | assumption | go_simp
          have g7_3_1 : w7.cell? ⟨w4.heap.size, 1, none⟩ = some (.int .i64 xd) := by rw [cc _ _ (by first | omega | (simp; done) | (simp; omega))]; first | assumption | go_simp
          have l7_4 : w5.heap.size < w7.heap.size := by first | omega | (simp at *; omega)
          have g7_4_0 : w7.cell? ⟨w5.heap.size, 0, none⟩ = some (.int .i64 xn) := by rw [cc _ _ (by first | omega | (simp; done) | (simp; omega))]; first | assumption | go_simp
          have g7_4_1 : w7.cell? ⟨w5.heap.size, 1, none⟩ = some (.int .i64 xd) := by rw [cc _ _ (by first | omega | (simp; done) | (simp; omega))]; first | assumption | go_simp
          clear cc zz
          clear g6_0_0 g6_0_1 g6_1_0 g6_1_1 g6_2_0 g6_2_1 g6_3_0 g6_3_1 g6_4_0 g6_4_1
          go_wp2_with fail
          refine (add_any bn bd cn cd zn zd ze _ bn1 bn2 bd1 bd2 cn1 cn2 cd1 cd2 HZ.out).mono ?_
          rintro e w8 ⟨rfl, hb8⟩
          have cc := (bcell hb8).1
          have zz := hb8.size
          try simp at zz
          have l8_0 : w.heap.size < w8.heap.size := by first | omega | (simp at *; omega)
          have g8_0_0 : w8.cell? ⟨w.heap.size, 0, none⟩ = some (.int .i64 an) := by rw [cc _ _ (by first | omega | (simp; done) | (simp; omega))]; first | assumption | go_simp
          have g8_0_1 : w8.cell? ⟨w.heap.size, 1, none⟩ = some (.int .i64 ad) := by rw [cc _ _ (by first | omega | (simp; done) | (simp; omega))]; first | assumption | go_simp
          have l8_1 : w.heap.size + 1 < w8.heap.size := by first | omega | (simp at *; omega)
          have g8_1_0 : w8.cell? ⟨w.heap.size + 1, 0, none⟩ = some (.int .i64 bn) := by rw [cc _ _ (by first | omega | (simp; done) | (simp; omega))]; first | assumption | go_simp
          have g8_1_1 : w8.cell? ⟨w.heap.size + 1, 1, none⟩ = some (.int .i64 bd) := by rw [cc _ _ (by first | omega | (simp; done) | (simp; omega))]; first | assumption | go_simp
          have l8_2 : w.heap.size + 2 < w8.heap.size := by first | omega | (simp at *; omega)
          have g8_2_0 : w8.cell? ⟨w.heap.size + 2, 0, none⟩ = some (.int .i64 cn) := by rw [cc _ _ (by first | omega | (simp; done) | (simp; omega))]; first | assumption | go_simp
          have g8_2_1 : w8.cell? ⟨w.heap.size + 2, 1, none⟩ = some (.int .i64 cd) := by rw [cc _ _ (by first | omega | (simp; done) | (simp; omega))]; first | assumption | go_simp
          have l8_3 : w4.heap.size < w8.heap.size := by first | omega | (simp at *; omega)
          have g8_3_0 : w8.cell? ⟨w4.heap.size, 0, none⟩ = some (.int .i64 xn) := by rw [cc _ _ (by first | omega | (simp; done) | (simp; omega))]; first | assumption | go_simp
          have g8_3_1 : w8.cell? ⟨w4.heap.size, 1, none⟩ = some (.int .i64 xd) := by rw [cc _ _ (by first | omega | (simp; done) | (simp; omega))]; first | assumption | go_simp
          have l8_4 : w5.heap.size < w8.heap.size := by first | omega | (simp at *; omega)
          have g8_4_0 : w8.cell? ⟨w5.heap.size, 0, none⟩ = some (.int .i64 xn) := by rw [cc _ _ (by first | omega | (simp; done) | (simp; omega))]; first | assumption | go_simp
          have g8_4_1 : w8.cell? ⟨w5.heap.size, 1, none⟩ = some (.int .i64 xd) := by rw [cc _ _ (by first | omega | (simp; done) | (simp; omega))]; first | assumption | go_simp
          have l8_5 : w7.heap.size < w8.heap.size := by first | omega | (simp at *; omega)
          have g8_5_0 : w8.cell? ⟨w7.heap.size, 0, none⟩ = some (.int .i64 ln) := by rw [cc _ _ (by first | omega | (simp; done) | (simp; omega))]; first | assumption | go_simp
          have g8_5_1 : w8.cell? ⟨w7.heap.size, 1, none⟩ = some (.int .i64 ld) := by rw [cc _ _ (by first | omega | (simp; done) | (simp; omega))]; first | assumption | go_simp
          clear cc zz
          clear g7_0_0 g7_0_1 g7_1_0 g7_1_1 g7_2_0 g7_2_1 g7_3_0 g7_3_1 g7_4_0 g7_4_1
          go_wp2_with fail
          refine (add_any an ad zn zd rn rd re _ an1 an2 ad1 ad2 zn1 zn2 zd1 zd2 HR.out).mono ?_
          rintro e w9 ⟨rfl, hb9⟩
          have cc := (bcell hb9).1
          have zz := hb9.size
          try simp at zz
          have l9_0 : w.heap.size < w9.heap.size := by first | omega | (simp at *; omega)
          have g9_0_0 : w9.cell? ⟨w.heap.size, 0, none⟩ = some (.int .i64 an) := by rw [cc _ _ (by first | omega | (simp; done) | (simp; omega))]; first | assumption | go_simp
          have g9_0_1 : w9.cell? ⟨w.heap.size, 1, none⟩ = some (.int .i64 ad) := by rw [cc _ _ (by first | omega | (simp; done) | (simp; omega))]; first | assumption | go_simp
          have l9_1 : w.heap.size + 1 < w9.heap.size := by first | omega | (simp at *; omega)
          have g9_1_0 : w9.cell? ⟨w.heap.size + 1, 0, none⟩ = some (.int .i64 bn) := by rw [cc _ _ (by first | omega | (simp; done) | (simp; omega))]; first | assumption | go_simp
          have g9_1_1 : w9.cell? ⟨w.heap.size + 1, 1, none⟩ = some (.int .i64 bd) := by rw [cc _ _ (by first | omega | (simp; done) | (simp; omega))]; first | assumption | go_simp
          have l9_2 : w.heap.size + 2 < w9.heap.size := by first | omega | (simp at *; omega)
          have g9_2_0 : w9.cell? ⟨w.heap.size + 2, 0, none⟩ = some (.int .i64 cn) := by rw [cc _ _ (by first | omega | (simp; done) | (simp; omega))]; first | assumption | go_simp
          have g9_2_1 : w9.cell? ⟨w.heap.size + 2, 1, none⟩ = some (.int .i64 cd) := by rw [cc _ _ (by first | omega | (simp; done) | (simp; omega))]; first | assumption | go_simp
          have l9_3 : w4.heap.size < w9.heap.size := by first | omega | (simp at *; omega)
          have g9_3_0 : w9.cell? ⟨w4.heap.size, 0, none⟩ = some (.int .i64 xn) := by rw [cc _ _ (by first | omega | (simp; done) | (simp; omega))]; first | assumption | go_simp
          have g9_3_1 : w9.cell? ⟨w4.heap.size, 1, none⟩ = some (.int .i64 xd) := by rw [cc _ _ (by first | omega | (simp; done) | (simp; omega))]; first | assumption | go_simp
          have l9_4 : w5.heap.size < w9.heap.size := by first | omega | (simp at *; omega)
          have g9_4_0 : w9.cell? ⟨w5.heap.size, 0, none⟩ = some (.int .i64 xn) := by rw [cc _ _ (by first | omega | (simp; done) | (simp; omega))]; first | assumption | go_simp
          have g9_4_1 : w9.cell? ⟨w5.heap.size, 1, none⟩ = some (.int .i64 xd) := by rw [cc _ _ (by first | omega | (simp; done) | (simp; omega))]; first | assumption | go_simp
          have l9_5 : w7.heap.size < w9.heap.size := by first | omega | (simp at *; omega)
          have g9_5_0 : w9.cell? ⟨w7.heap.size, 0, none⟩ = some (.int .i64 ln) := by rw [cc _ _ (by first | omega | (simp; done) | (simp; omega))]; first | assumption | go_simp
          have g9_5_1 : w9.cell? ⟨w7.heap.size, 1, none⟩ = some (.int .i64 ld) := by rw [cc _ _ (by first | omega | (simp; done) | (simp; omega))]; first | assumption | go_simp
          have l9_6 : w8.heap.size < w9.heap.size := by first | omega | (simp at *; omega)
          have g9_6_0 : w9.cell? ⟨w8.heap.size, 0, none⟩ = some (.int .i64 zn) := by rw [cc _ _ (by first | omega | (simp; done) | (simp; omega))]; first | assumption | go_simp
          have g9_6_1 : w9.cell? ⟨w8.heap.size, 1, none⟩ = some (.int .i64 zd) := by rw [cc _ _ (by first | omega | (simp; done) | (simp; omega))]; first | assumption | go_simp
          clear cc zz
          clear g8_0_0 g8_0_1 g8_1_0 g8_1_1 g8_2_0 g8_2_1 g8_3_0 g8_3_1 g8_4_0 g8_4_1 g8_5_0 g8_5_1
          go_wp2
          go_roundw
          case rel => exact ⟨1, by omega, rfl, (by repeat' (first | exact Below.refl _ _ | assumption | (with_reducible refine bdrewN ?_ _) | (with_reducible refine bdrew ?_) | (with_reducible refine bset ?_ ?_) | (with_reducible refine balloc0 ?_) | (with_reducible refine balloc ?_ ?_) | (apply btrans0; rotate_left; assumption) | (apply btrans; rotate_left; assumption) | (simp; done) | omega | (simp; omega)))⟩
          case measure => simp [intOf]
      · clear ass fit
        go_wp2_with fail
        refine (add_any an ad bn bd xn xd 5 _ an1 an2 ad1 ad2 bn1 bn2 bd1 bd2 HX.out).mono ?_
        rintro e w4 ⟨rfl, hb4⟩
        have cc := (bcell hb4).1
        have zz := hb4.size
        try simp at zz
        have l4_0 : w.heap.size < w4.heap.size := by first | omega | (simp at *; omega)
        have g4_0_0 : w4.cell? ⟨w.heap.size, 0, none⟩ = some (.int .i64 an) := by rw [cc _ _ (by first | omega | (simp; done) | (simp; omega))]; first | assumption | go_simp
        have g4_0_1 : w4.cell? ⟨w.heap.size, 1, none⟩ = some (.int .i64 ad) := by rw [cc _ _ (by first | omega | (simp; done) | (simp; omega))]; first | assumption | go_simp
        have l4_1 : w.heap.size + 1 < w4.heap.size := by first | omega | (simp at *; omega)
        have g4_1_0 : w4.cell? ⟨w.heap.size + 1, 0, none⟩ = some (.int .i64 bn) := by rw [cc _ _ (by first | omega | (simp; done) | (simp; omega))]; first | assumption | go_simp
        have g4_1_1 : w4.cell? ⟨w.heap.size + 1, 1, none⟩ = some (.int .i64 bd) := by rw [cc _ _ (by first | omega | (simp; done) | (simp; omega))]; first | assumption | go_simp
        have l4_2 : w.heap.size + 2 < w4.heap.size := by first | omega | (simp at *; omega)
        have g4_2_0 : w4.cell? ⟨w.heap.size + 2, 0, none⟩ = some (.int .i64 cn) := by rw [cc _ _ (by first | omega | (simp; done) | (simp; omega))]; first | assumption | go_simp
        have g4_2_1 : w4.cell? ⟨w.heap.size + 2, 1, none⟩ = some (.int .i64 cd) := by rw [cc _ _ (by first | omega | (simp; done) | (simp; omega))]; first | assumption | go_simp
        clear cc zz
        go_wp2_with fail
        refine (add_any bn bd an ad xn xd 5 _ bn1 bn2 bd1 bd2 an1 an2 ad1 ad2 HY.out).mono ?_
        rintro e w5 ⟨rfl, hb5⟩
        have cc := (bcell hb5).1
        have zz := hb5.size
        try simp at zz
        have l5_0 : w.heap.size < w5.heap.size := by first | omega | (simp at *; omega)
        have g5_0_0 : w5.cell? ⟨w.heap.size, 0, none⟩ = some (.int .i64 an) := by rw [cc _ _ (by first | omega | (simp; done) | (simp; omega))]; first | assumption | go_simp
        have g5_0_1 : w5.cell? ⟨w.heap.size, 1, none⟩ = some (.int .i64 ad) := by rw [cc _ _ (by first | omega | (simp; done) | (simp; omega))]; first | assumption | go_simp
        have l5_1 : w.heap.size + 1 < w5.heap.size := by first | omega | (simp at *; omega)
        have g5_1_0 : w5.cell? ⟨w.heap.size + 1, 0, none⟩ = some (.int .i64 bn) := by rw [cc _ _ (by first | omega | (simp; done) | (simp; omega))]; first | assumption | go_simp
        have g5_1_1 : w5.cell? ⟨w.heap.size + 1, 1, none⟩ = some (.int .i64 bd) := by rw [cc _ _ (by first | omega | (simp; done) | (simp; omega))]; first | assumption | go_simp
        have l5_2 : w.heap.size + 2 < w5.heap.size := by first | omega | (simp at *; omega)
        have g5_2_0 : w5.cell? ⟨w.heap.size + 2, 0, none⟩ = some (.int .i64 cn) := by rw [cc _ _ (by first | omega | (simp; done) | (simp; omega))]; first | assumption | go_simp
        have g5_2_1 : w5.cell? ⟨w.heap.size + 2, 1, none⟩ = some (.int .i64 cd) := by rw [cc _ _ (by first | omega | (simp; done) | (simp; omega))]; first | assumption | go_simp
        have l5_3 : w4.heap.size < w5.heap.size := by first | omega | (simp at *; omega)
        have g5_3_0 : w5.cell? ⟨w4.heap.size, 0, none⟩ = some (.int .i64 xn) := by rw [cc _ _ (by first | omega | (simp; done) | (simp; omega))]; first | assumption | go_simp
        have g5_3_1 : w5.cell? ⟨w4.heap.size, 1, none⟩ = some (.int .i64 xd) := by rw [cc _ _ (by first | omega | (simp; done) | (simp; omega))]; first | assumption | go_simp
        clear cc zz
        clear g4_0_0 g4_0_1 g4_1_0 g4_1_1 g4_2_0 g4_2_1
        go_wp2_with fail
        refine (add_any xn xd cn cd ln ld le _ xn1 xn2 xd1 xd2 cn1 cn2 cd1 cd2 HL.out).mono ?_
        rintro e w6 ⟨rfl, hb6⟩
        have cc := (bcell hb6).1
        have zz := hb6.size
        try simp at zz
        have l6_0 : w.heap.size < w6.heap.size := by first | omega | (simp at *; omega)
        have g6_0_0 : w6.cell? ⟨w.heap.size, 0, none⟩ = some (.int .i64 an) := by rw [cc _ _ (by first | omega | (simp; done) | (simp; omega))]; first | assumption | go_simp
        have g6_0_1 : w6.cell? ⟨w.heap.size, 1, none⟩ = some (.int .i64 ad) := by rw [cc _ _ (by first | omega | (simp; done) | (simp; omega))]; first | assumption | go_simp
        have l6_1 : w.heap.size + 1 < w6.heap.size := by first | omega | (simp at *; omega)
        have g6_1_0 : w6.cell? ⟨w.heap.size + 1, 0, none⟩ = some (.int .i64 bn) := by rw [cc _ _ (by first | omega | (simp; done) | (simp; omega))]; first | assumption | go_simp
        have g6_1_1 : w6.cell? ⟨w.heap.size + 1, 1, none⟩ = some (.int .i64 bd) := by rw [cc _ _ (by first | omega | (simp; done) | (simp; omega))]; first | assumption | go_simp
        have l6_2 : w.heap.size + 2 < w6.heap.size := by first | omega | (simp at *; omega)
        have g6_2_0 : w6.cell? ⟨w.heap.size + 2, 0, none⟩ = some (.int .i64 cn) := by rw [cc _ _ (by first | omega | (simp; done) | (simp; omega))]; first | assumption | go_simp
        have g6_2_1 : w6.cell? ⟨w.heap.size + 2, 1, none⟩ = some (.int .i64 cd) := by rw [cc _ _ (by first | omega | (simp; done) | (simp; omega))]; first | assumption | go_simp
        have l6_3 : w4.heap.size < w6.heap.size := by first | omega | (simp at *; omega)
        have g6_3_0 : w6.cell? ⟨w4.heap.size, 0, none⟩ = some (.int .i64 xn) := by rw [cc _ _ (by first | omega | (simp; done) | (simp; omega))]; first | assumption | go_simp
        have g6_3_1 : w6.cell? ⟨w4.heap.size, 1, none⟩ = some (.int .i64 xd) := by rw [cc _ _ (by first | omega | (simp; done) | (simp; omega))]; first | assumption | go_simp
        have l6_4 : w5.heap.size < w6.heap.size := by first | omega | (simp at *; omega)
        have g6_4_0 : w6.cell? ⟨w5.heap.size, 0, none⟩ = some (.int .i64 xn) := by rw [cc _ _ (by first | omega | (simp; done) | (simp; omega))]; first | assumption | go_simp
        have g6_4_1 : w6.cell? ⟨w5.heap.size, 1, none⟩ = some (.int .i64 xd) := by rw [cc _ _ (by first | omega | (simp; done) | (simp; omega))]; first | assumption | go_simp
        clear cc zz
        clear g5_0_0 g5_0_1 g5_1_0 g5_1_1 g5_2_0 g5_2_1 g5_3_0 g5_3_1
        go_wp2_with fail
        refine (add_any bn bd cn cd zn zd ze _ bn1 bn2 bd1 bd2 cn1 cn2 cd1 cd2 HZ.out).mono ?_
        rintro e w7 ⟨rfl, hb7⟩
        have cc := (bcell hb7).1
        have zz := hb7.size
        try simp at zz
        have l7_0 : w.heap.size < w7.heap.size := by first | omega | (simp at *; omega)
        have g7_0_0 : w7.cell? ⟨w.heap.size, 0, none⟩ = some (.int .i64 an) := by rw [cc _ _ (by first | omega | (simp; done) | (simp; omega))]; first | assumption | go_simp
        have g7_0_1 : w7.cell? ⟨w.heap.size, 1, none⟩ = some (.int .i64 ad) := by rw [cc _ _ (by first | omega | (simp; done) | (simp; omega))]; first | assumption | go_simp
        have l7_1 : w.heap.size + 1 < w7.heap.size := by first | omega | (simp at *; omega)
        have g7_1_0 : w7.cell? ⟨w.heap.size + 1, 0, none⟩ = some (.int .i64 bn) := by rw [cc _ _ (by first | omega | (simp; done) | (simp; omega))]; first | assumption | go_simp
        have g7_1_1 : w7.cell? ⟨w.heap.size + 1, 1, none⟩ = some (.int .i64 bd) := by rw [cc _ _ (by first | omega | (simp; done) | (simp; omega))]; first | assumption | go_simp
        have l7_2 : w.heap.size + 2 < w7.heap.size := by first | omega | (simp at *; omega)
        have g7_2_0 : w7.cell? ⟨w.heap.size + 2, 0, none⟩ = some (.int .i64 cn) := by rw [cc _ _ (by first | omega | (simp; done) | (simp; omega))]; first | assumption | go_simp
        have g7_2_1 : w7.cell? ⟨w.heap.size + 2, 1, none⟩ = some (.int .i64 cd) := by rw [cc _ _ (by first | omega | (simp; done) | (simp; omega))]; first | assumption | go_simp
        have l7_3 : w4.heap.size < w7.heap.size := by first | omega | (simp at *; omega)
        have g7_3_0 : w7.cell? ⟨w4.heap.size, 0, none⟩ = some (.int .i64 xn) := by rw [cc _ _ (by first | omega | (simp; done) | (simp; omega))]; first | assumption | go_simp
        have g7_3_1 : w7.cell? ⟨w4.heap.size, 1, none⟩ = some (.int .i64 xd) := by rw [cc _ _ (by first | omega | (simp; done) | (simp; omega))]; first | assumption | go_simp
        have l7_4 : w5.heap.size < w7.heap.size := by first | omega | (simp at *; omega)
        have g7_4_0 : w7.cell? ⟨w5.heap.size, 0, none⟩ = some (.int .i64 xn) := by rw [cc _ _ (by first | omega | (simp; done) | (simp; omega))]; first | assumption | go_simp
        have g7_4_1 : w7.cell? ⟨w5.heap.size, 1, none⟩ = some (.int .i64 xd) := by rw [cc _ _ (by first | omega | (simp; done) | (simp; omega))]; first | assumption | go_simp
        have l7_5 : w6.heap.size < w7.heap.size := by first | omega | (simp at *; omega)
        have g7_5_0 : w7.cell? ⟨w6.heap.size, 0, none⟩ = some (.int .i64 ln) := by rw [cc _ _ (by first | omega | (simp; done) | (simp; omega))]; first | assumption | go_simp
        have g7_5_1 : w7.cell? ⟨w6.heap.size, 1, none⟩ = some (.int .i64 ld) := by rw [cc _ _ (by first | omega | (simp; done) | (simp; omega))]; first | assumption | go_simp
        clear cc zz
        clear g6_0_0 g6_0_1 g6_1_0 g6_1_1 g6_2_0 g6_2_1 g6_3_0 g6_3_1 g6_4_0 g6_4_1
        go_wp2_with fail
        refine (add_any an ad zn zd rn rd re _ an1 an2 ad1 ad2 zn1 zn2 zd1 zd2 HR.out).mono ?_
        rintro e w8 ⟨rfl, hb8⟩
        have cc := (bcell hb8).1
        have zz := hb8.size
        try simp at zz
        have l8_0 : w.heap.size < w8.heap.size := by first | omega | (simp at *; omega)
        have g8_0_0 : w8.cell? ⟨w.heap.size, 0, none⟩ = some (.int .i64 an) := by rw [cc _ _ (by first | omega | (simp; done) | (simp; omega))]; first | assumption | go_simp
        have g8_0_1 : w8.cell? ⟨w.heap.size, 1, none⟩ = some (.int .i64 ad) := by rw [cc _ _ (by first | omega | (simp; done) | (simp; omega))]; first | assumption | go_simp
        have l8_1 : w.heap.size + 1 < w8.heap.size := by first | omega | (simp at *; omega)
        have g8_1_0 : w8.cell? ⟨w.heap.size + 1, 0, none⟩ = some (.int .i64 bn) := by rw [cc _ _ (by first | omega | (simp; done) | (simp; omega))]; first | assumption | go_simp
        have g8_1_1 : w8.cell? ⟨w.heap.size + 1, 1, none⟩ = some (.int .i64 bd) := by rw [cc _ _ (by first | omega | (simp; done) | (simp; omega))]; first | assumption | go_simp
        have l8_2 : w.heap.size + 2 < w8.heap.size := by first | omega | (simp at *; omega)
        have g8_2_0 : w8.cell? ⟨w.heap.size + 2, 0, none⟩ = some (.int .i64 cn) := by rw [cc _ _ (by first | omega | (simp; done) | (simp; omega))]; first | assumption | go_simp
        have g8_2_1 : w8.cell? ⟨w.heap.size + 2, 1, none⟩ = some (.int .i64 cd) := by rw [cc _ _ (by first | omega | (simp; done) | (simp; omega))]; first | assumption | go_simp
        have l8_3 : w4.heap.size < w8.heap.size := by first | omega | (simp at *; omega)
        have g8_3_0 : w8.cell? ⟨w4.heap.size, 0, none⟩ = some (.int .i64 xn) := by rw [cc _ _ (by first | omega | (simp; done) | (simp; omega))]; first | assumption | go_simp
        have g8_3_1 : w8.cell? ⟨w4.heap.size, 1, none⟩ = some (.int .i64 xd) := by rw [cc _ _ (by first | omega | (simp; done) | (simp; omega))]; first | assumption | go_simp
        have l8_4 : w5.heap.size < w8.heap.size := by first | omega | (simp at *; omega)
        have g8_4_0 : w8.cell? ⟨w5.heap.size, 0, none⟩ = some (.int .i64 xn) := by rw [cc _ _ (by first | omega | (simp; done) | (simp; omega))]; first | assumption | go_simp
        have g8_4_1 : w8.cell? ⟨w5.heap.size, 1, none⟩ = some (.int .i64 xd) := by rw [cc _ _ (by first | omega | (simp; done) | (simp; omega))]; first | assumption | go_simp
        have l8_5 : w6.heap.size < w8.heap.size := by first | omega | (simp at *; omega)
        have g8_5_0 : w8.cell? ⟨w6.heap.size, 0, none⟩ = some (.int .i64 ln) := by rw [cc _ _ (by first | omega | (simp; done) | (simp; omega))]; first | assumption | go_simp
        have g8_5_1 : w8.cell? ⟨w6.heap.size, 1, none⟩ = some (.int .i64 ld) := by rw [cc _ _ (by first | omega | (simp; done) | (simp; omega))]; first | assumption | go_simp
        have l8_6 : w7.heap.size < w8.heap.size := by first | omega | (simp at *; omega)
        have g8_6_0 : w8.cell? ⟨w7.heap.size, 0, none⟩ = some (.int .i64 zn) := by rw [cc _ _ (by first | omega | (simp; done) | (simp; omega))]; first | assumption | go_simp
        have g8_6_1 : w8.cell? ⟨w7.heap.size, 1, none⟩ = some (.int .i64 zd) := by rw [cc _ _ (by first | omega | (simp; done) | (simp; omega))]; first | assumption | go_simp
        clear cc zz
        clear g7_0_0 g7_0_1 g7_1_0 g7_1_1 g7_2_0 g7_2_1 g7_3_0 g7_3_1 g7_4_0 g7_4_1 g7_5_0 g7_5_1
        go_wp2
        go_roundw
        case rel => exact ⟨1, by omega, rfl, (by repeat' (first | exact Below.refl _ _ | assumption | (with_reducible refine bdrewN ?_ _) | (with_reducible refine bdrew ?_) | (with_reducible refine bset ?_ ?_) | (with_reducible refine balloc0 ?_) | (with_reducible refine balloc ?_ ?_) | (apply btrans0; rotate_left; assumption) | (apply btrans; rotate_left; assumption) | (simp; done) | omega | (simp; omega)))⟩
        case measure => simp [intOf]
    · obtain ⟨⟨⟨xn, xd⟩, xe⟩, hx⟩ : ∃ x, opS mul0 (an, ad) (bn, bd) = x := ⟨_, rfl⟩
      obtain ⟨⟨⟨ln, ld⟩, le⟩, hl⟩ : ∃ x, opS mul0 (xn, xd) (cn, cd) = x := ⟨_, rfl⟩
      obtain ⟨⟨⟨zn, zd⟩, ze⟩, hz⟩ : ∃ x, opS mul0 (bn, bd) (cn, cd) = x := ⟨_, rfl⟩
      obtain ⟨⟨⟨rn, rd⟩, re⟩, hr⟩ : ∃ x, opS mul0 (an, ad) (zn, zd) = x := ⟨_, rfl⟩
      have hy := HFM.out.com
      rw [hx] at hy
      have hcode := HFM.out.code
      rw [hx] at hcode
      simp only at hcode
      have fit : xe = 0 → chk (xn, xd) = 0 := fun h => by subst h; exact (chk_iff _).2 (HFM.out.fit _ _ _ hx)
      have ass : xe = 0 → le = 0 → ze = 0 → re = 0 → ln = rn ∧ ld = rd := fun h1 h2 h3 h4 => by subst h1 h2 h3 h4; have := HFM.out.ass _ _ _ _ hx hl hz hr; simpa using this
      obtain ⟨⟨xn1, xn2⟩, xd1, xd2⟩ := opS_bd mul_fin hx
      obtain ⟨⟨zn1, zn2⟩, zd1, zd2⟩ := opS_bd mul_fin hz
      have HX := Lib.hid hx
      have HY := Lib.hid hy
      have HL := Lib.hid hl
      have HZ := Lib.hid hz
      have HR := Lib.hid hr
      clear hx hy hl hz hr
      rcases hcode with rfl | rfl
      · have hF := fit rfl
        have HF := Lib.hid hF
        clear hF fit
        by_cases e1 : le = 0
        · subst e1
          by_cases e2 : ze = 0
          · subst e2
            by_cases e3 : re = 0
            · subst e3
              obtain ⟨rfl, rfl⟩ := ass rfl rfl rfl rfl
              clear ass
              go_wp2_with fail
              refine (mul_any an ad bn bd xn xd 0 _ an1 an2 ad1 ad2 bn1 bn2 bd1 bd2 HX.out).mono ?_
              rintro e w4 ⟨rfl, hb4⟩
              have cc := (bcell hb4).1
              have zz := hb4.size
              try simp at zz
              have l4_0 : w.heap.size < w4.heap.size := by first | omega | (simp at *; omega)
              have g4_0_0 : w4.cell? ⟨w.heap.size, 0, none⟩ = some (.int .i64 an) := by rw [cc _ _ (by first | omega | (simp; done) | (simp; omega))]; first | assumption | go_simp
              have g4_0_1 : w4.cell? ⟨w.heap.size, 1, none⟩ = some (.int .i64 ad) := by rw [cc _ _ (by first | omega | (simp; done) | (simp; omega))]; first | assumption | go_simp
              have l4_1 : w.heap.size + 1 < w4.heap.size := by first | omega | (simp at *; omega)
              have g4_1_0 : w4.cell? ⟨w.heap.size + 1, 0, none⟩ = some (.int .i64 bn) := by rw [cc _ _ (by first | omega | (simp; done) | (simp; omega))]; first | assumption | go_simp
              have g4_1_1 : w4.cell? ⟨w.heap.size + 1, 1, none⟩ = some (.int .i64 bd) := by rw [cc _ _ (by first | omega | (simp; done) | (simp; omega))]; first | assumption | go_simp
              have l4_2 : w.heap.size + 2 < w4.heap.size := by first | omega | (simp at *; omega)
              have g4_2_0 : w4.cell? ⟨w.heap.size + 2, 0, none⟩ = some (.int .i64 cn) := by rw [cc _ _ (by first | omega | (simp; done) | (simp; omega))]; first | assumption | go_simp
              have g4_2_1 : w4.cell? ⟨w.heap.size + 2, 1, none⟩ = some (.int .i64 cd) := by rw [cc _ _ (by first | omega | (simp; done) | (simp; omega))]; first | assumption | go_simp
              clear cc zz
              go_wp2_with fail
              refine (mul_any bn bd an ad xn xd 0 _ bn1 bn2 bd1 bd2 an1 an2 ad1 ad2 HY.out).mono ?_
              rintro e w5 ⟨rfl, hb5⟩
              have cc := (bcell hb5).1
              have zz := hb5.size
              try simp at zz
              have l5_0 : w.heap.size < w5.heap.size := by first | omega | (simp at *; omega)
              have g5_0_0 : w5.cell? ⟨w.heap.size, 0, none⟩ = some (.int .i64 an) := by rw [cc _ _ (by first | omega | (simp; done) | (simp; omega))]; first | assumption | go_simp
              have g5_0_1 : w5.cell? ⟨w.heap.size, 1, none⟩ = some (.int .i64 ad) := by rw [cc _ _ (by first | omega | (simp; done) | (simp; omega))]; first | assumption | go_simp
              have l5_1 : w.heap.size + 1 < w5.heap.size := by first | omega | (simp at *; omega)
              have g5_1_0 : w5.cell? ⟨w.heap.size + 1, 0, none⟩ = some (.int .i64 bn) := by rw [cc _ _ (by first | omega | (simp; done) | (simp; omega))]; first | assumption | go_simp
              have g5_1_1 : w5.cell? ⟨w.heap.size + 1, 1, none⟩ = some (.int .i64 bd) := by rw [cc _ _ (by first | omega | (simp; done) | (simp; omega))]; first | assumption | go_simp
              have l5_2 : w.heap.size + 2 < w5.heap.size := by first | omega | (simp at *; omega)
              have g5_2_0 : w5.cell? ⟨w.heap.size + 2, 0, none⟩ = some (.int .i64 cn) := by rw [cc _ _ (by first | omega | (simp; done) | (simp; omega))]; first | assumption | go_simp
              have g5_2_1 : w5.cell? ⟨w.heap.size + 2, 1, none⟩ = some (.int .i64 cd) := by rw [cc _ _ (by first | omega | (simp; done) | (simp; omega))]; first | assumption | go_simp
              have l5_3 : w4.heap.size < w5.heap.size := by first | omega | (simp at *; omega)
              have g5_3_0 : w5.cell? ⟨w4.heap.size, 0, none⟩ = some (.int .i64 xn) := by rw [cc _ _ (by first | omega | (simp; done) | (simp; omega))]; first | assumption | go_simp
              have g5_3_1 : w5.cell? ⟨w4.heap.size, 1, none⟩ = some (.int .i64 xd) := by rw [cc _ _ (by first | omega | (simp; done) | (simp; omega))]; first | assumption | go_simp
              clear cc zz
              clear g4_0_0 g4_0_1 g4_1_0 g4_1_1 g4_2_0 g4_2_1
              go_wp2_with fail
              refine (check_any xn xd 0 _ xn1 xn2 xd1 xd2 HF.out).mono ?_
              rintro e w6 ⟨rfl, hb6⟩
              have cc := (bcell hb6).1
              have zz := hb6.size
              try simp at zz
              have l6_0 : w.heap.size < w6.heap.size := by first | omega | (simp at *; omega)
              have g6_0_0 : w6.cell? ⟨w.heap.size, 0, none⟩ = some (.int .i64 an) := by rw [cc _ _ (by first | omega | (simp; done) | (simp; omega))]; first | assumption | go_simp
              have g6_0_1 : w6.cell? ⟨w.heap.size, 1, none⟩ = some (.int .i64 ad) := by rw [cc _ _ (by first | omega | (simp; done) | (simp; omega))]; first | assumption | go_simp
              have l6_1 : w.heap.size + 1 < w6.heap.size := by first | omega | (simp at *; omega)
              have g6_1_0 : w6.cell? ⟨w.heap.size + 1, 0, none⟩ = some (.int .i64 bn) := by rw [cc _ _ (by first | omega | (simp; done) | (simp; omega))]; first | assumption | go_simp
              have g6_1_1 : w6.cell? ⟨w.heap.size + 1, 1, none⟩ = some (.int .i64 bd) := by rw [cc _ _ (by first | omega | (simp; done) | (simp; omega))]; first | assumption | go_simp
              have l6_2 : w.heap.size + 2 < w6.heap.size := by first | omega | (simp at *; omega)
              have g6_2_0 : w6.cell? ⟨w.heap.size + 2, 0, none⟩ = some (.int .i64 cn) := by rw [cc _ _ (by first | omega | (simp; done) | (simp; omega))]; first | assumption | go_simp
              have g6_2_1 : w6.cell? ⟨w.heap.size + 2, 1, none⟩ = some (.int .i64 cd) := by rw [cc _ _ (by first | omega | (simp; done) | (simp; omega))]; first | assumption | go_simp
              have l6_3 : w4.heap.size < w6.heap.size := by first | omega | (simp at *; omega)
              have g6_3_0 : w6.cell? ⟨w4.heap.size, 0, none⟩ = some (.int .i64 xn) := by rw [cc _ _ (by first | omega | (simp; done) | (simp; omega))]; first | assumption | go_simp
              have g6_3_1 : w6.cell? ⟨w4.heap.size, 1, none⟩ = some (.int .i64 xd) := by rw [cc _ _ (by first | omega | (simp; done) | (simp; omega))]; first | assumption | go_simp
              have l6_4 : w5.heap.size < w6.heap.size := by first | omega | (simp at *; omega)
              have g6_4_0 : w6.cell? ⟨w5.heap.size, 0, none⟩ = some (.int .i64 xn) := by rw [cc _ _ (by first | omega | (simp; done) | (simp; omega))]; first | assumption | go_simp
              have g6_4_1 : w6.cell? ⟨w5.heap.size, 1, none⟩ = some (.int .i64 xd) := by rw [cc _ _ (by first | omega | (simp; done) | (simp; omega))]; first | assumption | go_simp
              clear cc zz
              clear g5_0_0 g5_0_1 g5_1_0 g5_1_1 g5_2_0 g5_2_1 g5_3_0 g5_3_1
              go_wp2_with fail
              refine (mul_any xn xd cn cd ln ld 0 _ xn1 xn2 xd1 xd2 cn1 cn2 cd1 cd2 HL.out).mono ?_
              rintro e w7 ⟨rfl, hb7⟩
              have cc := (bcell hb7).1
              have zz := hb7.size
              try simp at zz
              have l7_0 : w.heap.size < w7.heap.size := by first | omega | (simp at *; omega)
              have g7_0_0 : w7.cell? ⟨w.heap.size, 0, none⟩ = some (.int .i64 an) := by rw [cc _ _ (by first | omega | (simp; done) | (simp; omega))]; first | assumption | go_simp
              have g7_0_1 : w7.cell? ⟨w.heap.size, 1, none⟩ = some (.int .i64 ad) := by rw [cc _ _ (by first | omega | (simp; done) | (simp; omega))]; first | assumption | go_simp
              have l7_1 : w.heap.size + 1 < w7.heap.size := by first | omega | (simp at *; omega)
              have g7_1_0 : w7.cell? ⟨w.heap.size + 1, 0, none⟩ = some (.int .i64 bn) := by rw [cc _ _ (by first | omega | (simp; done) | (simp; omega))]; first | assumption | go_simp
              have g7_1_1 : w7.cell? ⟨w.heap.size + 1, 1, none⟩ = some (.int .i64 bd) := by rw [cc _ _ (by first | omega | (simp; done) | (simp; omega))]; first | assumption | go_simp
              have l7_2 : w.heap.size + 2 < w7.heap.size := by first | omega | (simp at *; omega)
              have g7_2_0 : w7.cell? ⟨w.heap.size + 2, 0, none⟩ = some (.int .i64 cn) := by rw [cc _ _ (by first | omega | (simp; done) | (simp; omega))]; first | assumption | go_simp
              have g7_2_1 : w7.cell? ⟨w.heap.size + 2, 1, none⟩ = some (.int .i64 cd) := by rw [cc _ _ (by first | omega | (simp; done) | (simp; omega))]; first | assumption | go_simp
              have l7_3 : w4.heap.size < w7.heap.size := by first | omega | (simp at *; omega)
              have g7_3_0 : w7.cell? ⟨w4.heap.size, 0, none⟩ = some (.int .i64 xn) := by rw [cc _ _ (by first | omega | (simp; done) | (simp; omega))]; first | assumption | go_simp
              have g7_3_1 : w7.cell? ⟨w4.heap.size, 1, none⟩ = some (.int .i64 xd) := by rw [cc _ _ (by first | omega | (simp; done) | (simp; omega))]; first | assumption | go_simp
              have l7_4 : w5.heap.size < w7.heap.size := by first | omega | (simp at *; omega)
              have g7_4_0 : w7.cell? ⟨w5.heap.size, 0, none⟩ = some (.int .i64 xn) := by rw [cc _ _ (by first | omega | (simp; done) | (simp; omega))]; first | assumption | go_simp
              have g7_4_1 : w7.cell? ⟨w5.heap.size, 1, none⟩ = some (.int .i64 xd) := by rw [cc _ _ (by first | omega | (simp; done) | (simp; omega))]; first | assumption | go_simp
              clear cc zz
              clear g6_0_0 g6_0_1 g6_1_0 g6_1_1 g6_2_0 g6_2_1 g6_3_0 g6_3_1 g6_4_0 g6_4_1
              go_wp2_with fail
              refine (mul_any bn bd cn cd zn zd 0 _ bn1 bn2 bd1 bd2 cn1 cn2 cd1 cd2 HZ.out).mono ?_
              rintro e w8 ⟨rfl, hb8⟩
              have cc := (bcell hb8).1
              have zz := hb8.size
              try simp at zz
              have l8_0 : w.heap.size < w8.heap.size := by first | omega | (simp at *; omega)
              have g8_0_0 : w8.cell? ⟨w.heap.size, 0, none⟩ = some (.int .i64 an) := by rw [cc _ _ (by first | omega | (simp; done) | (simp; omega))]; first | assumption | go_simp
              have g8_0_1 : w8.cell? ⟨w.heap.size, 1, none⟩ = some (.int .i64 ad) := by rw [cc _ _ (by first | omega | (simp; done) | (simp; omega))]; first | assumption | go_simp
              have l8_1 : w.heap.size + 1 < w8.heap.size := by first | omega | (simp at *; omega)
              have g8_1_0 : w8.cell? ⟨w.heap.size + 1, 0, none⟩ = some (.int .i64 bn) := by rw [cc _ _ (by first | omega | (simp; done) | (simp; omega))]; first | assumption | go_simp
              have g8_1_1 : w8.cell? ⟨w.heap.size + 1, 1, none⟩ = some (.int .i64 bd) := by rw [cc _ _ (by first | omega | (simp; done) | (simp; omega))]; first | assumption | go_simp
              have l8_2 : w.heap.size + 2 < w8.heap.size := by first | omega | (simp at *; omega)
              have g8_2_0 : w8.cell? ⟨w.heap.size + 2, 0, none⟩ = some (.int .i64 cn) := by rw [cc _ _ (by first | omega | (simp; done) | (simp; omega))]; first | assumption | go_simp
              have g8_2_1 : w8.cell? ⟨w.heap.size + 2, 1, none⟩ = some (.int .i64 cd) := by rw [cc _ _ (by first | omega | (simp; done) | (simp; omega))]; first | assumption | go_simp
              have l8_3 : w4.heap.size < w8.heap.size := by first | omega | (simp at *; omega)
              have g8_3_0 : w8.cell? ⟨w4.heap.size, 0, none⟩ = some (.int .i64 xn) := by rw [cc _ _ (by first | omega | (simp; done) | (simp; omega))]; first | assumption | go_simp
              have g8_3_1 : w8.cell? ⟨w4.heap.size, 1, none⟩ = some (.int .i64 xd) := by rw [cc _ _ (by first | omega | (simp; done) | (simp; omega))]; first | assumption | go_simp
              have l8_4 : w5.heap.size < w8.heap.size := by first | omega | (simp at *; omega)
              have g8_4_0 : w8.cell? ⟨w5.heap.size, 0, none⟩ = some (.int .i64 xn) := by rw [cc _ _ (by first | omega | (simp; done) | (simp; omega))]; first | assumption | go_simp
              have g8_4_1 : w8.cell? ⟨w5.heap.size, 1, none⟩ = some (.int .i64 xd) := by rw [cc _ _ (by first | omega | (simp; done) | (simp; omega))]; first | assumption | go_simp
              have l8_5 : w7.heap.size < w8.heap.size := by first | omega | (simp at *; omega)
              have g8_5_0 : w8.cell? ⟨w7.heap.size, 0, none⟩ = some (.int .i64 ln) := by rw [cc _ _ (by first | omega | (simp; done) | (simp; omega))]; first | assumption | go_simp
              have g8_5_1 : w8.cell? ⟨w7.heap.size, 1, none⟩ = some (.int .i64 ld) := by rw [cc _ _ (by first | omega | (simp; done) | (simp; omega))]; first | assumption | go_simp
              clear cc zz
              clear g7_0_0 g7_0_1 g7_1_0 g7_1_1 g7_2_0 g7_2_1 g7_3_0 g7_3_1 g7_4_0 g7_4_1
              go_wp2_with fail
              refine (mul_any an ad zn zd ln ld 0 _ an1 an2 ad1 ad2 zn1 zn2 zd1 zd2 HR.out).mono ?_
              rintro e w9 ⟨rfl, hb9⟩
              have cc := (bcell hb9).1
              have zz := hb9.size
              try simp at zz
              have l9_0 : w.heap.size < w9.heap.size := by first | omega | (simp at *; omega)
              have g9_0_0 : w9.cell? ⟨w.heap.size, 0, none⟩ = some (.int .i64 an) := by rw [cc _ _ (by first | omega | (simp; done) | (simp; omega))]; first | assumption | go_simp
              have g9_0_1 : w9.cell? ⟨w.heap.size, 1, none⟩ = some (.int .i64 ad) := by rw [cc _ _ (by first | omega | (simp; done) | (simp; omega))]; first | assumption | go_simp
              have l9_1 : w.heap.size + 1 < w9.heap.size := by first | omega | (simp at *; omega)
              have g9_1_0 : w9.cell? ⟨w.heap.size + 1, 0, none⟩ = some (.int .i64 bn) := by rw [cc _ _ (by first | omega | (simp; done) | (simp; omega))]; first | assumption | go_simp
              have g9_1_1 : w9.cell? ⟨w.heap.size + 1, 1, none⟩ = some (.int .i64 bd) := by rw [cc _ _ (by first | omega | (simp; done) | (simp; omega))]; first | assumption | go_simp
              have l9_2 : w.heap.size + 2 < w9.heap.size := by first | omega | (simp at *; omega)
              have g9_2_0 : w9.cell? ⟨w.heap.size + 2, 0, none⟩ = some (.int .i64 cn) := by rw [cc _ _ (by first | omega | (simp; done) | (simp; omega))]; first | assumption | go_simp
              have g9_2_1 : w9.cell? ⟨w.heap.size + 2, 1, none⟩ = some (.int .i64 cd) := by rw [cc _ _ (by first | omega | (simp; done) | (simp; omega))]; first | assumption | go_simp
              have l9_3 : w4.heap.size < w9.heap.size := by first | omega | (simp at *; omega)
              have g9_3_0 : w9.cell? ⟨w4.heap.size, 0, none⟩ = some (.int .i64 xn) := by rw [cc _ _ (by first | omega | (simp; done) | (simp; omega))]; first | assumption | go_simp
              have g9_3_1 : w9.cell? ⟨w4.heap.size, 1, none⟩ = some (.int .i64 xd) := by rw [cc _ _ (by first | omega | (simp; done) | (simp; omega))]; first | assumption | go_simp
              have l9_4 : w5.heap.size < w9.heap.size := by first | omega | (simp at *; omega)
              have g9_4_0 : w9.cell? ⟨w5.heap.size, 0, none⟩ = some (.int .i64 xn) := by rw [cc _ _ (by first | omega | (simp; done) | (simp; omega))]; first | assumption | go_simp
              have g9_4_1 : w9.cell? ⟨w5.heap.size, 1, none⟩ = some (.int .i64 xd) := by rw [cc _ _ (by first | omega | (simp; done) | (simp; omega))]; first | assumption | go_simp
              have l9_5 : w7.heap.size < w9.heap.size := by first | omega | (simp at *; omega)
              have g9_5_0 : w9.cell? ⟨w7.heap.size, 0, none⟩ = some (.int .i64 ln) := by rw [cc _ _ (by first | omega | (simp; done) | (simp; omega))]; first | assumption | go_simp
              have g9_5_1 : w9.cell? ⟨w7.heap.size, 1, none⟩ = some (.int .i64 ld) := by rw [cc _ _ (by first | omega | (simp; done) | (simp; omega))]; first | assumption | go_simp
              have l9_6 : w8.heap.size < w9.heap.size := by first | omega | (simp at *; omega)
              have g9_6_0 : w9.cell? ⟨w8.heap.size, 0, none⟩ = some (.int .i64 zn) := by rw [cc _ _ (by first | omega | (simp; done) | (simp; omega))]; first | assumption | go_simp
              have g9_6_1 : w9.cell? ⟨w8.heap.size, 1, none⟩ = some (.int .i64 zd) := by rw [cc _ _ (by first | omega | (simp; done) | (simp; omega))]; first | assumption | go_simp
              clear cc zz
              clear g8_0_0 g8_0_1 g8_1_0 g8_1_1 g8_2_0 g8_2_1 g8_3_0 g8_3_1 g8_4_0 g8_4_1 g8_5_0 g8_5_1
              go_wp2
              go_roundw
              case rel => exact ⟨2, by omega, rfl, (by repeat' (first | exact Below.refl _ _ | assumption | (with_reducible refine bdrewN ?_ _) | (with_reducible refine bdrew ?_) | (with_reducible refine bset ?_ ?_) | (with_reducible refine balloc0 ?_) | (with_reducible refine balloc ?_ ?_) | (apply btrans0; rotate_left; assumption) | (apply btrans; rotate_left; assumption) | (simp; done) | omega | (simp; omega)))⟩
              case measure => simp [intOf]
            · have e3' : (re == 0) = false := by simpa using e3
              clear ass e3
              go_wp2_with fail
              refine (mul_any an ad bn bd xn xd 0 _ an1 an2 ad1 ad2 bn1 bn2 bd1 bd2 HX.out).mono ?_
              rintro e w4 ⟨rfl, hb4⟩
              have cc := (bcell hb4).1
              have zz := hb4.size
              try simp at zz
              have l4_0 : w.heap.size < w4.heap.size := by first | omega | (simp at *; omega)
              have g4_0_0 : w4.cell? ⟨w.heap.size, 0, none⟩ = some (.int .i64 an) := by rw [cc _ _ (by first | omega | (simp; done) | (simp; omega))]; first | assumption | go_simp
              have g4_0_1 : w4.cell? ⟨w.heap.size, 1, none⟩ = some (.int .i64 ad) := by rw [cc _ _ (by first | omega | (simp; done) | (simp; omega))]; first | assumption | go_simp
              have l4_1 : w.heap.size + 1 < w4.heap.size := by first | omega | (simp at *; omega)
              have g4_1_0 : w4.cell? ⟨w.heap.size + 1, 0, none⟩ = some (.int .i64 bn) := by rw [cc _ _ (by first | omega | (simp; done) | (simp; omega))]; first | assumption | go_simp
              have g4_1_1 : w4.cell? ⟨w.heap.size + 1, 1, none⟩ = some (.int .i64 bd) := by rw [cc _ _ (by first | omega | (simp; done) | (simp; omega))]; first | assumption | go_simp
              have l4_2 : w.heap.size + 2 < w4.heap.size := by first | omega | (simp at *; omega)
              have g4_2_0 : w4.cell? ⟨w.heap.size + 2, 0, none⟩ = some (.int .i64 cn) := by rw [cc _ _ (by first | omega | (simp; done) | (simp; omega))]; first | assumption | go_simp
              have g4_2_1 : w4.cell? ⟨w.heap.size + 2, 1, none⟩ = some (.int .i64 cd) := by rw [cc _ _ (by first | omega | (simp; done) | (simp; omega))]; first | assumption | go_simp
              clear cc zz
              go_wp2_with fail
              refine (mul_any bn bd an ad xn xd 0 _ bn1 bn2 bd1 bd2 an1 an2 ad1 ad2 HY.out).mono ?_
              rintro e w5 ⟨rfl, hb5⟩
              have cc := (bcell hb5).1
              have zz := hb5.size
              try simp at zz
              have l5_0 : w.heap.size < w5.heap.size := by first | omega | (simp at *; omega)
              have g5_0_0 : w5.cell? ⟨w.heap.size, 0, none⟩ = some (.int .i64 an) := by rw [cc _ _ (by first | omega | (simp; done) | (simp; omega))]; first | assumption | go_simp
              have g5_0_1 : w5.cell? ⟨w.heap.size, 1, none⟩ = some (.int .i64 ad) := by rw [cc _ _ (by first | omega | (simp; done) | (simp; omega))]; first | assumption | go_simp
              have l5_1 : w.heap.size + 1 < w5.heap.size := by first | omega | (simp at *; omega)
              have g5_1_0 : w5.cell? ⟨w.heap.size + 1, 0, none⟩ = some (.int .i64 bn) := by rw [cc _ _ (by first | omega | (simp; done) | (simp; omega))]; first | assumption | go_simp
              have g5_1_1 : w5.cell? ⟨w.heap.size + 1, 1, none⟩ = some (.int .i64 bd) := by rw [cc _ _ (by first | omega | (simp; done) | (simp; omega))]; first | assumption | go_simp
              have l5_2 : w.heap.size + 2 < w5.heap.size := by first | omega | (simp at *; omega)
              have g5_2_0 : w5.cell? ⟨w.heap.size + 2, 0, none⟩ = some (.int .i64 cn) := by rw [cc _ _ (by first | omega | (simp; done) | (simp; omega))]; first | assumption | go_simp
              have g5_2_1 : w5.cell? ⟨w.heap.size + 2, 1, none⟩ = some (.int .i64 cd) := by rw [cc _ _ (by first | omega | (simp; done) | (simp; omega))]; first | assumption | go_simp
              have l5_3 : w4.heap.size < w5.heap.size := by first | omega | (simp at *; omega)
              have g5_3_0 : w5.cell? ⟨w4.heap.size, 0, none⟩ = some (.int .i64 xn) := by rw [cc _ _ (by first | omega | (simp; done) | (simp; omega))]; first | assumption | go_simp
              have g5_3_1 : w5.cell? ⟨w4.heap.size, 1, none⟩ = some (.int .i64 xd) := by rw [cc _ _ (by first | omega | (simp; done) | (simp; omega))]; first | assumption | go_simp
              clear cc zz
              clear g4_0_0 g4_0_1 g4_1_0 g4_1_1 g4_2_0 g4_2_1
              go_wp2_with fail
              refine (check_any xn xd 0 _ xn1 xn2 xd1 xd2 HF.out).mono ?_
              rintro e w6 ⟨rfl, hb6⟩
              have cc := (bcell hb6).1
              have zz := hb6.size
              try simp at zz
              have l6_0 : w.heap.size < w6.heap.size := by first | omega | (simp at *; omega)
              have g6_0_0 : w6.cell? ⟨w.heap.size, 0, none⟩ = some (.int .i64 an) := by rw [cc _ _ (by first | omega | (simp; done) | (simp; omega))]; first | assumption | go_simp
              have g6_0_1 : w6.cell? ⟨w.heap.size, 1, none⟩ = some (.int .i64 ad) := by rw [cc _ _ (by first | omega | (simp; done) | (simp; omega))]; first | assumption | go_simp
              have l6_1 : w.heap.size + 1 < w6.heap.size := by first | omega | (simp at *; omega)
              have g6_1_0 : w6.cell? ⟨w.heap.size + 1, 0, none⟩ = some (.int .i64 bn) := by rw [cc _ _ (by first | omega | (simp; done) | (simp; omega))]; first | assumption | go_simp
              have g6_1_1 : w6.cell? ⟨w.heap.size + 1, 1, none⟩ = some (.int .i64 bd) := by rw [cc _ _ (by first | omega | (simp; done) | (simp; omega))]; first | assumption | go_simp
              have l6_2 : w.heap.size + 2 < w6.heap.size := by first | omega | (simp at *; omega)
              have g6_2_0 : w6.cell? ⟨w.heap.size + 2, 0, none⟩ = some (.int .i64 cn) := by rw [cc _ _ (by first | omega | (simp; done) | (simp; omega))]; first | assumption | go_simp
              have g6_2_1 : w6.cell? ⟨w.heap.size + 2, 1, none⟩ = some (.int .i64 cd) := by rw [cc _ _ (by first | omega | (simp; done) | (simp; omega))]; first | assumption | go_simp
              have l6_3 : w4.heap.size < w6.heap.size := by first | omega | (simp at *; omega)
              have g6_3_0 : w6.cell? ⟨w4.heap.size, 0, none⟩ = some (.int .i64 xn) := by rw [cc _ _ (by first | omega | (simp; done) | (simp; omega))]; first | assumption | go_simp
              have g6_3_1 : w6.cell? ⟨w4.heap.size, 1, none⟩ = some (.int .i64 xd) := by rw [cc _ _ (by first | omega | (simp; done) | (simp; omega))]; first | assumption | go_simp
              have l6_4 : w5.heap.size < w6.heap.size := by first | omega | (simp at *; omega)
              have g6_4_0 : w6.cell? ⟨w5.heap.size, 0, none⟩ = some (.int .i64 xn) := by rw [cc _ _ (by first | omega | (simp; done) | (simp; omega))]; first | assumption | go_simp
              have g6_4_1 : w6.cell? ⟨w5.heap.size, 1, none⟩ = some (.int .i64 xd) := by rw [cc _ _ (by first | omega | (simp; done) | (simp; omega))]; first | assumption | go_simp
              clear cc zz
              clear g5_0_0 g5_0_1 g5_1_0 g5_1_1 g5_2_0 g5_2_1 g5_3_0 g5_3_1
              go_wp2_with fail
              refine (mul_any xn xd cn cd ln ld 0 _ xn1 xn2 xd1 xd2 cn1 cn2 cd1 cd2 HL.out).mono ?_
              rintro e w7 ⟨rfl, hb7⟩
              have cc := (bcell hb7).1
              have zz := hb7.size
              try simp at zz
              have l7_0 : w.heap.size < w7.heap.size := by first | omega | (simp at *; omega)
              have g7_0_0 : w7.cell? ⟨w.heap.size, 0, none⟩ = some (.int .i64 an) := by rw [cc _ _ (by first | omega | (simp; done) | (simp; omega))]; first | assumption | go_simp
              have g7_0_1 : w7.cell? ⟨w.heap.size, 1, none⟩ = some (.int .i64 ad) := by rw [cc _ _ (by first | omega | (simp; done) | (simp; omega))]; first | assumption | go_simp
              have l7_1 : w.heap.size + 1 < w7.heap.size := by first | omega | (simp at *; omega)
              have g7_1_0 : w7.cell? ⟨w.heap.size + 1, 0, none⟩ = some (.int .i64 bn) := by rw [cc _ _ (by first | omega | (simp; done) | (simp; omega))]; first | assumption | go_simp
              have g7_1_1 : w7.cell? ⟨w.heap.size + 1, 1, none⟩ = some (.int .i64 bd) := by rw [cc _ _ (by first | omega | (simp; done) | (simp; omega))]; first | assumption | go_simp
              have l7_2 : w.heap.size + 2 < w7.heap.size := by first | omega | (simp at *; omega)
              have g7_2_0 : w7.cell? ⟨w.heap.size + 2, 0, none⟩ = some (.int .i64 cn) := by rw [cc _ _ (by first | omega | (simp; done) | (simp; omega))]; first | assumption | go_simp
              have g7_2_1 : w7.cell? ⟨w.heap.size + 2, 1, none⟩ = some (.int .i64 cd) := by rw [cc _ _ (by first | omega | (simp; done) | (simp; omega))]; first | assumption | go_simp
              have l7_3 : w4.heap.size < w7.heap.size := by first | omega | (simp at *; omega)
              have g7_3_0 : w7.cell? ⟨w4.heap.size, 0, none⟩ = some (.int .i64 xn) := by rw [cc _ _ (by first | omega | (simp; done) | (simp; omega))]; first | assumption | go_simp
              have g7_3_1 : w7.cell? ⟨w4.heap.size, 1, none⟩ = some (.int .i64 xd) := by rw [cc _ _ (by first | omega | (simp; done) | (simp; omega))]; first | assumption | go_simp
              have l7_4 : w5.heap.size < w7.heap.size := by first | omega | (simp at *; omega)
              have g7_4_0 : w7.cell? ⟨w5.heap.size, 0, none⟩ = some (.int .i64 xn) := by rw [cc _ _ (by first | omega | (simp; done) | (simp; omega))]; first | assumption | go_simp
              have g7_4_1 : w7.cell? ⟨w5.heap.size, 1, none⟩ = some (.int .i64 xd) := by rw [cc _ _ (by first | omega | (simp; done) | (simp; omega))]; first | assumption | go_simp
              clear cc zz
              clear g6_0_0 g6_0_1 g6_1_0 g6_1_1 g6_2_0 g6_2_1 g6_3_0 g6_3_1 g6_4_0 g6_4_1
              go_wp2_with fail
              refine (mul_any bn bd cn cd zn zd 0 _ bn1 bn2 bd1 bd2 cn1 cn2 cd1 cd2 HZ.out).mono ?_
              rintro e w8 ⟨rfl, hb8⟩
              have cc := (bcell hb8).1
              have zz := hb8.size
              try simp at zz
              have l8_0 : w.heap.size < w8.heap.size := by first | omega | (simp at *; omega)
              have g8_0_0 : w8.cell? ⟨w.heap.size, 0, none⟩ = some (.int .i64 an) := by rw [cc _ _ (by first | omega | (simp; done) | (simp; omega))]; first | assumption | go_simp
              have g8_0_1 : w8.cell? ⟨w.heap.size, 1, none⟩ = some (.int .i64 ad) := by rw [cc _ _ (by first | omega | (simp; done) | (simp; omega))]; first | assumption | go_simp
              have l8_1 : w.heap.size + 1 < w8.heap.size := by first | omega | (simp at *; omega)
              have g8_1_0 : w8.cell? ⟨w.heap.size + 1, 0, none⟩ = some (.int .i64 bn) := by rw [cc _ _ (by first | omega | (simp; done) | (simp; omega))]; first | assumption | go_simp
              have g8_1_1 : w8.cell? ⟨w.heap.size + 1, 1, none⟩ = some (.int .i64 bd) := by rw [cc _ _ (by first | omega | (simp; done) | (simp; omega))]; first | assumption | go_simp
              have l8_2 : w.heap.size + 2 < w8.heap.size := by first | omega | (simp at *; omega)
              have g8_2_0 : w8.cell? ⟨w.heap.size + 2, 0, none⟩ = some (.int .i64 cn) := by rw [cc _ _ (by first | omega | (simp; done) | (simp; omega))]; first | assumption | go_simp
              have g8_2_1 : w8.cell? ⟨w.heap.size + 2, 1, none⟩ = some (.int .i64 cd) := by rw [cc _ _ (by first | omega | (simp; done) | (simp; omega))]; first | assumption | go_simp
              have l8_3 : w4.heap.size < w8.heap.size := by first | omega | (simp at *; omega)
              have g8_3_0 : w8.cell? ⟨w4.heap.size, 0, none⟩ = some (.int .i64 xn) := by rw [cc _ _ (by first | omega | (simp; done) | (simp; omega))]; first | assumption | go_simp
              have g8_3_1 : w8.cell? ⟨w4.heap.size, 1, none⟩ = some (.int .i64 xd) := by rw [cc _ _ (by first | omega | (simp; done) | (simp; omega))]; first | assumption | go_simp
              have l8_4 : w5.heap.size < w8.heap.size := by first | omega | (simp at *; omega)
              have g8_4_0 : w8.cell? ⟨w5.heap.size, 0, none⟩ = some (.int .i64 xn) := by rw [cc _ _ (by first | omega | (simp; done) | (simp; omega))]; first | assumption | go_simp
              have g8_4_1 : w8.cell? ⟨w5.heap.size, 1, none⟩ = some (.int .i64 xd) := by rw [cc _ _ (by first | omega | (simp; done) | (simp; omega))]; first | assumption | go_simp
              have l8_5 : w7.heap.size < w8.heap.size := by first | omega | (simp at *; omega)
              have g8_5_0 : w8.cell? ⟨w7.heap.size, 0, none⟩ = some (.int .i64 ln) := by rw [cc _ _ (by first | omega | (simp; done) | (simp; omega))]; first | assumption | go_simp
              have g8_5_1 : w8.cell? ⟨w7.heap.size, 1, none⟩ = some (.int .i64 ld) := by rw [cc _ _ (by first | omega | (simp; done) | (simp; omega))]; first | assumption | go_simp
              clear cc zz
              clear g7_0_0 g7_0_1 g7_1_0 g7_1_1 g7_2_0 g7_2_1 g7_3_0 g7_3_1 g7_4_0 g7_4_1
              go_wp2_with fail
              refine (mul_any an ad zn zd rn rd re _ an1 an2 ad1 ad2 zn1 zn2 zd1 zd2 HR.out).mono ?_
              rintro e w9 ⟨rfl, hb9⟩
              have cc := (bcell hb9).1
              have zz := hb9.size
              try simp at zz
              have l9_0 : w.heap.size < w9.heap.size := by first | omega | (simp at *; omega)
              have g9_0_0 : w9.cell? ⟨w.heap.size, 0, none⟩ = some (.int .i64 an) := by rw [cc _ _ (by first | omega | (simp; done) | (simp; omega))]; first | assumption | go_simp
              have g9_0_1 : w9.cell? ⟨w.heap.size, 1, none⟩ = some (.int .i64 ad) := by rw [cc _ _ (by first | omega | (simp; done) | (simp; omega))]; first | assumption | go_simp
              have l9_1 : w.heap.size + 1 < w9.heap.size := by first | omega | (simp at *; omega)
              have g9_1_0 : w9.cell? ⟨w.heap.size + 1, 0, none⟩ = some (.int .i64 bn) := by rw [cc _ _ (by first | omega | (simp; done) | (simp; omega))]; first | assumption | go_simp
              have g9_1_1 : w9.cell? ⟨w.heap.size + 1, 1, none⟩ = some (.int .i64 bd) := by rw [cc _ _ (by first | omega | (simp; done) | (simp; omega))]; first | assumption | go_simp
              have l9_2 : w.heap.size + 2 < w9.heap.size := by first | omega | (simp at *; omega)
              have g9_2_0 : w9.cell? ⟨w.heap.size + 2, 0, none⟩ = some (.int .i64 cn) := by rw [cc _ _ (by first | omega | (simp; done) | (simp; omega))]; first | assumption | go_simp
              have g9_2_1 : w9.cell? ⟨w.heap.size + 2, 1, none⟩ = some (.int .i64 cd) := by rw [cc _ _ (by first | omega | (simp; done) | (simp; omega))]; first | assumption | go_simp
              have l9_3 : w4.heap.size < w9.heap.size := by first | omega | (simp at *; omega)
              have g9_3_0 : w9.cell? ⟨w4.heap.size, 0, none⟩ = some (.int .i64 xn) := by rw [cc _ _ (by first | omega | (simp; done) | (simp; omega))]; first | assumption | go_simp
              have g9_3_1 : w9.cell? ⟨w4.heap.size, 1, none⟩ = some (.int .i64 xd) := by rw [cc _ _ (by first | omega | (simp; done) | (simp; omega))]; first | assumption | go_simp
              have l9_4 : w5.heap.size < w9.heap.size := by first | omega | (simp at *; omega)
              have g9_4_0 : w9.cell? ⟨w5.heap.size, 0, none⟩ = some (.int .i64 xn) := by rw [cc _ _ (by first | omega | (simp; done) | (simp; omega))]; first | assumption | go_simp
              have g9_4_1 : w9.cell? ⟨w5.heap.size, 1, none⟩ = some (.int .i64 xd) := by rw [cc _ _ (by first | omega | (simp; done) | (simp; omega))]; first | assumption | go_simp
              have l9_5 : w7.heap.size < w9.heap.size := by first | omega | (simp at *; omega)
              have g9_5_0 : w9.cell? ⟨w7.heap.size, 0, none⟩ = some (.int .i64 ln) := by rw [cc _ _ (by first | omega | (simp; done) | (simp; omega))]; first | assumption | go_simp
              have g9_5_1 : w9.cell? ⟨w7.heap.size, 1, none⟩ = some (.int .i64 ld) := by rw [cc _ _ (by first | omega | (simp; done) | (simp; omega))]; first | assumption | go_simp
              have l9_6 : w8.heap.size < w9.heap.size := by first | omega | (simp at *; omega)
              have g9_6_0 : w9.cell? ⟨w8.heap.size, 0, none⟩ = some (.int .i64 zn) := by rw [cc _ _ (by first | omega | (simp; done) | (simp; omega))]; first | assumption | go_simp
              have g9_6_1 : w9.cell? ⟨w8.heap.size, 1, none⟩ = some (.int .i64 zd) := by rw [cc _ _ (by first | omega | (simp; done) | (simp; omega))]; first | assumption | go_simp
              clear cc zz
              clear g8_0_0 g8_0_1 g8_1_0 g8_1_1 g8_2_0 g8_2_1 g8_3_0 g8_3_1 g8_4_0 g8_4_1 g8_5_0 g8_5_1
              go_wp2
              go_roundw
              case rel => exact ⟨2, by omega, rfl, (by repeat' (first | exact Below.refl _ _ | assumption | (with_reducible refine bdrewN ?_ _) | (with_reducible refine bdrew ?_) | (with_reducible refine bset ?_ ?_) | (with_reducible refine balloc0 ?_) | (with_reducible refine balloc ?_ ?_) | (apply btrans0; rotate_left; assumption) | (apply btrans; rotate_left; assumption) | (simp; done) | omega | (simp; omega)))⟩
              case measure => simp [intOf]
          · have e2' : (ze == 0) = false := by simpa using e2
            clear ass e2
            go_wp2_with fail
            refine (mul_any an ad bn bd xn xd 0 _ an1 an2 ad1 ad2 bn1 bn2 bd1 bd2 HX.out).mono ?_
            rintro e w4 ⟨rfl, hb4⟩
            have cc := (bcell hb4).1
            have zz := hb4.size
            try simp at zz
            have l4_0 : w.heap.size < w4.heap.size := by first | omega | (simp at *; omega)
            have g4_0_0 : w4.cell? ⟨w.heap.size, 0, none⟩ = some (.int .i64 an) := by rw [cc _ _ (by first | omega | (simp; done) | (simp; omega))]; first | assumption | go_simp
            have g4_0_1 : w4.cell? ⟨w.heap.size, 1, none⟩ = some (.int .i64 ad) := by rw [cc _ _ (by first | omega | (simp; done) | (simp; omega))]; first | assumption | go_simp
            have l4_1 : w.heap.size + 1 < w4.heap.size := by first | omega | (simp at *; omega)
            have g4_1_0 : w4.cell? ⟨w.heap.size + 1, 0, none⟩ = some (.int .i64 bn) := by rw [cc _ _ (by first | omega | (simp; done) | (simp; omega))]; first | assumption | go_simp
            have g4_1_1 : w4.cell? ⟨w.heap.size + 1, 1, none⟩ = some (.int .i64 bd) := by rw [cc _ _ (by first | omega | (simp; done) | (simp; omega))]; first | assumption | go_simp
            have l4_2 : w.heap.size + 2 < w4.heap.size := by first | omega | (simp at *; omega)
            have g4_2_0 : w4.cell? ⟨w.heap.size + 2, 0, none⟩ = some (.int .i64 cn) := by rw [cc _ _ (by first | omega | (simp; done) | (simp; omega))]; first | assumption | go_simp
            have g4_2_1 : w4.cell? ⟨w.heap.size + 2, 1, none⟩ = some (.int .i64 cd) := by rw [cc _ _ (by first | omega | (simp; done) | (simp; omega))]; first | assumption | go_simp
            clear cc zz
            go_wp2_with fail
            refine (mul_any bn bd an ad xn xd 0 _ bn1 bn2 bd1 bd2 an1 an2 ad1 ad2 HY.out).mono ?_
            rintro e w5 ⟨rfl, hb5⟩
            have cc := (bcell hb5).1
            have zz := hb5.size
            try simp at zz
            have l5_0 : w.heap.size < w5.heap.size := by first | omega | (simp at *; omega)
            have g5_0_0 : w5.cell? ⟨w.heap.size, 0, none⟩ = some (.int .i64 an) := by rw [cc _ _ (by first | omega | (simp; done) | (simp; omega))]; first | assumption | go_simp
            have g5_0_1 : w5.cell? ⟨w.heap.size, 1, none⟩ = some (.int .i64 ad) := by rw [cc _ _ (by first | omega | (simp; done) | (simp; omega))]; first | assumption | go_simp
            have l5_1 : w.heap.size + 1 < w5.heap.size := by first | omega | (simp at *; omega)
            have g5_1_0 : w5.cell? ⟨w.heap.size + 1, 0, none⟩ = some (.int .i64 bn) := by rw [cc _ _ (by first | omega | (simp; done) | (simp; omega))]; first | assumption | go_simp
            have g5_1_1 : w5.cell? ⟨w.heap.size + 1, 1, none⟩ = some (.int .i64 bd) := by rw [cc _ _ (by first | omega | (simp; done) | (simp; omega))]; first | assumption | go_simp
            have l5_2 : w.heap.size + 2 < w5.heap.size := by first | omega | (simp at *; omega)
            have g5_2_0 : w5.cell? ⟨w.heap.size + 2, 0, none⟩ = some (.int .i64 cn) := by rw [cc _ _ (by first | omega | (simp; done) | (simp; omega))]; first | assumption | go_simp
            have g5_2_1 : w5.cell? ⟨w.heap.size + 2, 1, none⟩ = some (.int .i64 cd) := by rw [cc _ _ (by first | omega | (simp; done) | (simp; omega))]; first | assumption | go_simp
            have l5_3 : w4.heap.size < w5.heap.size := by first | omega | (simp at *; omega)
            have g5_3_0 : w5.cell? ⟨w4.heap.size, 0, none⟩ = some (.int .i64 xn) := by rw [cc _ _ (by first | omega | (simp; done) | (simp; omega))]; first | assumption | go_simp
            have g5_3_1 : w5.cell? ⟨w4.heap.size, 1, none⟩ = some (.int .i64 xd) := by rw [cc _ _ (by first | omega | (simp; done) | (simp; omega))]; first | assumption | go_simp
            clear cc zz
            clear g4_0_0 g4_0_1 g4_1_0 g4_1_1 g4_2_0 g4_2_1
            go_wp2_with fail
            refine (check_any xn xd 0 _ xn1 xn2 xd1 xd2 HF.out).mono ?_
            rintro e w6 ⟨rfl, hb6⟩
            have cc := (bcell hb6).1
            have zz := hb6.size
            try simp at zz
            have l6_0 : w.heap.size < w6.heap.size := by first | omega | (simp at *; omega)
            have g6_0_0 : w6.cell? ⟨w.heap.size, 0, none⟩ = some (.int .i64 an) := by rw [cc _ _ (by first | omega | (simp; done) | (simp; omega))]; first | assumption | go_simp
            have g6_0_1 : w6.cell? ⟨w.heap.size, 1, none⟩ = some (.int .i64 ad) := by rw [cc _ _ (by first | omega | (simp; done) | (simp; omega))]; first | assumption | go_simp
            have l6_1 : w.heap.size + 1 < w6.heap.size := by first | omega | (simp at *; omega)
            have g6_1_0 : w6.cell? ⟨w.heap.size + 1, 0, none⟩ = some (.int .i64 bn) := by rw [cc _ _ (by first | omega | (simp; done) | (simp; omega))]; first | assumption | go_simp
            have g6_1_1 : w6.cell? ⟨w.heap.size + 1, 1, none⟩ = some (.int .i64 bd) := by rw [cc _ _ (by first | omega | (simp; done) | (simp; omega))]; first | assumption | go_simp
            have l6_2 : w.heap.size + 2 < w6.heap.size := by first | omega | (simp at *; omega)
            have g6_2_0 : w6.cell? ⟨w.heap.size + 2, 0, none⟩ = some (.int .i64 cn) := by rw [cc _ _ (by first | omega | (simp; done) | (simp; omega))]; first | assumption | go_simp
            have g6_2_1 : w6.cell? ⟨w.heap.size + 2, 1, none⟩ = some (.int .i64 cd) := by rw [cc _ _ (by first | omega | (simp; done) | (simp; omega))]; first | assumption | go_simp
            have l6_3 : w4.heap.size < w6.heap.size := by first | omega | (simp at *; omega)
            have g6_3_0 : w6.cell? ⟨w4.heap.size, 0, none⟩ = some (.int .i64 xn) := by rw [cc _ _ (by first | omega | (simp; done) | (simp; omega))]; first | assumption | go_simp
            have g6_3_1 : w6.cell? ⟨w4.heap.size, 1, none⟩ = some (.int .i64 xd) := by rw [cc _ _ (by first | omega | (simp; done) | (simp; omega))]; first | assumption | go_simp
            have l6_4 : w5.heap.size < w6.heap.size := by first | omega | (simp at *; omega)
            have g6_4_0 : w6.cell? ⟨w5.heap.size, 0, none⟩ = some (.int .i64 xn) := by rw [cc _ _ (by first | omega | (simp; done) | (simp; omega))]; first | assumption | go_simp
            have g6_4_1 : w6.cell? ⟨w5.heap.size, 1, none⟩ = some (.int .i64 xd) := by rw [cc _ _ (by first | omega | (simp; done) | (simp; omega))]; first | assumption | go_simp
            clear cc zz
            clear g5_0_0 g5_0_1 g5_1_0 g5_1_1 g5_2_0 g5_2_1 g5_3_0 g5_3_1
            go_wp2_with fail
            refine (mul_any xn xd cn cd ln ld 0 _ xn1 xn2 xd1 xd2 cn1 cn2 cd1 cd2 HL.out).mono ?_
            rintro e w7 ⟨rfl, hb7⟩
            have cc := (bcell hb7).1
            have zz := hb7.size
            try simp at zz
            have l7_0 : w.heap.size < w7.heap.size := by first | omega | (simp at *; omega)
            have g7_0_0 : w7.cell? ⟨w.heap.size, 0, none⟩ = some (.int .i64 an) := by rw [cc _ _ (by first | omega | (simp; done) | (simp; omega))]; first | assumption | go_simp
            have g7_0_1 : w7.cell? ⟨w.heap.size, 1, none⟩ = some (.int .i64 ad) := by rw [cc _ _ (by first | omega | (simp; done) | (simp; omega))]; first | assumption | go_simp
            have l7_1 : w.heap.size + 1 < w7.heap.size := by first | omega | (simp at *; omega)
            have g7_1_0 : w7.cell? ⟨w.heap.size + 1, 0, none⟩ = some (.int .i64 bn) := by rw [cc _ _ (by first | omega | (simp; done) | (simp; omega))]; first | assumption | go_simp
            have g7_1_1 : w7.cell? ⟨w.heap.size + 1, 1, none⟩ = some (.int .i64 bd) := by rw [cc _ _ (by first | omega | (simp; done) | (simp; omega))]; first | assumption | go_simp
            have l7_2 : w.heap.size + 2 < w7.heap.size := by first | omega | (simp at *; omega)
            have g7_2_0 : w7.cell? ⟨w.heap.size + 2, 0, none⟩ = some (.int .i64 cn) := by rw [cc _ _ (by first | omega | (simp; done) | (simp; omega))]; first | assumption | go_simp
            have g7_2_1 : w7.cell? ⟨w.heap.size + 2, 1, none⟩ = some (.int .i64 cd) := by rw [cc _ _ (by first | omega | (simp; done) | (simp; omega))]; first | assumption | go_simp
            have l7_3 : w4.heap.size < w7.heap.size := by first | omega | (simp at *; omega)
            have g7_3_0 : w7.cell? ⟨w4.heap.size, 0, none⟩ = some (.int .i64 xn) := by rw [cc _ _ (by first | omega | (simp; done) | (simp; omega))]; first | assumption | go_simp
            have g7_3_1 : w7.cell? ⟨w4.heap.size, 1, none⟩ = some (.int .i64 xd) := by rw [cc _ _ (by first | omega | (simp; done) | (simp; omega))]; first | assumption | go_simp
            have l7_4 : w5.heap.size < w7.heap.size := by first | omega | (simp at *; omega)
            have g7_4_0 : w7.cell? ⟨w5.heap.size, 0, none⟩ = some (.int .i64 xn) := by rw [cc _ _ (by first | omega | (simp; done) | (simp; omega))]; first | assumption | go_simp
            have g7_4_1 : w7.cell? ⟨w5.heap.size, 1, none⟩ = some (.int .i64 xd) := by rw [cc _ _ (by first | omega | (simp; done) | (simp; omega))]; first | assumption | go_simp
            clear cc zz
            clear g6_0_0 g6_0_1 g6_1_0 g6_1_1 g6_2_0 g6_2_1 g6_3_0 g6_3_1 g6_4_0 g6_4_1
            go_wp2_with fail
            refine (mul_any bn bd cn cd zn zd ze _ bn1 bn2 bd1 bd2 cn1 cn2 cd1 cd2 HZ.out).mono ?_
            rintro e w8 ⟨rfl, hb8⟩
            have cc := (bcell hb8).1
            have zz := hb8.size
            try simp at zz
            have l8_0 : w.heap.size < w8.heap.size := by first | omega | (simp at *; omega)
            have g8_0_0 : w8.cell? ⟨w.heap.size, 0, none⟩ = some (.int .i64 an) := by rw [cc _ _ (by first | omega | (simp; done) | (simp; omega))]; first | assumption | go_simp
            have g8_0_1 : w8.cell? ⟨w.heap.size, 1, none⟩ = some (.int .i64 ad) := by rw [cc _ _ (by first | omega | (simp; done) | (simp; omega))]; first | assumption | go_simp
            have l8_1 : w.heap.size + 1 < w8.heap.size := by first | omega | (simp at *; omega)
            have g8_1_0 : w8.cell? ⟨w.heap.size + 1, 0, none⟩ = some (.int .i64 bn) := by rw [cc _ _ (by first | omega | (simp; done) | (simp; omega))]; first | assumption | go_simp
            have g8_1_1 : w8.cell? ⟨w.heap.size + 1, 1, none⟩ = some (.int .i64 bd) := by rw [cc _ _ (by first | omega | (simp; done) | (simp; omega))]; first | assumption | go_simp
            have l8_2 : w.heap.size + 2 < w8.heap.size := by first | omega | (simp at *; omega)
            have g8_2_0 : w8.cell? ⟨w.heap.size + 2, 0, none⟩ = some (.int .i64 cn) := by rw [cc _ _ (by first | omega | (simp; done) | (simp; omega))]; first | assumption | go_simp
            have g8_2_1 : w8.cell? ⟨w.heap.size + 2, 1, none⟩ = some (.int .i64 cd) := by rw [cc _ _ (by first | omega | (simp; done) | (simp; omega))]; first | assumption | go_simp
            have l8_3 : w4.heap.size < w8.heap.size := by first | omega | (simp at *; omega)
            have g8_3_0 : w8.cell? ⟨w4.heap.size, 0, none⟩ = some (.int .i64 xn) := by rw [cc _ _ (by first | omega | (simp; done) | (simp; omega))]; first | assumption | go_simp
            have g8_3_1 : w8.cell? ⟨w4.heap.size, 1, none⟩ = some (.int .i64 xd) := by rw [cc _ _ (by first | omega | (simp; done) | (simp; omega))]; first | assumption | go_simp
            have l8_4 : w5.heap.size < w8.heap.size := by first | omega | (simp at *; omega)
            have g8_4_0 : w8.cell? ⟨w5.heap.size, 0, none⟩ = some (.int .i64 xn) := by rw [cc _ _ (by first | omega | (simp; done) | (simp; omega))]; first | assumption | go_simp
            have g8_4_1 : w8.cell? ⟨w5.heap.size, 1, none⟩ = some (.int .i64 xd) := by rw [cc _ _ (by first | omega | (simp; done) | (simp; omega))]; first | assumption | go_simp
            have l8_5 : w7.heap.size < w8.heap.size := by first | omega | (simp at *; omega)
            have g8_5_0 : w8.cell? ⟨w7.heap.size, 0, none⟩ = some (.int .i64 ln) := by rw [cc _ _ (by first | omega | (simp; done) | (simp; omega))]; first | assumption | go_simp
            have g8_5_1 : w8.cell? ⟨w7.heap.size, 1, none⟩ = some (.int .i64 ld) := by rw [cc _ _ (by first | omega | (simp; done) | (simp; omega))]; first | assumption | go_simp
            clear cc zz
            clear g7_0_0 g7_0_1 g7_1_0 g7_1_1 g7_2_0 g7_2_1 g7_3_0 g7_3_1 g7_4_0 g7_4_1
            go_wp2_with fail
            refine (mul_any an ad zn zd rn rd re _ an1 an2 ad1 ad2 zn1 zn2 zd1 zd2 HR.out).mono ?_
            rintro e w9 ⟨rfl, hb9⟩
            have cc := (bcell hb9).1
            have zz := hb9.size
            try simp at zz
            have l9_0 : w.heap.size < w9.heap.size := by first | omega | (simp at *; omega)
            have g9_0_0 : w9.cell? ⟨w.heap.size, 0, none⟩ = some (.int .i64 an) := by rw [cc _ _ (by first | omega | (simp; done) | (simp; omega))]; first | assumption | go_simp
            have g9_0_1 : w9.cell? ⟨w.heap.size, 1, none⟩ = some (.int .i64 ad) := by rw [cc _ _ (by first | omega | (simp; done) | (simp; omega))]; first | assumption | go_simp
            have l9_1 : w.heap.size + 1 < w9.heap.size := by first | omega | (simp at *; omega)
            have g9_1_0 : w9.cell? ⟨w.heap.size + 1, 0, none⟩ = some (.int .i64 bn) := by rw [cc _ _ (by first | omega | (simp; done) | (simp; omega))]; first | assumption | go_simp
            have g9_1_1 : w9.cell? ⟨w.heap.size + 1, 1, none⟩ = some (.int .i64 bd) := by rw [cc _ _ (by first | omega | (simp; done) | (simp; omega))]; first | assumption | go_simp
            have l9_2 : w.heap.size + 2 < w9.heap.size := by first | omega | (simp at *; omega)
            have g9_2_0 : w9.cell? ⟨w.heap.size + 2, 0, none⟩ = some (.int .i64 cn) := by rw [cc _ _ (by first | omega | (simp; done) | (simp; omega))]; first | assumption | go_simp
            have g9_2_1 : w9.cell? ⟨w.heap.size + 2, 1, none⟩ = some (.int .i64 cd) := by rw [cc _ _ (by first | omega | (simp; done) | (simp; omega))]; first | assumption | go_simp
            have l9_3 : w4.heap.size < w9.heap.size := by first | omega | (simp at *; omega)
            have g9_3_0 : w9.cell? ⟨w4.heap.size, 0, none⟩ = some (.int .i64 xn) := by rw [cc _ _ (by first | omega | (simp; done) | (simp; omega))]; first | assumption | go_simp
            have g9_3_1 : w9.cell? ⟨w4.heap.size, 1, none⟩ = some (.int .i64 xd) := by rw [cc _ _ (by first | omega | (simp; done) | (simp; omega))]; first | assumption | go_simp
            have l9_4 : w5.heap.size < w9.heap.size := by first | omega | (simp at *; omega)
            have g9_4_0 : w9.cell? ⟨w5.heap.size, 0, none⟩ = some (.int .i64 xn) := by rw [cc _ _ (by first | omega | (simp; done) | (simp; omega))]; first | assumption | go_simp
            have g9_4_1 : w9.cell? ⟨w5.heap.size, 1, none⟩ = some (.int .i64 xd) := by rw [cc _ _ (by first | omega | (simp; done) | (simp; omega))]; first | assumption | go_simp
            have l9_5 : w7.heap.size < w9.heap.size := by first | omega | (simp at *; omega)
            have g9_5_0 : w9.cell? ⟨w7.heap.size, 0, none⟩ = some (.int .i64 ln) := by rw [cc _ _ (by first | omega | (simp; done) | (simp; omega))]; first | assumption | go_simp
            have g9_5_1 : w9.cell? ⟨w7.heap.size, 1, none⟩ = some (.int .i64 ld) := by rw [cc _ _ (by first | omega | (simp; done) | (simp; omega))]; first | assumption | go_simp
            have l9_6 : w8.heap.size < w9.heap.size := by first | omega | (simp at *; omega)
            have g9_6_0 : w9.cell? ⟨w8.heap.size, 0, none⟩ = some (.int .i64 zn) := by rw [cc _ _ (by first | omega | (simp; done) | (simp; omega))]; first | assumption | go_simp
            have g9_6_1 : w9.cell? ⟨w8.heap.size, 1, none⟩ = some (.int .i64 zd) := by rw [cc _ _ (by first | omega | (simp; done) | (simp; omega))]; first | assumption | go_simp
            clear cc zz
            clear g8_0_0 g8_0_1 g8_1_0 g8_1_1 g8_2_0 g8_2_1 g8_3_0 g8_3_1 g8_4_0 g8_4_1 g8_5_0 g8_5_1
            go_wp2
            go_roundw
            case rel => exact ⟨2, by omega, rfl, (by repeat' (first | exact Below.refl _ _ | assumption | (with_reducible refine bdrewN ?_ _) | (with_reducible refine bdrew ?_) | (with_reducible refine bset ?_ ?_) | (with_reducible refine balloc0 ?_) | (with_reducible refine balloc ?_ ?_) | (apply btrans0; rotate_left; assumption) | (apply btrans; rotate_left; assumption) | (simp; done) | omega | (simp; omega)))⟩
            case measure => simp [intOf]
        · have e1' : (le == 0) = false := by simpa using e1
          clear ass e1
          go_wp2_with fail
          refine (mul_any an ad bn bd xn xd 0 _ an1 an2 ad1 ad2 bn1 bn2 bd1 bd2 HX.out).mono ?_
          rintro e w4 ⟨rfl, hb4⟩
          have cc := (bcell hb4).1
          have zz := hb4.size
          try simp at zz
          have l4_0 : w.heap.size < w4.heap.size := by first | omega | (simp at *; omega)
          have g4_0_0 : w4.cell? ⟨w.heap.size, 0, none⟩ = some (.int .i64 an) := by rw [cc _ _ (by first | omega | (simp; done) | (simp; omega))]; first | assumption | go_simp
          have g4_0_1 : w4.cell? ⟨w.heap.size, 1, none⟩ = some (.int .i64 ad) := by rw [cc _ _ (by first | omega | (simp; done) | (simp; omega))]; first | assumption | go_simp
          have l4_1 : w.heap.size + 1 < w4.heap.size := by first | omega | (simp at *; omega)
          have g4_1_0 : w4.cell? ⟨w.heap.size + 1, 0, none⟩ = some (.int .i64 bn) := by rw [cc _ _ (by first | omega | (simp; done) | (simp; omega))]; first | assumption | go_simp
          have g4_1_1 : w4.cell? ⟨w.heap.size + 1, 1, none⟩ = some (.int .i64 bd) := by rw [cc _ _ (by first | omega | (simp; done) | (simp; omega))]; first | assumption | go_simp
          have l4_2 : w.heap.size + 2 < w4.heap.size := by first | omega | (simp at *; omega)
          have g4_2_0 : w4.cell? ⟨w.heap.size + 2, 0, none⟩ = some (.int .i64 cn) := by rw [cc _ _ (by first | omega | (simp; done) | (simp; omega))]; first | assumption | go_simp
          have g4_2_1 : w4.cell? ⟨w.heap.size + 2, 1, none⟩ = some (.int .i64 cd) := by rw [cc _ _ (by first | omega | (simp; done) | (simp; omega))]; first | assumption | go_simp
          clear cc zz
          go_wp2_with fail
          refine (mul_any bn bd an ad xn xd 0 _ bn1 bn2 bd1 bd2 an1 an2 ad1 ad2 HY.out).mono ?_
          rintro e w5 ⟨rfl, hb5⟩
          have cc := (bcell hb5).1
          have zz := hb5.size
          try simp at zz
          have l5_0 : w.heap.size < w5.heap.size := by first | omega | (simp at *; omega)
          have g5_0_0 : w5.cell? ⟨w.heap.size, 0, none⟩ = some (.int .i64 an) := by rw [cc _ _ (by first | omega | (simp; done) | (simp; omega))]; first | assumption | go_simp
          have g5_0_1 : w5.cell? ⟨w.heap.size, 1, none⟩ = some (.int .i64 ad) := by rw [cc _ _ (by first | omega | (simp; done) | (simp; omega))]; first | assumption | go_simp
          have l5_1 : w.heap.size + 1 < w5.heap.size := by first | omega | (simp at *; omega)
          have g5_1_0 : w5.cell? ⟨w.heap.size + 1, 0, none⟩ = some (.int .i64 bn) := by rw [cc _ _ (by first | omega | (simp; done) | (simp; omega))]; first | assumption | go_simp
          have g5_1_1 : w5.cell? ⟨w.heap.size + 1, 1, none⟩ = some (.int .i64 bd) := by rw [cc _ _ (by first | omega | (simp; done) | (simp; omega))]; first | assumption | go_simp
          have l5_2 : w.heap.size + 2 < w5.heap.size := by first | omega | (simp at *; omega)
          have g5_2_0 : w5.cell? ⟨w.heap.size + 2, 0, none⟩ = some (.int .i64 cn) := by rw [cc _ _ (by first | omega | (simp; done) | (simp; omega))]; first | assumption | go_simp
          have g5_2_1 : w5.cell? ⟨w.heap.size + 2, 1, none⟩ = some (.int .i64 cd) := by rw [cc _ _ (by first | omega | (simp; done) | (simp; omega))]; first | assumption | go_simp
          have l5_3 : w4.heap.size < w5.heap.size := by first | omega | (simp at *; omega)
          have g5_3_0 : w5.cell? ⟨w4.heap.size, 0, none⟩ = some (.int .i64 xn) := by rw [cc _ _ (by first | omega | (simp; done) | (simp; omega))]; first | assumption | go_simp
          have g5_3_1 : w5.cell? ⟨w4.heap.size, 1, none⟩ = some (.int .i64 xd) := by rw [cc _ _ (by first | omega | (simp; done) | (simp; omega))]; first | assumption | go_simp
          clear cc zz
          clear g4_0_0 g4_0_1 g4_1_0 g4_1_1 g4_2_0 g4_2_1
          go_wp2_with fail
          refine (check_any xn xd 0 _ xn1 xn2 xd1 xd2 HF.out).mono ?_
          rintro e w6 ⟨rfl, hb6⟩
          have cc := (bcell hb6).1
          have zz := hb6.size
          try simp at zz
          have l6_0 : w.heap.size < w6.heap.size := by first | omega | (simp at *; omega)
          have g6_0_0 : w6.cell? ⟨w.heap.size, 0, none⟩ = some (.int .i64 an) := by rw [cc _ _ (by first | omega | (simp; done) | (simp; omega))]; first | assumption | go_simp
          have g6_0_1 : w6.cell? ⟨w.heap.size, 1, none⟩ = some (.int .i64 ad) := by rw [cc _ _ (by first | omega | (simp; done) | (simp; omega))]; first | assumption | go_simp
          have l6_1 : w.heap.size + 1 < w6.heap.size := by first | omega | (simp at *; omega)
          have g6_1_0 : w6.cell? ⟨w.heap.size + 1, 0, none⟩ = some (.int .i64 bn) := by rw [cc _ _ (by first | omega | (simp; done) | (simp; omega))]; first | assumption | go_simp
          have g6_1_1 : w6.cell? ⟨w.heap.size + 1, 1, none⟩ = some (.int .i64 bd) := by rw [cc _ _ (by first | omega | (simp; done) | (simp; omega))]; first | assumption | go_simp
          have l6_2 : w.heap.size + 2 < w6.heap.size := by first | omega | (simp at *; omega)
          have g6_2_0 : w6.cell? ⟨w.heap.size + 2, 0, none⟩ = some (.int .i64 cn) := by rw [cc _ _ (by first | omega | (simp; done) | (simp; omega))]; first | assumption | go_simp
          have g6_2_1 : w6.cell? ⟨w.heap.size + 2, 1, none⟩ = some (.int .i64 cd) := by rw [cc _ _ (by first | omega | (simp; done) | (simp; omega))]; first | assumption | go_simp
          have l6_3 : w4.heap.size < w6.heap.size := by first | omega | (simp at *; omega)
          have g6_3_0 : w6.cell? ⟨w4.heap.size, 0, none⟩ = some (.int .i64 xn) := by rw [cc _ _ (by first | omega | (simp; done) | (simp; omega))]; first | assumption | go_simp
          have g6_3_1 : w6.cell? ⟨w4.heap.size, 1, none⟩ = some (.int .i64 xd) := by rw [cc _ _ (by first | omega | (simp; done) | (simp; omega))]; first | assumption | go_simp
          have l6_4 : w5.heap.size < w6.heap.size := by first | omega | (simp at *; omega)
          have g6_4_0 : w6.cell? ⟨w5.heap.size, 0, none⟩ = some (.int .i64 xn) := by rw [cc _ _ (by first | omega | (simp; done) | (simp; omega))]; first | assumption | go_simp
          have g6_4_1 : w6.cell? ⟨w5.heap.size, 1, none⟩ = some (.int .i64 xd) := by rw [cc _ _ (by first | omega | (simp; done) | (simp; omega))]; first | assumption | go_simp
          clear cc zz
          clear g5_0_0 g5_0_1 g5_1_0 g5_1_1 g5_2_0 g5_2_1 g5_3_0 g5_3_1
          go_wp2_with fail
          refine (mul_any xn xd cn cd ln ld le _ xn1 xn2 xd1 xd2 cn1 cn2 cd1 cd2 HL.out).mono ?_
          rintro e w7 ⟨rfl, hb7⟩
          have cc := (bcell hb7).1
          have zz := hb7.size
          try simp at zz
          have l7_0 : w.heap.size < w7.heap.size := by first | omega | (simp at *; omega)
          have g7_0_0 : w7.cell? ⟨w.heap.size, 0, none⟩ = some (.int .i64 an) := by rw [cc _ _ (by first | omega | (simp; done) | (simp; omega))]; first | assumption | go_simp
          have g7_0_1 : w7.cell? ⟨w.heap.size, 1, none⟩ = some (.int .i64 ad) := by rw [cc _ _ (by first | omega | (simp; done) | (simp; omega))]; first | assumption | go_simp
          have l7_1 : w.heap.size + 1 < w7.heap.size := by first | omega | (simp at *; omega)
          have g7_1_0 : w7.cell? ⟨w.heap.size + 1, 0, none⟩ = some (.int .i64 bn) := by rw [cc _ _ (by first | omega | (simp; done) | (simp; omega))]; first | assumption | go_simp
          have g7_1_1 : w7.cell? ⟨w.heap.size + 1, 1, none⟩ = some (.int .i64 bd) := by rw [cc _ _ (by first | omega | (simp; done) | (simp; omega))]; first | assumption | go_simp
          have l7_2 : w.heap.size + 2 < w7.heap.size := by first | omega | (simp at *; omega)
          have g7_2_0 : w7.cell? ⟨w.heap.size + 2, 0, none⟩ = some (.int .i64 cn) := by rw [cc _ _ (by first | omega | (simp; done) | (simp; omega))]; first | assumption | go_simp
          have g7_2_1 : w7.cell? ⟨w.heap.size + 2, 1, none⟩ = some (.int .i64 cd) := by rw [cc _ _ (by first | omega | (simp; done) | (simp; omega))]; first | assumption | go_simp
          have l7_3 : w4.heap.size < w7.heap.size := by first | omega | (simp at *; omega)
          have g7_3_0 : w7.cell? ⟨w4.heap.size, 0, none⟩ = some (.int .i64 xn) := by rw [cc _ _ (by first | omega | (simp; done) | (simp; omega))]; first | assumption | go_simp
          have g7_3_1 : w7.cell? ⟨w4.heap.size, 1, none⟩ = some (.int .i64 xd) := by rw [cc _ _ (by first | omega | (simp; done) | (simp; omega))]; first | assumption | go_simp
          have l7_4 : w5.heap.size < w7.heap.size := by first | omega | (simp at *; omega)
          have g7_4_0 : w7.cell? ⟨w5.heap.size, 0, none⟩ = some (.int .i64 xn) := by rw [cc _ _ (by first | omega | (simp; done) | (simp; omega))]; first | assumption | go_simp
          have g7_4_1 : w7.cell? ⟨w5.heap.size, 1, none⟩ = some (.int .i64 xd) := by rw [cc _ _ (by first | omega | (simp; done) | (simp; omega))]; first | assumption | go_simp
          clear cc zz
          clear g6_0_0 g6_0_1 g6_1_0 g6_1_1 g6_2_0 g6_2_1 g6_3_0 g6_3_1 g6_4_0 g6_4_1
          go_wp2_with fail
          refine (mul_any bn bd cn cd zn zd ze _ bn1 bn2 bd1 bd2 cn1 cn2 cd1 cd2 HZ.out).mono ?_
          rintro e w8 ⟨rfl, hb8⟩
          have cc := (bcell hb8).1
          have zz := hb8.size
          try simp at zz
          have l8_0 : w.heap.size < w8.heap.size := by first | omega | (simp at *; omega)
          have g8_0_0 : w8.cell? ⟨w.heap.size, 0, none⟩ = some (.int .i64 an) := by rw [cc _ _ (by first | omega | (simp; done) | (simp; omega))]; first | assumption | go_simp
          have g8_0_1 : w8.cell? ⟨w.heap.size, 1, none⟩ = some (.int .i64 ad) := by rw [cc _ _ (by first | omega | (simp; done) | (simp; omega))]; first | assumption | go_simp
          have l8_1 : w.heap.size + 1 < w8.heap.size := by first | omega | (simp at *; omega)
          have g8_1_0 : w8.cell? ⟨w.heap.size + 1, 0, none⟩ = some (.int .i64 bn) := by rw [cc _ _ (by first | omega | (simp; done) | (simp; omega))]; first | assumption | go_simp
          have g8_1_1 : w8.cell? ⟨w.heap.size + 1, 1, none⟩ = some (.int .i64 bd) := by rw [cc _ _ (by first | omega | (simp; done) | (simp; omega))]; first | assumption | go_simp
          have l8_2 : w.heap.size + 2 < w8.heap.size := by first | omega | (simp at *; omega)
          have g8_2_0 : w8.cell? ⟨w.heap.size + 2, 0, none⟩ = some (.int .i64 cn) := by rw [cc _ _ (by first | omega | (simp; done) | (simp; omega))]; first | assumption | go_simp
          have g8_2_1 : w8.cell? ⟨w.heap.size + 2, 1, none⟩ = some (.int .i64 cd) := by rw [cc _ _ (by first | omega | (simp; done) | (simp; omega))]; first | assumption | go_simp
          have l8_3 : w4.heap.size < w8.heap.size := by first | omega | (simp at *; omega)
          have g8_3_0 : w8.cell? ⟨w4.heap.size, 0, none⟩ = some (.int .i64 xn) := by rw [cc _ _ (by first | omega | (simp; done) | (simp; omega))]; first | assumption | go_simp
          have g8_3_1 : w8.cell? ⟨w4.heap.size, 1, none⟩ = some (.int .i64 xd) := by rw [cc _ _ (by first | omega | (simp; done) | (simp; omega))]; first | assumption | go_simp
          have l8_4 : w5.heap.size < w8.heap.size := by first | omega | (simp at *; omega)
          have g8_4_0 : w8.cell? ⟨w5.heap.size, 0, none⟩ = some (.int .i64 xn) := by rw [cc _ _ (by first | omega | (simp; done) | (simp; omega))]; first | assumption | go_simp
          have g8_4_1 : w8.cell? ⟨w5.heap.size, 1, none⟩ = some (.int .i64 xd) := by rw [cc _ _ (by first | omega | (simp; done) | (simp; omega))]; first | assumption | go_simp
          have l8_5 : w7.heap.size < w8.heap.size := by first | omega | (simp at *; omega)
          have g8_5_0 : w8.cell? ⟨w7.heap.size, 0, none⟩ = some (.int .i64 ln) := by rw [cc _ _ (by first | omega | (simp; done) | (simp; omega))]; first | assumption | go_simp
          have g8_5_1 : w8.cell? ⟨w7.heap.size, 1, none⟩ = some (.int .i64 ld) := by rw [cc _ _ (by first | omega | (simp; done) | (simp; omega))]; first | assumption | go_simp
          clear cc zz
          clear g7_0_0 g7_0_1 g7_1_0 g7_1_1 g7_2_0 g7_2_1 g7_3_0 g7_3_1 g7_4_0 g7_4_1
          go_wp2_with fail
          refine (mul_any an ad zn zd rn rd re _ an1 an2 ad1 ad2 zn1 zn2 zd1 zd2 HR.out).mono ?_
          rintro e w9 ⟨rfl, hb9⟩
          have cc := (bcell hb9).1
          have zz := hb9.size
          try simp at zz
          have l9_0 : w.heap.size < w9.heap.size := by first | omega | (simp at *; omega)
          have g9_0_0 : w9.cell? ⟨w.heap.size, 0, none⟩ = some (.int .i64 an) := by rw [cc _ _ (by first | omega | (simp; done) | (simp; omega))]; first | assumption | go_simp
          have g9_0_1 : w9.cell? ⟨w.heap.size, 1, none⟩ = some (.int .i64 ad) := by rw [cc _ _ (by first | omega | (simp; done) | (simp; omega))]; first | assumption | go_simp
          have l9_1 : w.heap.size + 1 < w9.heap.size := by first | omega | (simp at *; omega)
          have g9_1_0 : w9.cell? ⟨w.heap.size + 1, 0, none⟩ = some (.int .i64 bn) := by rw [cc _ _ (by first | omega | (simp; done) | (simp; omega))]; first | assumption | go_simp
          have g9_1_1 : w9.cell? ⟨w.heap.size + 1, 1, none⟩ = some (.int .i64 bd) := by rw [cc _ _ (by first | omega | (simp; done) | (simp; omega))]; first | assumption | go_simp
          have l9_2 : w.heap.size + 2 < w9.heap.size := by first | omega | (simp at *; omega)
          have g9_2_0 : w9.cell? ⟨w.heap.size + 2, 0, none⟩ = some (.int .i64 cn) := by rw [cc _ _ (by first | omega | (simp; done) | (simp; omega))]; first | assumption | go_simp
          have g9_2_1 : w9.cell? ⟨w.heap.size + 2, 1, none⟩ = some (.int .i64 cd) := by rw [cc _ _ (by first | omega | (simp; done) | (simp; omega))]; first | assumption | go_simp
          have l9_3 : w4.heap.size < w9.heap.size := by first | omega | (simp at *; omega)
          have g9_3_0 : w9.cell? ⟨w4.heap.size, 0, none⟩ = some (.int .i64 xn) := by rw [cc _ _ (by first | omega | (simp; done) | (simp; omega))]; first | assumption | go_simp
          have g9_3_1 : w9.cell? ⟨w4.heap.size, 1, none⟩ = some (.int .i64 xd) := by rw [cc _ _ (by first | omega | (simp; done) | (simp; omega))]; first | assumption | go_simp
          have l9_4 : w5.heap.size < w9.heap.size := by first | omega | (simp at *; omega)
          have g9_4_0 : w9.cell? ⟨w5.heap.size, 0, none⟩ = some (.int .i64 xn) := by rw [cc _ _ (by first | omega | (simp; done) | (simp; omega))]; first | assumption | go_simp
          have g9_4_1 : w9.cell? ⟨w5.heap.size, 1, none⟩ = some (.int .i64 xd) := by rw [cc _ _ (by first | omega | (simp; done) | (simp; omega))]; first | assumption | go_simp
          have l9_5 : w7.heap.size < w9.heap.size := by first | omega | (simp at *; omega)
          have g9_5_0 : w9.cell? ⟨w7.heap.size, 0, none⟩ = some (.int .i64 ln) := by rw [cc _ _ (by first | omega | (simp; done) | (simp; omega))]; first | assumption | go_simp
          have g9_5_1 : w9.cell? ⟨w7.heap.size, 1, none⟩ = some (.int .i64 ld) := by rw [cc _ _ (by first | omega | (simp; done) | (simp; omega))]; first | assumption | go_simp
          have l9_6 : w8.heap.size < w9.heap.size := by first | omega | (simp at *; omega)
          have g9_6_0 : w9.cell? ⟨w8.heap.size, 0, none⟩ = some (.int .i64 zn) := by rw [cc _ _ (by first | omega | (simp; done) | (simp; omega))]; first | assumption | go_simp
          have g9_6_1 : w9.cell? ⟨w8.heap.size, 1, none⟩ = some (.int .i64 zd) := by rw [cc _ _ (by first | omega | (simp; done) | (simp; omega))]; first | assumption | go_simp
          clear cc zz
          clear g8_0_0 g8_0_1 g8_1_0 g8_1_1 g8_2_0 g8_2_1 g8_3_0 g8_3_1 g8_4_0 g8_4_1 g8_5_0 g8_5_1
          go_wp2
          go_roundw
          case rel => exact ⟨2, by omega, rfl, (by repeat' (first | exact Below.refl _ _ | assumption | (with_reducible refine bdrewN ?_ _) | (with_reducible refine bdrew ?_) | (with_reducible refine bset ?_ ?_) | (with_reducible refine balloc0 ?_) | (with_reducible refine balloc ?_ ?_) | (apply btrans0; rotate_left; assumption) | (apply btrans; rotate_left; assumption) | (simp; done) | omega | (simp; omega)))⟩
          case measure => simp [intOf]
      · clear ass fit
        go_wp2_with fail
        refine (mul_any an ad bn bd xn xd 5 _ an1 an2 ad1 ad2 bn1 bn2 bd1 bd2 HX.out).mono ?_
        rintro e w4 ⟨rfl, hb4⟩
        have cc := (bcell hb4).1
        have zz := hb4.size
        try simp at zz
        have l4_0 : w.heap.size < w4.heap.size := by first | omega | (simp at *; omega)
        have g4_0_0 : w4.cell? ⟨w.heap.size, 0, none⟩ = some (.int .i64 an) := by rw [cc _ _ (by first | omega | (simp; done) | (simp; omega))]; first | assumption | go_simp
        have g4_0_1 : w4.cell? ⟨w.heap.size, 1, none⟩ = some (.int .i64 ad) := by rw [cc _ _ (by first | omega | (simp; done) | (simp; omega))]; first | assumption | go_simp
        have l4_1 : w.heap.size + 1 < w4.heap.size := by first | omega | (simp at *; omega)
        have g4_1_0 : w4.cell? ⟨w.heap.size + 1, 0, none⟩ = some (.int .i64 bn) := by rw [cc _ _ (by first | omega | (simp; done) | (simp; omega))]; first | assumption | go_simp
        have g4_1_1 : w4.cell? ⟨w.heap.size + 1, 1, none⟩ = some (.int .i64 bd) := by rw [cc _ _ (by first | omega | (simp; done) | (simp; omega))]; first | assumption | go_simp
        have l4_2 : w.heap.size + 2 < w4.heap.size := by first | omega | (simp at *; omega)
        have g4_2_0 : w4.cell? ⟨w.heap.size + 2, 0, none⟩ = some (.int .i64 cn) := by rw [cc _ _ (by first | omega | (simp; done) | (simp; omega))]; first | assumption | go_simp
        have g4_2_1 : w4.cell? ⟨w.heap.size + 2, 1, none⟩ = some (.int .i64 cd) := by rw [cc _ _ (by first | omega | (simp; done) | (simp; omega))]; first | assumption | go_simp
        clear cc zz
        go_wp2_with fail
        refine (mul_any bn bd an ad xn xd 5 _ bn1 bn2 bd1 bd2 an1 an2 ad1 ad2 HY.out).mono ?_
        rintro e w5 ⟨rfl, hb5⟩
        have cc := (bcell hb5).1
        have zz := hb5.size
        try simp at zz
        have l5_0 : w.heap.size < w5.heap.size := by first | omega | (simp at *; omega)
        have g5_0_0 : w5.cell? ⟨w.heap.size, 0, none⟩ = some (.int .i64 an) := by rw [cc _ _ (by first | omega | (simp; done) | (simp; omega))]; first | assumption | go_simp
        have g5_0_1 : w5.cell? ⟨w.heap.size, 1, none⟩ = some (.int .i64 ad) := by rw [cc _ _ (by first | omega | (simp; done) | (simp; omega))]; first | assumption | go_simp
        have l5_1 : w.heap.size + 1 < w5.heap.size := by first | omega | (simp at *; omega)
        have g5_1_0 : w5.cell? ⟨w.heap.size + 1, 0, none⟩ = some (.int .i64 bn) := by rw [cc _ _ (by first | omega | (simp; done) | (simp; omega))]; first | assumption | go_simp
        have g5_1_1 : w5.cell? ⟨w.heap.size + 1, 1, none⟩ = some (.int .i64 bd) := by rw [cc _ _ (by first | omega | (simp; done) | (simp; omega))]; first | assumption | go_simp
        have l5_2 : w.heap.size + 2 < w5.heap.size := by first | omega | (simp at *; omega)
        have g5_2_0 : w5.cell? ⟨w.heap.size + 2, 0, none⟩ = some (.int .i64 cn) := by rw [cc _ _ (by first | omega | (simp; done) | (simp; omega))]; first | assumption | go_simp
        have g5_2_1 : w5.cell? ⟨w.heap.size + 2, 1, none⟩ = some (.int .i64 cd) := by rw [cc _ _ (by first | omega | (simp; done) | (simp; omega))]; first | assumption | go_simp
        have l5_3 : w4.heap.size < w5.heap.size := by first | omega | (simp at *; omega)
        have g5_3_0 : w5.cell? ⟨w4.heap.size, 0, none⟩ = some (.int .i64 xn) := by rw [cc _ _ (by first | omega | (simp; done) | (simp; omega))]; first | assumption | go_simp
        have g5_3_1 : w5.cell? ⟨w4.heap.size, 1, none⟩ = some (.int .i64 xd) := by rw [cc _ _ (by first | omega | (simp; done) | (simp; omega))]; first | assumption | go_simp
        clear cc zz
        clear g4_0_0 g4_0_1 g4_1_0 g4_1_1 g4_2_0 g4_2_1
        go_wp2_with fail
        refine (mul_any xn xd cn cd ln ld le _ xn1 xn2 xd1 xd2 cn1 cn2 cd1 cd2 HL.out).mono ?_
        rintro e w6 ⟨rfl, hb6⟩
        have cc := (bcell hb6).1
        have zz := hb6.size
        try simp at zz
        have l6_0 : w.heap.size < w6.heap.size := by first | omega | (simp at *; omega)
        have g6_0_0 : w6.cell? ⟨w.heap.size, 0, none⟩ = some (.int .i64 an) := by rw [cc _ _ (by first | omega | (simp; done) | (simp; omega))]; first | assumption | go_simp
        have g6_0_1 : w6.cell? ⟨w.heap.size, 1, none⟩ = some (.int .i64 ad) := by rw [cc _ _ (by first | omega | (simp; done) | (simp; omega))]; first | assumption | go_simp
        have l6_1 : w.heap.size + 1 < w6.heap.size := by first | omega | (simp at *; omega)
        have g6_1_0 : w6.cell? ⟨w.heap.size + 1, 0, none⟩ = some (.int .i64 bn) := by rw [cc _ _ (by first | omega | (simp; done) | (simp; omega))]; first | assumption | go_simp
        have g6_1_1 : w6.cell? ⟨w.heap.size + 1, 1, none⟩ = some (.int .i64 bd) := by rw [cc _ _ (by first | omega | (simp; done) | (simp; omega))]; first | assumption | go_simp
        have l6_2 : w.heap.size + 2 < w6.heap.size := by first | omega | (simp at *; omega)
        have g6_2_0 : w6.cell? ⟨w.heap.size + 2, 0, none⟩ = some (.int .i64 cn) := by rw [cc _ _ (by first | omega | (simp; done) | (simp; omega))]; first | assumption | go_simp
        have g6_2_1 : w6.cell? ⟨w.heap.size + 2, 1, none⟩ = some (.int .i64 cd) := by rw [cc _ _ (by first | omega | (simp; done) | (simp; omega))]; first | assumption | go_simp
        have l6_3 : w4.heap.size < w6.heap.size := by first | omega | (simp at *; omega)
        have g6_3_0 : w6.cell? ⟨w4.heap.size, 0, none⟩ = some (.int .i64 xn) := by rw [cc _ _ (by first | omega | (simp; done) | (simp; omega))]; first | assumption | go_simp
        have g6_3_1 : w6.cell? ⟨w4.heap.size, 1, none⟩ = some (.int .i64 xd) := by rw [cc _ _ (by first | omega | (simp; done) | (simp; omega))]; first | assumption | go_simp
        have l6_4 : w5.heap.size < w6.heap.size := by first | omega | (simp at *; omega)
        have g6_4_0 : w6.cell? ⟨w5.heap.size, 0, none⟩ = some (.int .i64 xn) := by rw [cc _ _ (by first | omega | (simp; done) | (simp; omega))]; first | assumption | go_simp
        have g6_4_1 : w6.cell? ⟨w5.heap.size, 1, none⟩ = some (.int .i64 xd) := by rw [cc _ _ (by first | omega | (simp; done) | (simp; omega))]; first | assumption | go_simp
        clear cc zz
        clear g5_0_0 g5_0_1 g5_1_0 g5_1_1 g5_2_0 g5_2_1 g5_3_0 g5_3_1
        go_wp2_with fail
        refine (mul_any bn bd cn cd zn zd ze _ bn1 bn2 bd1 bd2 cn1 cn2 cd1 cd2 HZ.out).mono ?_
        rintro e w7 ⟨rfl, hb7⟩
        have cc := (bcell hb7).1
        have zz := hb7.size
        try simp at zz
        have l7_0 : w.heap.size < w7.heap.size := by first | omega | (simp at *; omega)
        have g7_0_0 : w7.cell? ⟨w.heap.size, 0, none⟩ = some (.int .i64 an) := by rw [cc _ _ (by first | omega | (simp; done) | (simp; omega))]; first | assumption | go_simp
        have g7_0_1 : w7.cell? ⟨w.heap.size, 1, none⟩ = some (.int .i64 ad) := by rw [cc _ _ (by first | omega | (simp; done) | (simp; omega))]; first | assumption | go_simp
        have l7_1 : w.heap.size + 1 < w7.heap.size := by first | omega | (simp at *; omega)
        have g7_1_0 : w7.cell? ⟨w.heap.size + 1, 0, none⟩ = some (.int .i64 bn) := by rw [cc _ _ (by first | omega | (simp; done) | (simp; omega))]; first | assumption | go_simp
        have g7_1_1 : w7.cell? ⟨w.heap.size + 1, 1, none⟩ = some (.int .i64 bd) := by rw [cc _ _ (by first | omega | (simp; done) | (simp; omega))]; first | assumption | go_simp
        have l7_2 : w.heap.size + 2 < w7.heap.size := by first | omega | (simp at *; omega)
        have g7_2_0 : w7.cell? ⟨w.heap.size + 2, 0, none⟩ = some (.int .i64 cn) := by rw [cc _ _ (by first | omega | (simp; done) | (simp; omega))]; first | assumption | go_simp
        have g7_2_1 : w7.cell? ⟨w.heap.size + 2, 1, none⟩ = some (.int .i64 cd) := by rw [cc _ _ (by first | omega | (simp; done) | (simp; omega))]; first | assumption | go_simp
        have l7_3 : w4.heap.size < w7.heap.size := by first | omega | (simp at *; omega)
        have g7_3_0 : w7.cell? ⟨w4.heap.size, 0, none⟩ = some (.int .i64 xn) := by rw [cc _ _ (by first | omega | (simp; done) | (simp; omega))]; first | assumption | go_simp
        have g7_3_1 : w7.cell? ⟨w4.heap.size, 1, none⟩ = some (.int .i64 xd) := by rw [cc _ _ (by first | omega | (simp; done) | (simp; omega))]; first | assumption | go_simp
        have l7_4 : w5.heap.size < w7.heap.size := by first | omega | (simp at *; omega)
        have g7_4_0 : w7.cell? ⟨w5.heap.size, 0, none⟩ = some (.int .i64 xn) := by rw [cc _ _ (by first | omega | (simp; done) | (simp; omega))]; first | assumption | go_simp
        have g7_4_1 : w7.cell? ⟨w5.heap.size, 1, none⟩ = some (.int .i64 xd) := by rw [cc _ _ (by first | omega | (simp; done) | (simp; omega))]; first | assumption | go_simp
        have l7_5 : w6.heap.size < w7.heap.size := by first | omega | (simp at *; omega)
        have g7_5_0 : w7.cell? ⟨w6.heap.size, 0, none⟩ = some (.int .i64 ln) := by rw [cc _ _ (by first | omega | (simp; done) | (simp; omega))]; first | assumption | go_simp
        have g7_5_1 : w7.cell? ⟨w6.heap.size, 1, none⟩ = some (.int .i64 ld) := by rw [cc _ _ (by first | omega | (simp; done) | (simp; omega))]; first | assumption | go_simp
        clear cc zz
        clear g6_0_0 g6_0_1 g6_1_0 g6_1_1 g6_2_0 g6_2_1 g6_3_0 g6_3_1 g6_4_0 g6_4_1
        go_wp2_with fail
        refine (mul_any an ad zn zd rn rd re _ an1 an2 ad1 ad2 zn1 zn2 zd1 zd2 HR.out).mono ?_
        rintro e w8 ⟨rfl, hb8⟩
        have cc := (bcell hb8).1
        have zz := hb8.size
        try simp at zz
        have l8_0 : w.heap.size < w8.heap.size := by first | omega | (simp at *; omega)
        have g8_0_0 : w8.cell? ⟨w.heap.size, 0, none⟩ = some (.int .i64 an) := by rw [cc _ _ (by first | omega | (simp; done) | (simp; omega))]; first | assumption | go_simp
        have g8_0_1 : w8.cell? ⟨w.heap.size, 1, none⟩ = some (.int .i64 ad) := by rw [cc _ _ (by first | omega | (simp; done) | (simp; omega))]; first | assumption | go_simp
        have l8_1 : w.heap.size + 1 < w8.heap.size := by first | omega | (simp at *; omega)
        have g8_1_0 : w8.cell? ⟨w.heap.size + 1, 0, none⟩ = some (.int .i64 bn) := by rw [cc _ _ (by first | omega | (simp; done) | (simp; omega))]; first | assumption | go_simp
        have g8_1_1 : w8.cell? ⟨w.heap.size + 1, 1, none⟩ = some (.int .i64 bd) := by rw [cc _ _ (by first | omega | (simp; done) | (simp; omega))]; first | assumption | go_simp
        have l8_2 : w.heap.size + 2 < w8.heap.size := by first | omega | (simp at *; omega)
        have g8_2_0 : w8.cell? ⟨w.heap.size + 2, 0, none⟩ = some (.int .i64 cn) := by rw [cc _ _ (by first | omega | (simp; done) | (simp; omega))]; first | assumption | go_simp
        have g8_2_1 : w8.cell? ⟨w.heap.size + 2, 1, none⟩ = some (.int .i64 cd) := by rw [cc _ _ (by first | omega | (simp; done) | (simp; omega))]; first | assumption | go_simp
        have l8_3 : w4.heap.size < w8.heap.size := by first | omega | (simp at *; omega)
        have g8_3_0 : w8.cell? ⟨w4.heap.size, 0, none⟩ = some (.int .i64 xn) := by rw [cc _ _ (by first | omega | (simp; done) | (simp; omega))]; first | assumption | go_simp
        have g8_3_1 : w8.cell? ⟨w4.heap.size, 1, none⟩ = some (.int .i64 xd) := by rw [cc _ _ (by first | omega | (simp; done) | (simp; omega))]; first | assumption | go_simp
        have l8_4 : w5.heap.size < w8.heap.size := by first | omega | (simp at *; omega)
        have g8_4_0 : w8.cell? ⟨w5.heap.size, 0, none⟩ = some (.int .i64 xn) := by rw [cc _ _ (by first | omega | (simp; done) | (simp; omega))]; first | assumption | go_simp
        have g8_4_1 : w8.cell? ⟨w5.heap.size, 1, none⟩ = some (.int .i64 xd) := by rw [cc _ _ (by first | omega | (simp; done) | (simp; omega))]; first | assumption | go_simp
        have l8_5 : w6.heap.size < w8.heap.size := by first | omega | (simp at *; omega)
        have g8_5_0 : w8.cell? ⟨w6.heap.size, 0, none⟩ = some (.int .i64 ln) := by rw [cc _ _ (by first | omega | (simp; done) | (simp; omega))]; first | assumption | go_simp
        have g8_5_1 : w8.cell? ⟨w6.heap.size, 1, none⟩ = some (.int .i64 ld) := by rw [cc _ _ (by first | omega | (simp; done) | (simp; omega))]; first | assumption | go_simp
        have l8_6 : w7.heap.size < w8.heap.size := by first | omega | (simp at *; omega)
        have g8_6_0 : w8.cell? ⟨w7.heap.size, 0, none⟩ = some (.int .i64 zn) := by rw [cc _ _ (by first | omega | (simp; done) | (simp; omega))]; first | assumption | go_simp
        have g8_6_1 : w8.cell? ⟨w7.heap.size, 1, none⟩ = some (.int .i64 zd) := by rw [cc _ _ (by first | omega | (simp; done) | (simp; omega))]; first | assumption | go_simp
        clear cc zz
        clear g7_0_0 g7_0_1 g7_1_0 g7_1_1 g7_2_0 g7_2_1 g7_3_0 g7_3_1 g7_4_0 g7_4_1 g7_5_0 g7_5_1
        go_wp2
        go_roundw
        case rel => exact ⟨2, by omega, rfl, (by repeat' (first | exact Below.refl _ _ | assumption | (with_reducible refine bdrewN ?_ _) | (with_reducible refine bdrew ?_) | (with_reducible refine bset ?_ ?_) | (with_reducible refine balloc0 ?_) | (with_reducible refine balloc ?_ ?_) | (apply btrans0; rotate_left; assumption) | (apply btrans; rotate_left; assumption) | (simp; done) | omega | (simp; omega)))⟩
        case measure => simp [intOf]
    · obtain ⟨⟨⟨sn, sd⟩, se⟩, hs⟩ : ∃ x, opS add0 (bn, bd) (cn, cd) = x := ⟨_, rfl⟩
      obtain ⟨⟨⟨ln, ld⟩, le⟩, hl⟩ : ∃ x, opS mul0 (an, ad) (sn, sd) = x := ⟨_, rfl⟩
      obtain ⟨⟨⟨xn, xd⟩, xe⟩, hx⟩ : ∃ x, opS mul0 (an, ad) (bn, bd) = x := ⟨_, rfl⟩
      obtain ⟨⟨⟨yn, yd⟩, ye⟩, hy⟩ : ∃ x, opS mul0 (an, ad) (cn, cd) = x := ⟨_, rfl⟩
      obtain ⟨⟨⟨rn, rd⟩, re⟩, hr⟩ : ∃ x, opS add0 (xn, xd) (yn, yd) = x := ⟨_, rfl⟩
      have dis : se = 0 → le = 0 → xe = 0 → ye = 0 → re = 0 → ln = rn ∧ ld = rd := fun h1 h2 h3 h4 h5 => by subst h1 h2 h3 h4 h5; have := distr_law hs hl hx hy hr; simpa using this
      obtain ⟨⟨sn1, sn2⟩, sd1, sd2⟩ := opS_bd add_fin hs
      obtain ⟨⟨xn1, xn2⟩, xd1, xd2⟩ := opS_bd mul_fin hx
      obtain ⟨⟨yn1, yn2⟩, yd1, yd2⟩ := opS_bd mul_fin hy
      have HS := Lib.hid hs
      have HL := Lib.hid hl
      have HX := Lib.hid hx
      have HY := Lib.hid hy
      have HR := Lib.hid hr
      clear hs hl hx hy hr
      by_cases e0 : se = 0
      · subst e0
        by_cases e1 : le = 0
        · subst e1
          by_cases e2 : xe = 0
          · subst e2
            by_cases e3 : ye = 0
            · subst e3
              by_cases e4 : re = 0
              · subst e4
                obtain ⟨rfl, rfl⟩ := dis rfl rfl rfl rfl rfl
                clear dis
                go_wp2_with fail
                refine (add_any bn bd cn cd sn sd 0 _ bn1 bn2 bd1 bd2 cn1 cn2 cd1 cd2 HS.out).mono ?_
                rintro e w4 ⟨rfl, hb4⟩
                have cc := (bcell hb4).1
                have zz := hb4.size
                try simp at zz
                have l4_0 : w.heap.size < w4.heap.size := by first | omega | (simp at *; omega)
                have g4_0_0 : w4.cell? ⟨w.heap.size, 0, none⟩ = some (.int .i64 an) := by rw [cc _ _ (by first | omega | (simp; done) | (simp; omega))]; first | assumption | go_simp
                have g4_0_1 : w4.cell? ⟨w.heap.size, 1, none⟩ = some (.int .i64 ad) := by rw [cc _ _ (by first | omega | (simp; done) | (simp; omega))]; first | assumption | go_simp
                have l4_1 : w.heap.size + 1 < w4.heap.size := by first | omega | (simp at *; omega)
                have g4_1_0 : w4.cell? ⟨w.heap.size + 1, 0, none⟩ = some (.int .i64 bn) := by rw [cc _ _ (by first | omega | (simp; done) | (simp; omega))]; first | assumption | go_simp
                have g4_1_1 : w4.cell? ⟨w.heap.size + 1, 1, none⟩ = some (.int .i64 bd) := by rw [cc _ _ (by first | omega | (simp; done) | (simp; omega))]; first | assumption | go_simp
                have l4_2 : w.heap.size + 2 < w4.heap.size := by first | omega | (simp at *; omega)
                have g4_2_0 : w4.cell? ⟨w.heap.size + 2, 0, none⟩ = some (.int .i64 cn) := by rw [cc _ _ (by first | omega | (simp; done) | (simp; omega))]; first | assumption | go_simp
                have g4_2_1 : w4.cell? ⟨w.heap.size + 2, 1, none⟩ = some (.int .i64 cd) := by rw [cc _ _ (by first | omega | (simp; done) | (simp; omega))]; first | assumption | go_simp
                clear cc zz
                go_wp2_with fail
                refine (mul_any an ad sn sd ln ld 0 _ an1 an2 ad1 ad2 sn1 sn2 sd1 sd2 HL.out).mono ?_
                rintro e w5 ⟨rfl, hb5⟩
                have cc := (bcell hb5).1
                have zz := hb5.size
                try simp at zz
                have l5_0 : w.heap.size < w5.heap.size := by first | omega | (simp at *; omega)
                have g5_0_0 : w5.cell? ⟨w.heap.size, 0, none⟩ = some (.int .i64 an) := by rw [cc _ _ (by first | omega | (simp; done) | (simp; omega))]; first | assumption | go_simp
                have g5_0_1 : w5.cell? ⟨w.heap.size, 1, none⟩ = some (.int .i64 ad) := by rw [cc _ _ (by first | omega | (simp; done) | (simp; omega))]; first | assumption | go_simp
                have l5_1 : w.heap.size + 1 < w5.heap.size := by first | omega | (simp at *; omega)
                have g5_1_0 : w5.cell? ⟨w.heap.size + 1, 0, none⟩ = some (.int .i64 bn) := by rw [cc _ _ (by first | omega | (simp; done) | (simp; omega))]; first | assumption | go_simp
                have g5_1_1 : w5.cell? ⟨w.heap.size + 1, 1, none⟩ = some (.int .i64 bd) := by rw [cc _ _ (by first | omega | (simp; done) | (simp; omega))]; first | assumption | go_simp
                have l5_2 : w.heap.size + 2 < w5.heap.size := by first | omega | (simp at *; omega)
                have g5_2_0 : w5.cell? ⟨w.heap.size + 2, 0, none⟩ = some (.int .i64 cn) := by rw [cc _ _ (by first | omega | (simp; done) | (simp; omega))]; first | assumption | go_simp
                have g5_2_1 : w5.cell? ⟨w.heap.size + 2, 1, none⟩ = some (.int .i64 cd) := by rw [cc _ _ (by first | omega | (simp; done) | (simp; omega))]; first | assumption | go_simp
                have l5_3 : w4.heap.size < w5.heap.size := by first | omega | (simp at *; omega)
                have g5_3_0 : w5.cell? ⟨w4.heap.size, 0, none⟩ = some (.int .i64 sn) := by rw [cc _ _ (by first | omega | (simp; done) | (simp; omega))]; first | assumption | go_simp
                have g5_3_1 : w5.cell? ⟨w4.heap.size, 1, none⟩ = some (.int .i64 sd) := by rw [cc _ _ (by first | omega | (simp; done) | (simp; omega))]; first | assumption | go_simp
                clear cc zz
                clear g4_0_0 g4_0_1 g4_1_0 g4_1_1 g4_2_0 g4_2_1
                go_wp2_with fail
                refine (mul_any an ad bn bd xn xd 0 _ an1 an2 ad1 ad2 bn1 bn2 bd1 bd2 HX.out).mono ?_
                rintro e w6 ⟨rfl, hb6⟩
                have cc := (bcell hb6).1
                have zz := hb6.size
                try simp at zz
                have l6_0 : w.heap.size < w6.heap.size := by first | omega | (simp at *; omega)
                have g6_0_0 : w6.cell? ⟨w.heap.size, 0, none⟩ = some (.int .i64 an) := by rw [cc _ _ (by first | omega | (simp; done) | (simp; omega))]; first | assumption | go_simp
                have g6_0_1 : w6.cell? ⟨w.heap.size, 1, none⟩ = some (.int .i64 ad) := by rw [cc _ _ (by first | omega | (simp; done) | (simp; omega))]; first | assumption | go_simp
                have l6_1 : w.heap.size + 1 < w6.heap.size := by first | omega | (simp at *; omega)
                have g6_1_0 : w6.cell? ⟨w.heap.size + 1, 0, none⟩ = some (.int .i64 bn) := by rw [cc _ _ (by first | omega | (simp; done) | (simp; omega))]; first | assumption | go_simp
                have g6_1_1 : w6.cell? ⟨w.heap.size + 1, 1, none⟩ = some (.int .i64 bd) := by rw [cc _ _ (by first | omega | (simp; done) | (simp; omega))]; first | assumption | go_simp
                have l6_2 : w.heap.size + 2 < w6.heap.size := by first | omega | (simp at *; omega)
                have g6_2_0 : w6.cell? ⟨w.heap.size + 2, 0, none⟩ = some (.int .i64 cn) := by rw [cc _ _ (by first | omega | (simp; done) | (simp; omega))]; first | assumption | go_simp
                have g6_2_1 : w6.cell? ⟨w.heap.size + 2, 1, none⟩ = some (.int .i64 cd) := by rw [cc _ _ (by first | omega | (simp; done) | (simp; omega))]; first | assumption | go_simp
                have l6_3 : w4.heap.size < w6.heap.size := by first | omega | (simp at *; omega)
                have g6_3_0 : w6.cell? ⟨w4.heap.size, 0, none⟩ = some (.int .i64 sn) := by rw [cc _ _ (by first | omega | (simp; done) | (simp; omega))]; first | assumption | go_simp
                have g6_3_1 : w6.cell? ⟨w4.heap.size, 1, none⟩ = some (.int .i64 sd) := by rw [cc _ _ (by first | omega | (simp; done) | (simp; omega))]; first | assumption | go_simp
                have l6_4 : w5.heap.size < w6.heap.size := by first | omega | (simp at *; omega)
                have g6_4_0 : w6.cell? ⟨w5.heap.size, 0, none⟩ = some (.int .i64 ln) := by rw [cc _ _ (by first | omega | (simp; done) | (simp; omega))]; first | assumption | go_simp
                have g6_4_1 : w6.cell? ⟨w5.heap.size, 1, none⟩ = some (.int .i64 ld) := by rw [cc _ _ (by first | omega | (simp; done) | (simp; omega))]; first | assumption | go_simp
                clear cc zz
                clear g5_0_0 g5_0_1 g5_1_0 g5_1_1 g5_2_0 g5_2_1 g5_3_0 g5_3_1
                go_wp2_with fail
                refine (mul_any an ad cn cd yn yd 0 _ an1 an2 ad1 ad2 cn1 cn2 cd1 cd2 HY.out).mono ?_
                rintro e w7 ⟨rfl, hb7⟩
                have cc := (bcell hb7).1
                have zz := hb7.size
                try simp at zz
                have l7_0 : w.heap.size < w7.heap.size := by first | omega | (simp at *; omega)
                have g7_0_0 : w7.cell? ⟨w.heap.size, 0, none⟩ = some (.int .i64 an) := by rw [cc _ _ (by first | omega | (simp; done) | (simp; omega))]; first | assumption | go_simp
                have g7_0_1 : w7.cell? ⟨w.heap.size, 1, none⟩ = some (.int .i64 ad) := by rw [cc _ _ (by first | omega | (simp; done) | (simp; omega))]; first | assumption | go_simp
                have l7_1 : w.heap.size + 1 < w7.heap.size := by first | omega | (simp at *; omega)
                have g7_1_0 : w7.cell? ⟨w.heap.size + 1, 0, none⟩ = some (.int .i64 bn) := by rw [cc _ _ (by first | omega | (simp; done) | (simp; omega))]; first | assumption | go_simp
                have g7_1_1 : w7.cell? ⟨w.heap.size + 1, 1, none⟩ = some (.int .i64 bd) := by rw [cc _ _ (by first | omega | (simp; done) | (simp; omega))]; first | assumption | go_simp
                have l7_2 : w.heap.size + 2 < w7.heap.size := by first | omega | (simp at *; omega)
                have g7_2_0 : w7.cell? ⟨w.heap.size + 2, 0, none⟩ = some (.int .i64 cn) := by rw [cc _ _ (by first | omega | (simp; done) | (simp; omega))]; first | assumption | go_simp
                have g7_2_1 : w7.cell? ⟨w.heap.size + 2, 1, none⟩ = some (.int .i64 cd) := by rw [cc _ _ (by first | omega | (simp; done) | (simp; omega))]; first | assumption | go_simp
                have l7_3 : w4.heap.size < w7.heap.size := by first | omega | (simp at *; omega)
                have g7_3_0 : w7.cell? ⟨w4.heap.size, 0, none⟩ = some (.int .i64 sn) := by rw [cc _ _ (by first | omega | (simp; done) | (simp; omega))]; first | assumption | go_simp
                have g7_3_1 : w7.cell? ⟨w4.heap.size, 1, none⟩ = some (.int .i64 sd) := by rw [cc _ _ (by first | omega | (simp; done) | (simp; omega))]; first | assumption | go_simp
                have l7_4 : w5.heap.size < w7.heap.size := by first | omega | (simp at *; omega)
                have g7_4_0 : w7.cell? ⟨w5.heap.size, 0, none⟩ = some (.int .i64 ln) := by rw [cc _ _ (by first | omega | (simp; done) | (simp; omega))]; first | assumption | go_simp
                have g7_4_1 : w7.cell? ⟨w5.heap.size, 1, none⟩ = some (.int .i64 ld) := by rw [cc _ _ (by first | omega | (simp; done) | (simp; omega))]; first | assumption | go_simp
                have l7_5 : w6.heap.size < w7.heap.size := by first | omega | (simp at *; omega)
                have g7_5_0 : w7.cell? ⟨w6.heap.size, 0, none⟩ = some (.int .i64 xn) := by rw [cc _ _ (by first | omega | (simp; done) | (simp; omega))]; first | assumption | go_simp
                have g7_5_1 : w7.cell? ⟨w6.heap.size, 1, none⟩ = some (.int .i64 xd) := by rw [cc _ _ (by first | omega | (simp; done) | (simp; omega))]; first | assumption | go_simp
                clear cc zz
                clear g6_0_0 g6_0_1 g6_1_0 g6_1_1 g6_2_0 g6_2_1 g6_3_0 g6_3_1 g6_4_0 g6_4_1
                go_wp2_with fail
                refine (add_any xn xd yn yd ln ld 0 _ xn1 xn2 xd1 xd2 yn1 yn2 yd1 yd2 HR.out).mono ?_
                rintro e w8 ⟨rfl, hb8⟩
                have cc := (bcell hb8).1
                have zz := hb8.size
                try simp at zz
                have l8_0 : w.heap.size < w8.heap.size := by first | omega | (simp at *; omega)
                have g8_0_0 : w8.cell? ⟨w.heap.size, 0, none⟩ = some (.int .i64 an) := by rw [cc _ _ (by first | omega | (simp; done) | (simp; omega))]; first | assumption | go_simp
                have g8_0_1 : w8.cell? ⟨w.heap.size, 1, none⟩ = some (.int .i64 ad) := by rw [cc _ _ (by first | omega | (simp; done) | (simp; omega))]; first | assumption | go_simp
                have l8_1 : w.heap.size + 1 < w8.heap.size := by first | omega | (simp at *; omega)
                have g8_1_0 : w8.cell? ⟨w.heap.size + 1, 0, none⟩ = some (.int .i64 bn) := by rw [cc _ _ (by first | omega | (simp; done) | (simp; omega))]; first | assumption | go_simp
                have g8_1_1 : w8.cell? ⟨w.heap.size + 1, 1, none⟩ = some (.int .i64 bd) := by rw [cc _ _ (by first | omega | (simp; done) | (simp; omega))]; first | assumption | go_simp
                have l8_2 : w.heap.size + 2 < w8.heap.size := by first | omega | (simp at *; omega)
                have g8_2_0 : w8.cell? ⟨w.heap.size + 2, 0, none⟩ = some (.int .i64 cn) := by rw [cc _ _ (by first | omega | (simp; done) | (simp; omega))]; first | assumption | go_simp
                have g8_2_1 : w8.cell? ⟨w.heap.size + 2, 1, none⟩ = some (.int .i64 cd) := by rw [cc _ _ (by first | omega | (simp; done) | (simp; omega))]; first | assumption | go_simp
                have l8_3 : w4.heap.size < w8.heap.size := by first | omega | (simp at *; omega)
                have g8_3_0 : w8.cell? ⟨w4.heap.size, 0, none⟩ = some (.int .i64 sn) := by rw [cc _ _ (by first | omega | (simp; done) | (simp; omega))]; first | assumption | go_simp
                have g8_3_1 : w8.cell? ⟨w4.heap.size, 1, none⟩ = some (.int .i64 sd) := by rw [cc _ _ (by first | omega | (simp; done) | (simp; omega))]; first | assumption | go_simp
                have l8_4 : w5.heap.size < w8.heap.size := by first | omega | (simp at *; omega)
                have g8_4_0 : w8.cell? ⟨w5.heap.size, 0, none⟩ = some (.int .i64 ln) := by rw [cc _ _ (by first | omega | (simp; done) | (simp; omega))]; first | assumption | go_simp
                have g8_4_1 : w8.cell? ⟨w5.heap.size, 1, none⟩ = some (.int .i64 ld) := by rw [cc _ _ (by first | omega | (simp; done) | (simp; omega))]; first | assumption | go_simp
                have l8_5 : w6.heap.size < w8.heap.size := by first | omega | (simp at *; omega)
                have g8_5_0 : w8.cell? ⟨w6.heap.size, 0, none⟩ = some (.int .i64 xn) := by rw [cc _ _ (by first | omega | (simp; done) | (simp; omega))]; first | assumption | go_simp
                have g8_5_1 : w8.cell? ⟨w6.heap.size, 1, none⟩ = some (.int .i64 xd) := by rw [cc _ _ (by first | omega | (simp; done) | (simp; omega))]; first | assumption | go_simp
                have l8_6 : w7.heap.size < w8.heap.size := by first | omega | (simp at *; omega)
                have g8_6_0 : w8.cell? ⟨w7.heap.size, 0, none⟩ = some (.int .i64 yn) := by rw [cc _ _ (by first | omega | (simp; done) | (simp; omega))]; first | assumption | go_simp
                have g8_6_1 : w8.cell? ⟨w7.heap.size, 1, none⟩ = some (.int .i64 yd) := by rw [cc _ _ (by first | omega | (simp; done) | (simp; omega))]; first | assumption | go_simp
                clear cc zz
                clear g7_0_0 g7_0_1 g7_1_0 g7_1_1 g7_2_0 g7_2_1 g7_3_0 g7_3_1 g7_4_0 g7_4_1 g7_5_0 g7_5_1
                go_wp2_with fail
                refine (awake_any _).mono ?_
                rintro e w9 ⟨rfl, hb9⟩
                have cc := (bcell hb9).1
                have zz := hb9.size
                try simp at zz
                have l9_0 : w.heap.size < w9.heap.size := by first | omega | (simp at *; omega)
                have g9_0_0 : w9.cell? ⟨w.heap.size, 0, none⟩ = some (.int .i64 an) := by rw [cc _ _ (by first | omega | (simp; done) | (simp; omega))]; first | assumption | go_simp
                have g9_0_1 : w9.cell? ⟨w.heap.size, 1, none⟩ = some (.int .i64 ad) := by rw [cc _ _ (by first | omega | (simp; done) | (simp; omega))]; first | assumption | go_simp
                have l9_1 : w.heap.size + 1 < w9.heap.size := by first | omega | (simp at *; omega)
                have g9_1_0 : w9.cell? ⟨w.heap.size + 1, 0, none⟩ = some (.int .i64 bn) := by rw [cc _ _ (by first | omega | (simp; done) | (simp; omega))]; first | assumption | go_simp
                have g9_1_1 : w9.cell? ⟨w.heap.size + 1, 1, none⟩ = some (.int .i64 bd) := by rw [cc _ _ (by first | omega | (simp; done) | (simp; omega))]; first | assumption | go_simp
                have l9_2 : w.heap.size + 2 < w9.heap.size := by first | omega | (simp at *; omega)
                have g9_2_0 : w9.cell? ⟨w.heap.size + 2, 0, none⟩ = some (.int .i64 cn) := by rw [cc _ _ (by first | omega | (simp; done) | (simp; omega))]; first | assumption | go_simp
                have g9_2_1 : w9.cell? ⟨w.heap.size + 2, 1, none⟩ = some (.int .i64 cd) := by rw [cc _ _ (by first | omega | (simp; done) | (simp; omega))]; first | assumption | go_simp
                have l9_3 : w4.heap.size < w9.heap.size := by first | omega | (simp at *; omega)
                have g9_3_0 : w9.cell? ⟨w4.heap.size, 0, none⟩ = some (.int .i64 sn) := by rw [cc _ _ (by first | omega | (simp; done) | (simp; omega))]; first | assumption | go_simp
                have g9_3_1 : w9.cell? ⟨w4.heap.size, 1, none⟩ = some (.int .i64 sd) := by rw [cc _ _ (by first | omega | (simp; done) | (simp; omega))]; first | assumption | go_simp
                have l9_4 : w5.heap.size < w9.heap.size := by first | omega | (simp at *; omega)
                have g9_4_0 : w9.cell? ⟨w5.heap.size, 0, none⟩ = some (.int .i64 ln) := by rw [cc _ _ (by first | omega | (simp; done) | (simp; omega))]; first | assumption | go_simp
                have g9_4_1 : w9.cell? ⟨w5.heap.size, 1, none⟩ = some (.int .i64 ld) := by rw [cc _ _ (by first | omega | (simp; done) | (simp; omega))]; first | assumption | go_simp
                have l9_5 : w6.heap.size < w9.heap.size := by first | omega | (simp at *; omega)
                have g9_5_0 : w9.cell? ⟨w6.heap.size, 0, none⟩ = some (.int .i64 xn) := by rw [cc _ _ (by first | omega | (simp; done) | (simp; omega))]; first | assumption | go_simp
                have g9_5_1 : w9.cell? ⟨w6.heap.size, 1, none⟩ = some (.int .i64 xd) := by rw [cc _ _ (by first | omega | (simp; done) | (simp; omega))]; first | assumption | go_simp
                have l9_6 : w7.heap.size < w9.heap.size := by first | omega | (simp at *; omega)
                have g9_6_0 : w9.cell? ⟨w7.heap.size, 0, none⟩ = some (.int .i64 yn) := by rw [cc _ _ (by first | omega | (simp; done) | (simp; omega))]; first | assumption | go_simp
                have g9_6_1 : w9.cell? ⟨w7.heap.size, 1, none⟩ = some (.int .i64 yd) := by rw [cc _ _ (by first | omega | (simp; done) | (simp; omega))]; first | assumption | go_simp
                have l9_7 : w8.heap.size < w9.heap.size := by first | omega | (simp at *; omega)
                have g9_7_0 : w9.cell? ⟨w8.heap.size, 0, none⟩ = some (.int .i64 ln) := by rw [cc _ _ (by first | omega | (simp; done) | (simp; omega))]; first | assumption | go_simp
                have g9_7_1 : w9.cell? ⟨w8.heap.size, 1, none⟩ = some (.int .i64 ld) := by rw [cc _ _ (by first | omega | (simp; done) | (simp; omega))]; first | assumption | go_simp
                clear cc zz
                clear g8_0_0 g8_0_1 g8_1_0 g8_1_1 g8_2_0 g8_2_1 g8_3_0 g8_3_1 g8_4_0 g8_4_1 g8_5_0 g8_5_1 g8_6_0 g8_6_1
                go_wp2
                go_ret
                exact ⟨rfl, (by repeat' (first | exact Below.refl _ _ | assumption | (with_reducible refine bdrewN ?_ _) | (with_reducible refine bdrew ?_) | (with_reducible refine bset ?_ ?_) | (with_reducible refine balloc0 ?_) | (with_reducible refine balloc ?_ ?_) | (apply btrans0; rotate_left; assumption) | (apply btrans; rotate_left; assumption) | (simp; done) | omega | (simp; omega)))⟩
              · have e4' : (re != 0) = true := by simpa using e4
                clear dis e4
                go_wp2_with fail
                refine (add_any bn bd cn cd sn sd 0 _ bn1 bn2 bd1 bd2 cn1 cn2 cd1 cd2 HS.out).mono ?_
                rintro e w4 ⟨rfl, hb4⟩
                have cc := (bcell hb4).1
                have zz := hb4.size
                try simp at zz
                have l4_0 : w.heap.size < w4.heap.size := by first | omega | (simp at *; omega)
                have g4_0_0 : w4.cell? ⟨w.heap.size, 0, none⟩ = some (.int .i64 an) := by rw [cc _ _ (by first | omega | (simp; done) | (simp; omega))]; first | assumption | go_simp
                have g4_0_1 : w4.cell? ⟨w.heap.size, 1, none⟩ = some (.int .i64 ad) := by rw [cc _ _ (by first | omega | (simp; done) | (simp; omega))]; first | assumption | go_simp
                have l4_1 : w.heap.size + 1 < w4.heap.size := by first | omega | (simp at *; omega)
                have g4_1_0 : w4.cell? ⟨w.heap.size + 1, 0, none⟩ = some (.int .i64 bn) := by rw [cc _ _ (by first | omega | (simp; done) | (simp; omega))]; first | assumption | go_simp
                have g4_1_1 : w4.cell? ⟨w.heap.size + 1, 1, none⟩ = some (.int .i64 bd) := by rw [cc _ _ (by first | omega | (simp; done) | (simp; omega))]; first | assumption | go_simp
                have l4_2 : w.heap.size + 2 < w4.heap.size := by first | omega | (simp at *; omega)
                have g4_2_0 : w4.cell? ⟨w.heap.size + 2, 0, none⟩ = some (.int .i64 cn) := by rw [cc _ _ (by first | omega | (simp; done) | (simp; omega))]; first | assumption | go_simp
                have g4_2_1 : w4.cell? ⟨w.heap.size + 2, 1, none⟩ = some (.int .i64 cd) := by rw [cc _ _ (by first | omega | (simp; done) | (simp; omega))]; first | assumption | go_simp
                clear cc zz
                go_wp2_with fail
                refine (mul_any an ad sn sd ln ld 0 _ an1 an2 ad1 ad2 sn1 sn2 sd1 sd2 HL.out).mono ?_
                rintro e w5 ⟨rfl, hb5⟩
                have cc := (bcell hb5).1
                have zz := hb5.size
                try simp at zz
                have l5_0 : w.heap.size < w5.heap.size := by first | omega | (simp at *; omega)
                have g5_0_0 : w5.cell? ⟨w.heap.size, 0, none⟩ = some (.int .i64 an) := by rw [cc _ _ (by first | omega | (simp; done) | (simp; omega))]; first | assumption | go_simp
                have g5_0_1 : w5.cell? ⟨w.heap.size, 1, none⟩ = some (.int .i64 ad) := by rw [cc _ _ (by first | omega | (simp; done) | (simp; omega))]; first | assumption | go_simp
                have l5_1 : w.heap.size + 1 < w5.heap.size := by first | omega | (simp at *; omega)
                have g5_1_0 : w5.cell? ⟨w.heap.size + 1, 0, none⟩ = some (.int .i64 bn) := by rw [cc _ _ (by first | omega | (simp; done) | (simp; omega))]; first | assumption | go_simp
                have g5_1_1 : w5.cell? ⟨w.heap.size + 1, 1, none⟩ = some (.int .i64 bd) := by rw [cc _ _ (by first | omega | (simp; done) | (simp; omega))]; first | assumption | go_simp
                have l5_2 : w.heap.size + 2 < w5.heap.size := by first | omega | (simp at *; omega)
                have g5_2_0 : w5.cell? ⟨w.heap.size + 2, 0, none⟩ = some (.int .i64 cn) := by rw [cc _ _ (by first | omega | (simp; done) | (simp; omega))]; first | assumption | go_simp
                have g5_2_1 : w5.cell? ⟨w.heap.size + 2, 1, none⟩ = some (.int .i64 cd) := by rw [cc _ _ (by first | omega | (simp; done) | (simp; omega))]; first | assumption | go_simp
                have l5_3 : w4.heap.size < w5.heap.size := by first | omega | (simp at *; omega)
                have g5_3_0 : w5.cell? ⟨w4.heap.size, 0, none⟩ = some (.int .i64 sn) := by rw [cc _ _ (by first | omega | (simp; done) | (simp; omega))]; first | assumption | go_simp
                have g5_3_1 : w5.cell? ⟨w4.heap.size, 1, none⟩ = some (.int .i64 sd) := by rw [cc _ _ (by first | omega | (simp; done) | (simp; omega))]; first | assumption | go_simp
                clear cc zz
                clear g4_0_0 g4_0_1 g4_1_0 g4_1_1 g4_2_0 g4_2_1
                go_wp2_with fail
                refine (mul_any an ad bn bd xn xd 0 _ an1 an2 ad1 ad2 bn1 bn2 bd1 bd2 HX.out).mono ?_
                rintro e w6 ⟨rfl, hb6⟩
                have cc := (bcell hb6).1
                have zz := hb6.size
                try simp at zz
                have l6_0 : w.heap.size < w6.heap.size := by first | omega | (simp at *; omega)
                have g6_0_0 : w6.cell? ⟨w.heap.size, 0, none⟩ = some (.int .i64 an) := by rw [cc _ _ (by first | omega | (simp; done) | (simp; omega))]; first | assumption | go_simp
                have g6_0_1 : w6.cell? ⟨w.heap.size, 1, none⟩ = some (.int .i64 ad) := by rw [cc _ _ (by first | omega | (simp; done) | (simp; omega))]; first | assumption | go_simp
                have l6_1 : w.heap.size + 1 < w6.heap.size := by first | omega | (simp at *; omega)
                have g6_1_0 : w6.cell? ⟨w.heap.size + 1, 0, none⟩ = some (.int .i64 bn) := by rw [cc _ _ (by first | omega | (simp; done) | (simp; omega))]; first | assumption | go_simp
                have g6_1_1 : w6.cell? ⟨w.heap.size + 1, 1, none⟩ = some (.int .i64 bd) := by rw [cc _ _ (by first | omega | (simp; done) | (simp; omega))]; first | assumption | go_simp
                have l6_2 : w.heap.size + 2 < w6.heap.size := by first | omega | (simp at *; omega)
                have g6_2_0 : w6.cell? ⟨w.heap.size + 2, 0, none⟩ = some (.int .i64 cn) := by rw [cc _ _ (by first | omega | (simp; done) | (simp; omega))]; first | assumption | go_simp
                have g6_2_1 : w6.cell? ⟨w.heap.size + 2, 1, none⟩ = some (.int .i64 cd) := by rw [cc _ _ (by first | omega | (simp; done) | (simp; omega))]; first | assumption | go_simp
                have l6_3 : w4.heap.size < w6.heap.size := by first | omega | (simp at *; omega)
                have g6_3_0 : w6.cell? ⟨w4.heap.size, 0, none⟩ = some (.int .i64 sn) := by rw [cc _ _ (by first | omega | (simp; done) | (simp; omega))]; first | assumption | go_simp
                have g6_3_1 : w6.cell? ⟨w4.heap.size, 1, none⟩ = some (.int .i64 sd) := by rw [cc _ _ (by first | omega | (simp; done) | (simp; omega))]; first | assumption | go_simp
                have l6_4 : w5.heap.size < w6.heap.size := by first | omega | (simp at *; omega)
                have g6_4_0 : w6.cell? ⟨w5.heap.size, 0, none⟩ = some (.int .i64 ln) := by rw [cc _ _ (by first | omega | (simp; done) | (simp; omega))]; first | assumption | go_simp
                have g6_4_1 : w6.cell? ⟨w5.heap.size, 1, none⟩ = some (.int .i64 ld) := by rw [cc _ _ (by first | omega | (simp; done) | (simp; omega))]; first | assumption | go_simp
                clear cc zz
                clear g5_0_0 g5_0_1 g5_1_0 g5_1_1 g5_2_0 g5_2_1 g5_3_0 g5_3_1
                go_wp2_with fail
                refine (mul_any an ad cn cd yn yd 0 _ an1 an2 ad1 ad2 cn1 cn2 cd1 cd2 HY.out).mono ?_
                rintro e w7 ⟨rfl, hb7⟩
                have cc := (bcell hb7).1
                have zz := hb7.size
                try simp at zz
                have l7_0 : w.heap.size < w7.heap.size := by first | omega | (simp at *; omega)
                have g7_0_0 : w7.cell? ⟨w.heap.size, 0, none⟩ = some (.int .i64 an) := by rw [cc _ _ (by first | omega | (simp; done) | (simp; omega))]; first | assumption | go_simp
                have g7_0_1 : w7.cell? ⟨w.heap.size, 1, none⟩ = some (.int .i64 ad) := by rw [cc _ _ (by first | omega | (simp; done) | (simp; omega))]; first | assumption | go_simp
                have l7_1 : w.heap.size + 1 < w7.heap.size := by first | omega | (simp at *; omega)
                have g7_1_0 : w7.cell? ⟨w.heap.size + 1, 0, none⟩ = some (.int .i64 bn) := by rw [cc _ _ (by first | omega | (simp; done) | (simp; omega))]; first | assumption | go_simp
                have g7_1_1 : w7.cell? ⟨w.heap.size + 1, 1, none⟩ = some (.int .i64 bd) := by rw [cc _ _ (by first | omega | (simp; done) | (simp; omega))]; first | assumption | go_simp
                have l7_2 : w.heap.size + 2 < w7.heap.size := by first | omega | (simp at *; omega)
                have g7_2_0 : w7.cell? ⟨w.heap.size + 2, 0, none⟩ = some (.int .i64 cn) := by rw [cc _ _ (by first | omega | (simp; done) | (simp; omega))]; first | assumption | go_simp
                have g7_2_1 : w7.cell? ⟨w.heap.size + 2, 1, none⟩ = some (.int .i64 cd) := by rw [cc _ _ (by first | omega | (simp; done) | (simp; omega))]; first | assumption | go_simp
                have l7_3 : w4.heap.size < w7.heap.size := by first | omega | (simp at *; omega)
                have g7_3_0 : w7.cell? ⟨w4.heap.size, 0, none⟩ = some (.int .i64 sn) := by rw [cc _ _ (by first | omega | (simp; done) | (simp; omega))]; first | assumption | go_simp
                have g7_3_1 : w7.cell? ⟨w4.heap.size, 1, none⟩ = some (.int .i64 sd) := by rw [cc _ _ (by first | omega | (simp; done) | (simp; omega))]; first | assumption | go_simp
                have l7_4 : w5.heap.size < w7.heap.size := by first | omega | (simp at *; omega)
                have g7_4_0 : w7.cell? ⟨w5.heap.size, 0, none⟩ = some (.int .i64 ln) := by rw [cc _ _ (by first | omega | (simp; done) | (simp; omega))]; first | assumption | go_simp
                have g7_4_1 : w7.cell? ⟨w5.heap.size, 1, none⟩ = some (.int .i64 ld) := by rw [cc _ _ (by first | omega | (simp; done) | (simp; omega))]; first | assumption | go_simp
                have l7_5 : w6.heap.size < w7.heap.size := by first | omega | (simp at *; omega)
                have g7_5_0 : w7.cell? ⟨w6.heap.size, 0, none⟩ = some (.int .i64 xn) := by rw [cc _ _ (by first | omega | (simp; done) | (simp; omega))]; first | assumption | go_simp
                have g7_5_1 : w7.cell? ⟨w6.heap.size, 1, none⟩ = some (.int .i64 xd) := by rw [cc _ _ (by first | omega | (simp; done) | (simp; omega))]; first | assumption | go_simp
                clear cc zz
                clear g6_0_0 g6_0_1 g6_1_0 g6_1_1 g6_2_0 g6_2_1 g6_3_0 g6_3_1 g6_4_0 g6_4_1
                go_wp2_with fail
                refine (add_any xn xd yn yd rn rd re _ xn1 xn2 xd1 xd2 yn1 yn2 yd1 yd2 HR.out).mono ?_
                rintro e w8 ⟨rfl, hb8⟩
                have cc := (bcell hb8).1
                have zz := hb8.size
                try simp at zz
                have l8_0 : w.heap.size < w8.heap.size := by first | omega | (simp at *; omega)
                have g8_0_0 : w8.cell? ⟨w.heap.size, 0, none⟩ = some (.int .i64 an) := by rw [cc _ _ (by first | omega | (simp; done) | (simp; omega))]; first | assumption | go_simp
                have g8_0_1 : w8.cell? ⟨w.heap.size, 1, none⟩ = some (.int .i64 ad) := by rw [cc _ _ (by first | omega | (simp; done) | (simp; omega))]; first | assumption | go_simp
                have l8_1 : w.heap.size + 1 < w8.heap.size := by first | omega | (simp at *; omega)
                have g8_1_0 : w8.cell? ⟨w.heap.size + 1, 0, none⟩ = some (.int .i64 bn) := by rw [cc _ _ (by first | omega | (simp; done) | (simp; omega))]; first | assumption | go_simp
                have g8_1_1 : w8.cell? ⟨w.heap.size + 1, 1, none⟩ = some (.int .i64 bd) := by rw [cc _ _ (by first | omega | (simp; done) | (simp; omega))]; first | assumption | go_simp
                have l8_2 : w.heap.size + 2 < w8.heap.size := by first | omega | (simp at *; omega)
                have g8_2_0 : w8.cell? ⟨w.heap.size + 2, 0, none⟩ = some (.int .i64 cn) := by rw [cc _ _ (by first | omega | (simp; done) | (simp; omega))]; first | assumption | go_simp
                have g8_2_1 : w8.cell? ⟨w.heap.size + 2, 1, none⟩ = some (.int .i64 cd) := by rw [cc _ _ (by first | omega | (simp; done) | (simp; omega))]; first | assumption | go_simp
                have l8_3 : w4.heap.size < w8.heap.size := by first | omega | (simp at *; omega)
                have g8_3_0 : w8.cell? ⟨w4.heap.size, 0, none⟩ = some (.int .i64 sn) := by rw [cc _ _ (by first | omega | (simp; done) | (simp; omega))]; first | assumption | go_simp
                have g8_3_1 : w8.cell? ⟨w4.heap.size, 1, none⟩ = some (.int .i64 sd) := by rw [cc _ _ (by first | omega | (simp; done) | (simp; omega))]; first | assumption | go_simp
                have l8_4 : w5.heap.size < w8.heap.size := by first | omega | (simp at *; omega)
                have g8_4_0 : w8.cell? ⟨w5.heap.size, 0, none⟩ = some (.int .i64 ln) := by rw [cc _ _ (by first | omega | (simp; done) | (simp; omega))]; first | assumption | go_simp
                have g8_4_1 : w8.cell? ⟨w5.heap.size, 1, none⟩ = some (.int .i64 ld) := by rw [cc _ _ (by first | omega | (simp; done) | (simp; omega))]; first | assumption | go_simp
                have l8_5 : w6.heap.size < w8.heap.size := by first | omega | (simp at *; omega)
                have g8_5_0 : w8.cell? ⟨w6.heap.size, 0, none⟩ = some (.int .i64 xn) := by rw [cc _ _ (by first | omega | (simp; done) | (simp; omega))]; first | assumption | go_simp
                have g8_5_1 : w8.cell? ⟨w6.heap.size, 1, none⟩ = some (.int .i64 xd) := by rw [cc _ _ (by first | omega | (simp; done) | (simp; omega))]; first | assumption | go_simp
                have l8_6 : w7.heap.size < w8.heap.size := by first | omega | (simp at *; omega)
                have g8_6_0 : w8.cell? ⟨w7.heap.size, 0, none⟩ = some (.int .i64 yn) := by rw [cc _ _ (by first | omega | (simp; done) | (simp; omega))]; first | assumption | go_simp
                have g8_6_1 : w8.cell? ⟨w7.heap.size, 1, none⟩ = some (.int .i64 yd) := by rw [cc _ _ (by first | omega | (simp; done) | (simp; omega))]; first | assumption | go_simp
                clear cc zz
                clear g7_0_0 g7_0_1 g7_1_0 g7_1_1 g7_2_0 g7_2_1 g7_3_0 g7_3_1 g7_4_0 g7_4_1 g7_5_0 g7_5_1
                go_wp2_with fail
                refine (awake_any _).mono ?_
                rintro e w9 ⟨rfl, hb9⟩
                have cc := (bcell hb9).1
                have zz := hb9.size
                try simp at zz
                have l9_0 : w.heap.size < w9.heap.size := by first | omega | (simp at *; omega)
                have g9_0_0 : w9.cell? ⟨w.heap.size, 0, none⟩ = some (.int .i64 an) := by rw [cc _ _ (by first | omega | (simp; done) | (simp; omega))]; first | assumption | go_simp
                have g9_0_1 : w9.cell? ⟨w.heap.size, 1, none⟩ = some (.int .i64 ad) := by rw [cc _ _ (by first | omega | (simp; done) | (simp; omega))]; first | assumption | go_simp
                have l9_1 : w.heap.size + 1 < w9.heap.size := by first | omega | (simp at *; omega)
                have g9_1_0 : w9.cell? ⟨w.heap.size + 1, 0, none⟩ = some (.int .i64 bn) := by rw [cc _ _ (by first | omega | (simp; done) | (simp; omega))]; first | assumption | go_simp
                have g9_1_1 : w9.cell? ⟨w.heap.size + 1, 1, none⟩ = some (.int .i64 bd) := by rw [cc _ _ (by first | omega | (simp; done) | (simp; omega))]; first | assumption | go_simp
                have l9_2 : w.heap.size + 2 < w9.heap.size := by first | omega | (simp at *; omega)
                have g9_2_0 : w9.cell? ⟨w.heap.size + 2, 0, none⟩ = some (.int .i64 cn) := by rw [cc _ _ (by first | omega | (simp; done) | (simp; omega))]; first | assumption | go_simp
                have g9_2_1 : w9.cell? ⟨w.heap.size + 2, 1, none⟩ = some (.int .i64 cd) := by rw [cc _ _ (by first | omega | (simp; done) | (simp; omega))]; first | assumption | go_simp
                have l9_3 : w4.heap.size < w9.heap.size := by first | omega | (simp at *; omega)
                have g9_3_0 : w9.cell? ⟨w4.heap.size, 0, none⟩ = some (.int .i64 sn) := by rw [cc _ _ (by first | omega | (simp; done) | (simp; omega))]; first | assumption | go_simp
                have g9_3_1 : w9.cell? ⟨w4.heap.size, 1, none⟩ = some (.int .i64 sd) := by rw [cc _ _ (by first | omega | (simp; done) | (simp; omega))]; first | assumption | go_simp
                have l9_4 : w5.heap.size < w9.heap.size := by first | omega | (simp at *; omega)
                have g9_4_0 : w9.cell? ⟨w5.heap.size, 0, none⟩ = some (.int .i64 ln) := by rw [cc _ _ (by first | omega | (simp; done) | (simp; omega))]; first | assumption | go_simp
                have g9_4_1 : w9.cell? ⟨w5.heap.size, 1, none⟩ = some (.int .i64 ld) := by rw [cc _ _ (by first | omega | (simp; done) | (simp; omega))]; first | assumption | go_simp
                have l9_5 : w6.heap.size < w9.heap.size := by first | omega | (simp at *; omega)
                have g9_5_0 : w9.cell? ⟨w6.heap.size, 0, none⟩ = some (.int .i64 xn) := by rw [cc _ _ (by first | omega | (simp; done) | (simp; omega))]; first | assumption | go_simp
                have g9_5_1 : w9.cell? ⟨w6.heap.size, 1, none⟩ = some (.int .i64 xd) := by rw [cc _ _ (by first | omega | (simp; done) | (simp; omega))]; first | assumption | go_simp
                have l9_6 : w7.heap.size < w9.heap.size := by first | omega | (simp at *; omega)
                have g9_6_0 : w9.cell? ⟨w7.heap.size, 0, none⟩ = some (.int .i64 yn) := by rw [cc _ _ (by first | omega | (simp; done) | (simp; omega))]; first | assumption | go_simp
                have g9_6_1 : w9.cell? ⟨w7.heap.size, 1, none⟩ = some (.int .i64 yd) := by rw [cc _ _ (by first | omega | (simp; done) | (simp; omega))]; first | assumption | go_simp
                have l9_7 : w8.heap.size < w9.heap.size := by first | omega | (simp at *; omega)
                have g9_7_0 : w9.cell? ⟨w8.heap.size, 0, none⟩ = some (.int .i64 rn) := by rw [cc _ _ (by first | omega | (simp; done) | (simp; omega))]; first | assumption | go_simp
                have g9_7_1 : w9.cell? ⟨w8.heap.size, 1, none⟩ = some (.int .i64 rd) := by rw [cc _ _ (by first | omega | (simp; done) | (simp; omega))]; first | assumption | go_simp
                clear cc zz
                clear g8_0_0 g8_0_1 g8_1_0 g8_1_1 g8_2_0 g8_2_1 g8_3_0 g8_3_1 g8_4_0 g8_4_1 g8_5_0 g8_5_1 g8_6_0 g8_6_1
                go_wp2
                go_ret
                exact ⟨rfl, (by repeat' (first | exact Below.refl _ _ | assumption | (with_reducible refine bdrewN ?_ _) | (with_reducible refine bdrew ?_) | (with_reducible refine bset ?_ ?_) | (with_reducible refine balloc0 ?_) | (with_reducible refine balloc ?_ ?_) | (apply btrans0; rotate_left; assumption) | (apply btrans; rotate_left; assumption) | (simp; done) | omega | (simp; omega)))⟩
            · have e3' : (ye != 0) = true := by simpa using e3
              clear dis e3
              go_wp2_with fail
              refine (add_any bn bd cn cd sn sd 0 _ bn1 bn2 bd1 bd2 cn1 cn2 cd1 cd2 HS.out).mono ?_
              rintro e w4 ⟨rfl, hb4⟩
              have cc := (bcell hb4).1
              have zz := hb4.size
              try simp at zz
              have l4_0 : w.heap.size < w4.heap.size := by first | omega | (simp at *; omega)
              have g4_0_0 : w4.cell? ⟨w.heap.size, 0, none⟩ = some (.int .i64 an) := by rw [cc _ _ (by first | omega | (simp; done) | (simp; omega))]; first | assumption | go_simp
              have g4_0_1 : w4.cell? ⟨w.heap.size, 1, none⟩ = some (.int .i64 ad) := by rw [cc _ _ (by first | omega | (simp; done) | (simp; omega))]; first | assumption | go_simp
              have l4_1 : w.heap.size + 1 < w4.heap.size := by first | omega | (simp at *; omega)
              have g4_1_0 : w4.cell? ⟨w.heap.size + 1, 0, none⟩ = some (.int .i64 bn) := by rw [cc _ _ (by first | omega | (simp; done) | (simp; omega))]; first | assumption | go_simp
              have g4_1_1 : w4.cell? ⟨w.heap.size + 1, 1, none⟩ = some (.int .i64 bd) := by rw [cc _ _ (by first | omega | (simp; done) | (simp; omega))]; first | assumption | go_simp
              have l4_2 : w.heap.size + 2 < w4.heap.size := by first | omega | (simp at *; omega)
              have g4_2_0 : w4.cell? ⟨w.heap.size + 2, 0, none⟩ = some (.int .i64 cn) := by rw [cc _ _ (by first | omega | (simp; done) | (simp; omega))]; first | assumption | go_simp
              have g4_2_1 : w4.cell? ⟨w.heap.size + 2, 1, none⟩ = some (.int .i64 cd) := by rw [cc _ _ (by first | omega | (simp; done) | (simp; omega))]; first | assumption | go_simp
              clear cc zz
              go_wp2_with fail
              refine (mul_any an ad sn sd ln ld 0 _ an1 an2 ad1 ad2 sn1 sn2 sd1 sd2 HL.out).mono ?_
              rintro e w5 ⟨rfl, hb5⟩
              have cc := (bcell hb5).1
              have zz := hb5.size
              try simp at zz
              have l5_0 : w.heap.size < w5.heap.size := by first | omega | (simp at *; omega)
              have g5_0_0 : w5.cell? ⟨w.heap.size, 0, none⟩ = some (.int .i64 an) := by rw [cc _ _ (by first | omega | (simp; done) | (simp; omega))]; first | assumption | go_simp
              have g5_0_1 : w5.cell? ⟨w.heap.size, 1, none⟩ = some (.int .i64 ad) := by rw [cc _ _ (by first | omega | (simp; done) | (simp; omega))]; first | assumption | go_simp
              have l5_1 : w.heap.size + 1 < w5.heap.size := by first | omega | (simp at *; omega)
              have g5_1_0 : w5.cell? ⟨w.heap.size + 1, 0, none⟩ = some (.int .i64 bn) := by rw [cc _ _ (by first | omega | (simp; done) | (simp; omega))]; first | assumption | go_simp
              have g5_1_1 : w5.cell? ⟨w.heap.size + 1, 1, none⟩ = some (.int .i64 bd) := by rw [cc _ _ (by first | omega | (simp; done) | (simp; omega))]; first | assumption | go_simp
              have l5_2 : w.heap.size + 2 < w5.heap.size := by first | omega | (simp at *; omega)
              have g5_2_0 : w5.cell? ⟨w.heap.size + 2, 0, none⟩ = some (.int .i64 cn) := by rw [cc _ _ (by first | omega | (simp; done) | (simp; omega))]; first | assumption | go_simp
              have g5_2_1 : w5.cell? ⟨w.heap.size + 2, 1, none⟩ = some (.int .i64 cd) := by rw [cc _ _ (by first | omega | (simp; done) | (simp; omega))]; first | assumption | go_simp
              have l5_3 : w4.heap.size < w5.heap.size := by first | omega | (simp at *; omega)
              have g5_3_0 : w5.cell? ⟨w4.heap.size, 0, none⟩ = some (.int .i64 sn) := by rw [cc _ _ (by first | omega | (simp; done) | (simp; omega))]; first | assumption | go_simp
              have g5_3_1 : w5.cell? ⟨w4.heap.size, 1, none⟩ = some (.int .i64 sd) := by rw [cc _ _ (by first | omega | (simp; done) | (simp; omega))]; first | assumption | go_simp
              clear cc zz
              clear g4_0_0 g4_0_1 g4_1_0 g4_1_1 g4_2_0 g4_2_1
              go_wp2_with fail
              refine (mul_any an ad bn bd xn xd 0 _ an1 an2 ad1 ad2 bn1 bn2 bd1 bd2 HX.out).mono ?_
              rintro e w6 ⟨rfl, hb6⟩
              have cc := (bcell hb6).1
              have zz := hb6.size
              try simp at zz
              have l6_0 : w.heap.size < w6.heap.size := by first | omega | (simp at *; omega)
              have g6_0_0 : w6.cell? ⟨w.heap.size, 0, none⟩ = some (.int .i64 an) := by rw [cc _ _ (by first | omega | (simp; done) | (simp; omega))]; first | assumption | go_simp
              have g6_0_1 : w6.cell? ⟨w.heap.size, 1, none⟩ = some (.int .i64 ad) := by rw [cc _ _ (by first | omega | (simp; done) | (simp; omega))]; first | assumption | go_simp
              have l6_1 : w.heap.size + 1 < w6.heap.size := by first | omega | (simp at *; omega)
              have g6_1_0 : w6.cell? ⟨w.heap.size + 1, 0, none⟩ = some (.int .i64 bn) := by rw [cc _ _ (by first | omega | (simp; done) | (simp; omega))]; first | assumption | go_simp
              have g6_1_1 : w6.cell? ⟨w.heap.size + 1, 1, none⟩ = some (.int .i64 bd) := by rw [cc _ _ (by first | omega | (simp; done) | (simp; omega))]; first | assumption | go_simp
              have l6_2 : w.heap.size + 2 < w6.heap.size := by first | omega | (simp at *; omega)
              have g6_2_0 : w6.cell? ⟨w.heap.size + 2, 0, none⟩ = some (.int .i64 cn) := by rw [cc _ _ (by first | omega | (simp; done) | (simp; omega))]; first | assumption | go_simp
              have g6_2_1 : w6.cell? ⟨w.heap.size + 2, 1, none⟩ = some (.int .i64 cd) := by rw [cc _ _ (by first | omega | (simp; done) | (simp; omega))]; first | assumption | go_simp
              have l6_3 : w4.heap.size < w6.heap.size := by first | omega | (simp at *; omega)
              have g6_3_0 : w6.cell? ⟨w4.heap.size, 0, none⟩ = some (.int .i64 sn) := by rw [cc _ _ (by first | omega | (simp; done) | (simp; omega))]; first | assumption | go_simp
              have g6_3_1 : w6.cell? ⟨w4.heap.size, 1, none⟩ = some (.int .i64 sd) := by rw [cc _ _ (by first | omega | (simp; done) | (simp; omega))]; first | assumption | go_simp
              have l6_4 : w5.heap.size < w6.heap.size := by first | omega | (simp at *; omega)
              have g6_4_0 : w6.cell? ⟨w5.heap.size, 0, none⟩ = some (.int .i64 ln) := by rw [cc _ _ (by first | omega | (simp; done) | (simp; omega))]; first | assumption | go_simp
              have g6_4_1 : w6.cell? ⟨w5.heap.size, 1, none⟩ = some (.int .i64 ld) := by rw [cc _ _ (by first | omega | (simp; done) | (simp; omega))]; first | assumption | go_simp
              clear cc zz
              clear g5_0_0 g5_0_1 g5_1_0 g5_1_1 g5_2_0 g5_2_1 g5_3_0 g5_3_1
              go_wp2_with fail
              refine (mul_any an ad cn cd yn yd ye _ an1 an2 ad1 ad2 cn1 cn2 cd1 cd2 HY.out).mono ?_
              rintro e w7 ⟨rfl, hb7⟩
              have cc := (bcell hb7).1
              have zz := hb7.size
              try simp at zz
              have l7_0 : w.heap.size < w7.heap.size := by first | omega | (simp at *; omega)
              have g7_0_0 : w7.cell? ⟨w.heap.size, 0, none⟩ = some (.int .i64 an) := by rw [cc _ _ (by first | omega | (simp; done) | (simp; omega))]; first | assumption | go_simp
              have g7_0_1 : w7.cell? ⟨w.heap.size, 1, none⟩ = some (.int .i64 ad) := by rw [cc _ _ (by first | omega | (simp; done) | (simp; omega))]; first | assumption | go_simp
              have l7_1 : w.heap.size + 1 < w7.heap.size := by first | omega | (simp at *; omega)
              have g7_1_0 : w7.cell? ⟨w.heap.size + 1, 0, none⟩ = some (.int .i64 bn) := by rw [cc _ _ (by first | omega | (simp; done) | (simp; omega))]; first | assumption | go_simp
              have g7_1_1 : w7.cell? ⟨w.heap.size + 1, 1, none⟩ = some (.int .i64 bd) := by rw [cc _ _ (by first | omega | (simp; done) | (simp; omega))]; first | assumption | go_simp
              have l7_2 : w.heap.size + 2 < w7.heap.size := by first | omega | (simp at *; omega)
              have g7_2_0 : w7.cell? ⟨w.heap.size + 2, 0, none⟩ = some (.int .i64 cn) := by rw [cc _ _ (by first | omega | (simp; done) | (simp; omega))]; first | assumption | go_simp
              have g7_2_1 : w7.cell? ⟨w.heap.size + 2, 1, none⟩ = some (.int .i64 cd) := by rw [cc _ _ (by first | omega | (simp; done) | (simp; omega))]; first | assumption | go_simp
              have l7_3 : w4.heap.size < w7.heap.size := by first | omega | (simp at *; omega)
              have g7_3_0 : w7.cell? ⟨w4.heap.size, 0, none⟩ = some (.int .i64 sn) := by rw [cc _ _ (by first | omega | (simp; done) | (simp; omega))]; first | assumption | go_simp
              have g7_3_1 : w7.cell? ⟨w4.heap.size, 1, none⟩ = some (.int .i64 sd) := by rw [cc _ _ (by first | omega | (simp; done) | (simp; omega))]; first | assumption | go_simp
              have l7_4 : w5.heap.size < w7.heap.size := by first | omega | (simp at *; omega)
              have g7_4_0 : w7.cell? ⟨w5.heap.size, 0, none⟩ = some (.int .i64 ln) := by rw [cc _ _ (by first | omega | (simp; done) | (simp; omega))]; first | assumption | go_simp
              have g7_4_1 : w7.cell? ⟨w5.heap.size, 1, none⟩ = some (.int .i64 ld) := by rw [cc _ _ (by first | omega | (simp; done) | (simp; omega))]; first | assumption | go_simp
              have l7_5 : w6.heap.size < w7.heap.size := by first | omega | (simp at *; omega)
              have g7_5_0 : w7.cell? ⟨w6.heap.size, 0, none⟩ = some (.int .i64 xn) := by rw [cc _ _ (by first | omega | (simp; done) | (simp; omega))]; first | assumption | go_simp
              have g7_5_1 : w7.cell? ⟨w6.heap.size, 1, none⟩ = some (.int .i64 xd) := by rw [cc _ _ (by first | omega | (simp; done) | (simp; omega))]; first | assumption | go_simp
              clear cc zz
              clear g6_0_0 g6_0_1 g6_1_0 g6_1_1 g6_2_0 g6_2_1 g6_3_0 g6_3_1 g6_4_0 g6_4_1
              go_wp2_with fail
              refine (add_any xn xd yn yd rn rd re _ xn1 xn2 xd1 xd2 yn1 yn2 yd1 yd2 HR.out).mono ?_
              rintro e w8 ⟨rfl, hb8⟩
              have cc := (bcell hb8).1
              have zz := hb8.size
              try simp at zz
              have l8_0 : w.heap.size < w8.heap.size := by first | omega | (simp at *; omega)
              have g8_0_0 : w8.cell? ⟨w.heap.size, 0, none⟩ = some (.int .i64 an) := by rw [cc _ _ (by first | omega | (simp; done) | (simp; omega))]; first | assumption | go_simp
              have g8_0_1 : w8.cell? ⟨w.heap.size, 1, none⟩ = some (.int .i64 ad) := by rw [cc _ _ (by first | omega | (simp; done) | (simp; omega))]; first | assumption | go_simp
              have l8_1 : w.heap.size + 1 < w8.heap.size := by first | omega | (simp at *; omega)
              have g8_1_0 : w8.cell? ⟨w.heap.size + 1, 0, none⟩ = some (.int .i64 bn) := by rw [cc _ _ (by first | omega | (simp; done) | (simp; omega))]; first | assumption | go_simp
              have g8_1_1 : w8.cell? ⟨w.heap.size + 1, 1, none⟩ = some (.int .i64 bd) := by rw [cc _ _ (by first | omega | (simp; done) | (simp; omega))]; first | assumption | go_simp
              have l8_2 : w.heap.size + 2 < w8.heap.size := by first | omega | (simp at *; omega)
              have g8_2_0 : w8.cell? ⟨w.heap.size + 2, 0, none⟩ = some (.int .i64 cn) := by rw [cc _ _ (by first | omega | (simp; done) | (simp; omega))]; first | assumption | go_simp
              have g8_2_1 : w8.cell? ⟨w.heap.size + 2, 1, none⟩ = some (.int .i64 cd) := by rw [cc _ _ (by first | omega | (simp; done) | (simp; omega))]; first | assumption | go_simp
              have l8_3 : w4.heap.size < w8.heap.size := by first | omega | (simp at *; omega)
              have g8_3_0 : w8.cell? ⟨w4.heap.size, 0, none⟩ = some (.int .i64 sn) := by rw [cc _ _ (by first | omega | (simp; done) | (simp; omega))]; first | assumption | go_simp
              have g8_3_1 : w8.cell? ⟨w4.heap.size, 1, none⟩ = some (.int .i64 sd) := by rw [cc _ _ (by first | omega | (simp; done) | (simp; omega))]; first | assumption | go_simp
              have l8_4 : w5.heap.size < w8.heap.size := by first | omega | (simp at *; omega)
              have g8_4_0 : w8.cell? ⟨w5.heap.size, 0, none⟩ = some (.int .i64 ln) := by rw [cc _ _ (by first | omega | (simp; done) | (simp; omega))]; first | assumption | go_simp
              have g8_4_1 : w8.cell? ⟨w5.heap.size, 1, none⟩ = some (.int .i64 ld) := by rw [cc _ _ (by first | omega | (simp; done) | (simp; omega))]; first | assumption | go_simp
              have l8_5 : w6.heap.size < w8.heap.size := by first | omega | (simp at *; omega)
              have g8_5_0 : w8.cell? ⟨w6.heap.size, 0, none⟩ = some (.int .i64 xn) := by rw [cc _ _ (by first | omega | (simp; done) | (simp; omega))]; first | assumption | go_simp
              have g8_5_1 : w8.cell? ⟨w6.heap.size, 1, none⟩ = some (.int .i64 xd) := by rw [cc _ _ (by first | omega | (simp; done) | (simp; omega))]; first | assumption | go_simp
              have l8_6 : w7.heap.size < w8.heap.size := by first | omega | (simp at *; omega)
              have g8_6_0 : w8.cell? ⟨w7.heap.size, 0, none⟩ = some (.int .i64 yn) := by rw [cc _ _ (by first | omega | (simp; done) | (simp; omega))]; first | assumption | go_simp
              have g8_6_1 : w8.cell? ⟨w7.heap.size, 1, none⟩ = some (.int .i64 yd) := by rw [cc _ _ (by first | omega | (simp; done) | (simp; omega))]; first | assumption | go_simp
              clear cc zz
              clear g7_0_0 g7_0_1 g7_1_0 g7_1_1 g7_2_0 g7_2_1 g7_3_0 g7_3_1 g7_4_0 g7_4_1 g7_5_0 g7_5_1
              go_wp2_with fail
              refine (awake_any _).mono ?_
              rintro e w9 ⟨rfl, hb9⟩
              have cc := (bcell hb9).1
              have zz := hb9.size
              try simp at zz
              have l9_0 : w.heap.size < w9.heap.size := by first | omega | (simp at *; omega)
              have g9_0_0 : w9.cell? ⟨w.heap.size, 0, none⟩ = some (.int .i64 an) := by rw [cc _ _ (by first | omega | (simp; done) | (simp; omega))]; first | assumption | go_simp
              have g9_0_1 : w9.cell? ⟨w.heap.size, 1, none⟩ = some (.int .i64 ad) := by rw [cc _ _ (by first | omega | (simp; done) | (simp; omega))]; first | assumption | go_simp
              have l9_1 : w.heap.size + 1 < w9.heap.size := by first | omega | (simp at *; omega)
              have g9_1_0 : w9.cell? ⟨w.heap.size + 1, 0, none⟩ = some (.int .i64 bn) := by rw [cc _ _ (by first | omega | (simp; done) | (simp; omega))]; first | assumption | go_simp
              have g9_1_1 : w9.cell? ⟨w.heap.size + 1, 1, none⟩ = some (.int .i64 bd) := by rw [cc _ _ (by first | omega | (simp; done) | (simp; omega))]; first | assumption | go_simp
              have l9_2 : w.heap.size + 2 < w9.heap.size := by first | omega | (simp at *; omega)
              have g9_2_0 : w9.cell? ⟨w.heap.size + 2, 0, none⟩ = some (.int .i64 cn) := by rw [cc _ _ (by first | omega | (simp; done) | (simp; omega))]; first | assumption | go_simp
              have g9_2_1 : w9.cell? ⟨w.heap.size + 2, 1, none⟩ = some (.int .i64 cd) := by rw [cc _ _ (by first | omega | (simp; done) | (simp; omega))]; first | assumption | go_simp
              have l9_3 : w4.heap.size < w9.heap.size := by first | omega | (simp at *; omega)
              have g9_3_0 : w9.cell? ⟨w4.heap.size, 0, none⟩ = some (.int .i64 sn) := by rw [cc _ _ (by first | omega | (simp; done) | (simp; omega))]; first | assumption | go_simp
              have g9_3_1 : w9.cell? ⟨w4.heap.size, 1, none⟩ = some (.int .i64 sd) := by rw [cc _ _ (by first | omega | (simp; done) | (simp; omega))]; first | assumption | go_simp
              have l9_4 : w5.heap.size < w9.heap.size := by first | omega | (simp at *; omega)
              have g9_4_0 : w9.cell? ⟨w5.heap.size, 0, none⟩ = some (.int .i64 ln) := by rw [cc _ _ (by first | omega | (simp; done) | (simp; omega))]; first | assumption | go_simp
              have g9_4_1 : w9.cell? ⟨w5.heap.size, 1, none⟩ = some (.int .i64 ld) := by rw [cc _ _ (by first | omega | (simp; done) | (simp; omega))]; first | assumption | go_simp
              have l9_5 : w6.heap.size < w9.heap.size := by first | omega | (simp at *; omega)
              have g9_5_0 : w9.cell? ⟨w6.heap.size, 0, none⟩ = some (.int .i64 xn) := by rw [cc _ _ (by first | omega | (simp; done) | (simp; omega))]; first | assumption | go_simp
              have g9_5_1 : w9.cell? ⟨w6.heap.size, 1, none⟩ = some (.int .i64 xd) := by rw [cc _ _ (by first | omega | (simp; done) | (simp; omega))]; first | assumption | go_simp
              have l9_6 : w7.heap.size < w9.heap.size := by first | omega | (simp at *; omega)
              have g9_6_0 : w9.cell? ⟨w7.heap.size, 0, none⟩ = some (.int .i64 yn) := by rw [cc _ _ (by first | omega | (simp; done) | (simp; omega))]; first | assumption | go_simp
              have g9_6_1 : w9.cell? ⟨w7.heap.size, 1, none⟩ = some (.int .i64 yd) := by rw [cc _ _ (by first | omega | (simp; done) | (simp; omega))]; first | assumption | go_simp
              have l9_7 : w8.heap.size < w9.heap.size := by first | omega | (simp at *; omega)
              have g9_7_0 : w9.cell? ⟨w8.heap.size, 0, none⟩ = some (.int .i64 rn) := by rw [cc _ _ (by first | omega | (simp; done) | (simp; omega))]; first | assumption | go_simp
              have g9_7_1 : w9.cell? ⟨w8.heap.size, 1, none⟩ = some (.int .i64 rd) := by rw [cc _ _ (by first | omega | (simp; done) | (simp; omega))]; first | assumption | go_simp
              clear cc zz
              clear g8_0_0 g8_0_1 g8_1_0 g8_1_1 g8_2_0 g8_2_1 g8_3_0 g8_3_1 g8_4_0 g8_4_1 g8_5_0 g8_5_1 g8_6_0 g8_6_1
              go_wp2
              go_ret
              exact ⟨rfl, (by repeat' (first | exact Below.refl _ _ | assumption | (with_reducible refine bdrewN ?_ _) | (with_reducible refine bdrew ?_) | (with_reducible refine bset ?_ ?_) | (with_reducible refine balloc0 ?_) | (with_reducible refine balloc ?_ ?_) | (apply btrans0; rotate_left; assumption) | (apply btrans; rotate_left; assumption) | (simp; done) | omega | (simp; omega)))⟩
          · have e2' : (xe != 0) = true := by simpa using e2
            clear dis e2
            go_wp2_with fail
            refine (add_any bn bd cn cd sn sd 0 _ bn1 bn2 bd1 bd2 cn1 cn2 cd1 cd2 HS.out).mono ?_
            rintro e w4 ⟨rfl, hb4⟩
            have cc := (bcell hb4).1
            have zz := hb4.size
            try simp at zz
            have l4_0 : w.heap.size < w4.heap.size := by first | omega | (simp at *; omega)
            have g4_0_0 : w4.cell? ⟨w.heap.size, 0, none⟩ = some (.int .i64 an) := by rw [cc _ _ (by first | omega | (simp; done) | (simp; omega))]; first | assumption | go_simp
            have g4_0_1 : w4.cell? ⟨w.heap.size, 1, none⟩ = some (.int .i64 ad) := by rw [cc _ _ (by first | omega | (simp; done) | (simp; omega))]; first | assumption | go_simp
            have l4_1 : w.heap.size + 1 < w4.heap.size := by first | omega | (simp at *; omega)
            have g4_1_0 : w4.cell? ⟨w.heap.size + 1, 0, none⟩ = some (.int .i64 bn) := by rw [cc _ _ (by first | omega | (simp; done) | (simp; omega))]; first | assumption | go_simp
            have g4_1_1 : w4.cell? ⟨w.heap.size + 1, 1, none⟩ = some (.int .i64 bd) := by rw [cc _ _ (by first | omega | (simp; done) | (simp; omega))]; first | assumption | go_simp
            have l4_2 : w.heap.size + 2 < w4.heap.size := by first | omega | (simp at *; omega)
            have g4_2_0 : w4.cell? ⟨w.heap.size + 2, 0, none⟩ = some (.int .i64 cn) := by rw [cc _ _ (by first | omega | (simp; done) | (simp; omega))]; first | assumption | go_simp
            have g4_2_1 : w4.cell? ⟨w.heap.size + 2, 1, none⟩ = some (.int .i64 cd) := by rw [cc _ _ (by first | omega | (simp; done) | (simp; omega))]; first | assumption | go_simp
            clear cc zz
            go_wp2_with fail
            refine (mul_any an ad sn sd ln ld 0 _ an1 an2 ad1 ad2 sn1 sn2 sd1 sd2 HL.out).mono ?_
            rintro e w5 ⟨rfl, hb5⟩
            have cc := (bcell hb5).1
            have zz := hb5.size
            try simp at zz
            have l5_0 : w.heap.size < w5.heap.size := by first | omega | (simp at *; omega)
            have g5_0_0 : w5.cell? ⟨w.heap.size, 0, none⟩ = some (.int .i64 an) := by rw [cc _ _ (by first | omega | (simp; done) | (simp; omega))]; first | assumption | go_simp
            have g5_0_1 : w5.cell? ⟨w.heap.size, 1, none⟩ = some (.int .i64 ad) := by rw [cc _ _ (by first | omega | (simp; done) | (simp; omega))]; first | assumption | go_simp
            have l5_1 : w.heap.size + 1 < w5.heap.size := by first | omega | (simp at *; omega)
            have g5_1_0 : w5.cell? ⟨w.heap.size + 1, 0, none⟩ = some (.int .i64 bn) := by rw [cc _ _ (by first | omega | (simp; done) | (simp; omega))]; first | assumption | go_simp
            have g5_1_1 : w5.cell? ⟨w.heap.size + 1, 1, none⟩ = some (.int .i64 bd) := by rw [cc _ _ (by first | omega | (simp; done) | (simp; omega))]; first | assumption | go_simp
            have l5_2 : w.heap.size + 2 < w5.heap.size := by first | omega | (simp at *; omega)
            have g5_2_0 : w5.cell? ⟨w.heap.size + 2, 0, none⟩ = some (.int .i64 cn) := by rw [cc _ _ (by first | omega | (simp; done) | (simp; omega))]; first | assumption | go_simp
            have g5_2_1 : w5.cell? ⟨w.heap.size + 2, 1, none⟩ = some (.int .i64 cd) := by rw [cc _ _ (by first | omega | (simp; done) | (simp; omega))]; first | assumption | go_simp
            have l5_3 : w4.heap.size < w5.heap.size := by first | omega | (simp at *; omega)
            have g5_3_0 : w5.cell? ⟨w4.heap.size, 0, none⟩ = some (.int .i64 sn) := by rw [cc _ _ (by first | omega | (simp; done) | (simp; omega))]; first | assumption | go_simp
            have g5_3_1 : w5.cell? ⟨w4.heap.size, 1, none⟩ = some (.int .i64 sd) := by rw [cc _ _ (by first | omega | (simp; done) | (simp; omega))]; first | assumption | go_simp
            clear cc zz
            clear g4_0_0 g4_0_1 g4_1_0 g4_1_1 g4_2_0 g4_2_1
            go_wp2_with fail
            refine (mul_any an ad bn bd xn xd xe _ an1 an2 ad1 ad2 bn1 bn2 bd1 bd2 HX.out).mono ?_
            rintro e w6 ⟨rfl, hb6⟩
            have cc := (bcell hb6).1
            have zz := hb6.size
            try simp at zz
            have l6_0 : w.heap.size < w6.heap.size := by first | omega | (simp at *; omega)
            have g6_0_0 : w6.cell? ⟨w.heap.size, 0, none⟩ = some (.int .i64 an) := by rw [cc _ _ (by first | omega | (simp; done) | (simp; omega))]; first | assumption | go_simp
            have g6_0_1 : w6.cell? ⟨w.heap.size, 1, none⟩ = some (.int .i64 ad) := by rw [cc _ _ (by first | omega | (simp; done) | (simp; omega))]; first | assumption | go_simp
            have l6_1 : w.heap.size + 1 < w6.heap.size := by first | omega | (simp at *; omega)
            have g6_1_0 : w6.cell? ⟨w.heap.size + 1, 0, none⟩ = some (.int .i64 bn) := by rw [cc _ _ (by first | omega | (simp; done) | (simp; omega))]; first | assumption | go_simp
            have g6_1_1 : w6.cell? ⟨w.heap.size + 1, 1, none⟩ = some (.int .i64 bd) := by rw [cc _ _ (by first | omega | (simp; done) | (simp; omega))]; first | assumption | go_simp
            have l6_2 : w.heap.size + 2 < w6.heap.size := by first | omega | (simp at *; omega)
            have g6_2_0 : w6.cell? ⟨w.heap.size + 2, 0, none⟩ = some (.int .i64 cn) := by rw [cc _ _ (by first | omega | (simp; done) | (simp; omega))]; first | assumption | go_simp
            have g6_2_1 : w6.cell? ⟨w.heap.size + 2, 1, none⟩ = some (.int .i64 cd) := by rw [cc _ _ (by first | omega | (simp; done) | (simp; omega))]; first | assumption | go_simp
            have l6_3 : w4.heap.size < w6.heap.size := by first | omega | (simp at *; omega)
            have g6_3_0 : w6.cell? ⟨w4.heap.size, 0, none⟩ = some (.int .i64 sn) := by rw [cc _ _ (by first | omega | (simp; done) | (simp; omega))]; first | assumption | go_simp
            have g6_3_1 : w6.cell? ⟨w4.heap.size, 1, none⟩ = some (.int .i64 sd) := by rw [cc _ _ (by first | omega | (simp; done) | (simp; omega))]; first | assumption | go_simp
            have l6_4 : w5.heap.size < w6.heap.size := by first | omega | (simp at *; omega)
            have g6_4_0 : w6.cell? ⟨w5.heap.size, 0, none⟩ = some (.int .i64 ln) := by rw [cc _ _ (by first | omega | (simp; done) | (simp; omega))]; first | assumption | go_simp
            have g6_4_1 : w6.cell? ⟨w5.heap.size, 1, none⟩ = some (.int .i64 ld) := by rw [cc _ _ (by first | omega | (simp; done) | (simp; omega))]; first | assumption | go_simp
            clear cc zz
            clear g5_0_0 g5_0_1 g5_1_0 g5_1_1 g5_2_0 g5_2_1 g5_3_0 g5_3_1
            go_wp2_with fail
            refine (mul_any an ad cn cd yn yd ye _ an1 an2 ad1 ad2 cn1 cn2 cd1 cd2 HY.out).mono ?_
            rintro e w7 ⟨rfl, hb7⟩
            have cc := (bcell hb7).1
            have zz := hb7.size
            try simp at zz
            have l7_0 : w.heap.size < w7.heap.size := by first | omega | (simp at *; omega)
            have g7_0_0 : w7.cell? ⟨w.heap.size, 0, none⟩ = some (.int .i64 an) := by rw [cc _ _ (by first | omega | (simp; done) | (simp; omega))]; first | assumption | go_simp
            have g7_0_1 : w7.cell? ⟨w.heap.size, 1, none⟩ = some (.int .i64 ad) := by rw [cc _ _ (by first | omega | (simp; done) | (simp; omega))]; first | assumption | go_simp
            have l7_1 : w.heap.size + 1 < w7.heap.size := by first | omega | (simp at *; omega)
            have g7_1_0 : w7.cell? ⟨w.heap.size + 1, 0, none⟩ = some (.int .i64 bn) := by rw [cc _ _ (by first | omega | (simp; done) | (simp; omega))]; first | assumption | go_simp
            have g7_1_1 : w7.cell? ⟨w.heap.size + 1, 1, none⟩ = some (.int .i64 bd) := by rw [cc _ _ (by first | omega | (simp; done) | (simp; omega))]; first | assumption | go_simp
            have l7_2 : w.heap.size + 2 < w7.heap.size := by first | omega | (simp at *; omega)
            have g7_2_0 : w7.cell? ⟨w.heap.size + 2, 0, none⟩ = some (.int .i64 cn) := by rw [cc _ _ (by first | omega | (simp; done) | (simp; omega))]; first | assumption | go_simp
            have g7_2_1 : w7.cell? ⟨w.heap.size + 2, 1, none⟩ = some (.int .i64 cd) := by rw [cc _ _ (by first | omega | (simp; done) | (simp; omega))]; first | assumption | go_simp
            have l7_3 : w4.heap.size < w7.heap.size := by first | omega | (simp at *; omega)
            have g7_3_0 : w7.cell? ⟨w4.heap.size, 0, none⟩ = some (.int .i64 sn) := by rw [cc _ _ (by first | omega | (simp; done) | (simp; omega))]; first | assumption | go_simp
            have g7_3_1 : w7.cell? ⟨w4.heap.size, 1, none⟩ = some (.int .i64 sd) := by rw [cc _ _ (by first | omega | (simp; done) | (simp; omega))]; first | assumption | go_simp
            have l7_4 : w5.heap.size < w7.heap.size := by first | omega | (simp at *; omega)
            have g7_4_0 : w7.cell? ⟨w5.heap.size, 0, none⟩ = some (.int .i64 ln) := by rw [cc _ _ (by first | omega | (simp; done) | (simp; omega))]; first | assumption | go_simp
            have g7_4_1 : w7.cell? ⟨w5.heap.size, 1, none⟩ = some (.int .i64 ld) := by rw [cc _ _ (by first | omega | (simp; done) | (simp; omega))]; first | assumption | go_simp
            have l7_5 : w6.heap.size < w7.heap.size := by first | omega | (simp at *; omega)
            have g7_5_0 : w7.cell? ⟨w6.heap.size, 0, none⟩ = some (.int .i64 xn) := by rw [cc _ _ (by first | omega | (simp; done) | (simp; omega))]; first | assumption | go_simp
            have g7_5_1 : w7.cell? ⟨w6.heap.size, 1, none⟩ = some (.int .i64 xd) := by rw [cc _ _ (by first | omega | (simp; done) | (simp; omega))]; first | assumption | go_simp
            clear cc zz
            clear g6_0_0 g6_0_1 g6_1_0 g6_1_1 g6_2_0 g6_2_1 g6_3_0 g6_3_1 g6_4_0 g6_4_1
            go_wp2_with fail
            refine (add_any xn xd yn yd rn rd re _ xn1 xn2 xd1 xd2 yn1 yn2 yd1 yd2 HR.out).mono ?_
            rintro e w8 ⟨rfl, hb8⟩
            have cc := (bcell hb8).1
            have zz := hb8.size
            try simp at zz
            have l8_0 : w.heap.size < w8.heap.size := by first | omega | (simp at *; omega)
            have g8_0_0 : w8.cell? ⟨w.heap.size, 0, none⟩ = some (.int .i64 an) := by rw [cc _ _ (by first | omega | (simp; done) | (simp; omega))]; first | assumption | go_simp
            have g8_0_1 : w8.cell? ⟨w.heap.size, 1, none⟩ = some (.int .i64 ad) := by rw [cc _ _ (by first | omega | (simp; done) | (simp; omega))]; first | assumption | go_simp
            have l8_1 : w.heap.size + 1 < w8.heap.size := by first | omega | (simp at *; omega)
            have g8_1_0 : w8.cell? ⟨w.heap.size + 1, 0, none⟩ = some (.int .i64 bn) := by rw [cc _ _ (by first | omega | (simp; done) | (simp; omega))]; first | assumption | go_simp
            have g8_1_1 : w8.cell? ⟨w.heap.size + 1, 1, none⟩ = some (.int .i64 bd) := by rw [cc _ _ (by first | omega | (simp; done) | (simp; omega))]; first | assumption | go_simp
            have l8_2 : w.heap.size + 2 < w8.heap.size := by first | omega | (simp at *; omega)
            have g8_2_0 : w8.cell? ⟨w.heap.size + 2, 0, none⟩ = some (.int .i64 cn) := by rw [cc _ _ (by first | omega | (simp; done) | (simp; omega))]; first | assumption | go_simp
            have g8_2_1 : w8.cell? ⟨w.heap.size + 2, 1, none⟩ = some (.int .i64 cd) := by rw [cc _ _ (by first | omega | (simp; done) | (simp; omega))]; first | assumption | go_simp
            have l8_3 : w4.heap.size < w8.heap.size := by first | omega | (simp at *; omega)
            have g8_3_0 : w8.cell? ⟨w4.heap.size, 0, none⟩ = some (.int .i64 sn) := by rw [cc _ _ (by first | omega | (simp; done) | (simp; omega))]; first | assumption | go_simp
            have g8_3_1 : w8.cell? ⟨w4.heap.size, 1, none⟩ = some (.int .i64 sd) := by rw [cc _ _ (by first | omega | (simp; done) | (simp; omega))]; first | assumption | go_simp
            have l8_4 : w5.heap.size < w8.heap.size := by first | omega | (simp at *; omega)
            have g8_4_0 : w8.cell? ⟨w5.heap.size, 0, none⟩ = some (.int .i64 ln) := by rw [cc _ _ (by first | omega | (simp; done) | (simp; omega))]; first | assumption | go_simp
            have g8_4_1 : w8.cell? ⟨w5.heap.size, 1, none⟩ = some (.int .i64 ld) := by rw [cc _ _ (by first | omega | (simp; done) | (simp; omega))]; first | assumption | go_simp
            have l8_5 : w6.heap.size < w8.heap.size := by first | omega | (simp at *; omega)
            have g8_5_0 : w8.cell? ⟨w6.heap.size, 0, none⟩ = some (.int .i64 xn) := by rw [cc _ _ (by first | omega | (simp; done) | (simp; omega))]; first | assumption | go_simp
            have g8_5_1 : w8.cell? ⟨w6.heap.size, 1, none⟩ = some (.int .i64 xd) := by rw [cc _ _ (by first | omega | (simp; done) | (simp; omega))]; first | assumption | go_simp
            have l8_6 : w7.heap.size < w8.heap.size := by first | omega | (simp at *; omega)
            have g8_6_0 : w8.cell? ⟨w7.heap.size, 0, none⟩ = some (.int .i64 yn) := by rw [cc _ _ (by first | omega | (simp; done) | (simp; omega))]; first | assumption | go_simp
            have g8_6_1 : w8.cell? ⟨w7.heap.size, 1, none⟩ = some (.int .i64 yd) := by rw [cc _ _ (by first | omega | (simp; done) | (simp; omega))]; first | assumption | go_simp
            clear cc zz
            clear g7_0_0 g7_0_1 g7_1_0 g7_1_1 g7_2_0 g7_2_1 g7_3_0 g7_3_1 g7_4_0 g7_4_1 g7_5_0 g7_5_1
            go_wp2_with fail
            refine (awake_any _).mono ?_
            rintro e w9 ⟨rfl, hb9⟩
            have cc := (bcell hb9).1
            have zz := hb9.size
            try simp at zz
            have l9_0 : w.heap.size < w9.heap.size := by first | omega | (simp at *; omega)
            have g9_0_0 : w9.cell? ⟨w.heap.size, 0, none⟩ = some (.int .i64 an) := by rw [cc _ _ (by first | omega | (simp; done) | (simp; omega))]; first | assumption | go_simp
            have g9_0_1 : w9.cell? ⟨w.heap.size, 1, none⟩ = some (.int .i64 ad) := by rw [cc _ _ (by first | omega | (simp; done) | (simp; omega))]; first | assumption | go_simp
            have l9_1 : w.heap.size + 1 < w9.heap.size := by first | omega | (simp at *; omega)
            have g9_1_0 : w9.cell? ⟨w.heap.size + 1, 0, none⟩ = some (.int .i64 bn) := by rw [cc _ _ (by first | omega | (simp; done) | (simp; omega))]; first | assumption | go_simp
            have g9_1_1 : w9.cell? ⟨w.heap.size + 1, 1, none⟩ = some (.int .i64 bd) := by rw [cc _ _ (by first | omega | (simp; done) | (simp; omega))]; first | assumption | go_simp
            have l9_2 : w.heap.size + 2 < w9.heap.size := by first | omega | (simp at *; omega)
            have g9_2_0 : w9.cell? ⟨w.heap.size + 2, 0, none⟩ = some (.int .i64 cn) := by rw [cc _ _ (by first | omega | (simp; done) | (simp; omega))]; first | assumption | go_simp
            have g9_2_1 : w9.cell? ⟨w.heap.size + 2, 1, none⟩ = some (.int .i64 cd) := by rw [cc _ _ (by first | omega | (simp; done) | (simp; omega))]; first | assumption | go_simp
            have l9_3 : w4.heap.size < w9.heap.size := by first | omega | (simp at *; omega)
            have g9_3_0 : w9.cell? ⟨w4.heap.size, 0, none⟩ = some (.int .i64 sn) := by rw [cc _ _ (by first | omega | (simp; done) | (simp; omega))]; first | assumption | go_simp
            have g9_3_1 : w9.cell? ⟨w4.heap.size, 1, none⟩ = some (.int .i64 sd) := by rw [cc _ _ (by first | omega | (simp; done) | (simp; omega))]; first | assumption | go_simp
            have l9_4 : w5.heap.size < w9.heap.size := by first | omega | (simp at *; omega)
            have g9_4_0 : w9.cell? ⟨w5.heap.size, 0, none⟩ = some (.int .i64 ln) := by rw [cc _ _ (by first | omega | (simp; done) | (simp; omega))]; first | assumption | go_simp
            have g9_4_1 : w9.cell? ⟨w5.heap.size, 1, none⟩ = some (.int .i64 ld) := by rw [cc _ _ (by first | omega | (simp; done) | (simp; omega))]; first | assumption | go_simp
            have l9_5 : w6.heap.size < w9.heap.size := by first | omega | (simp at *; omega)
            have g9_5_0 : w9.cell? ⟨w6.heap.size, 0, none⟩ = some (.int .i64 xn) := by rw [cc _ _ (by first | omega | (simp; done) | (simp; omega))]; first | assumption | go_simp
            have g9_5_1 : w9.cell? ⟨w6.heap.size, 1, none⟩ = some (.int .i64 xd) := by rw [cc _ _ (by first | omega | (simp; done) | (simp; omega))]; first | assumption | go_simp
            have l9_6 : w7.heap.size < w9.heap.size := by first | omega | (simp at *; omega)
            have g9_6_0 : w9.cell? ⟨w7.heap.size, 0, none⟩ = some (.int .i64 yn) := by rw [cc _ _ (by first | omega | (simp; done) | (simp; omega))]; first | assumption | go_simp
            have g9_6_1 : w9.cell? ⟨w7.heap.size, 1, none⟩ = some (.int .i64 yd) := by rw [cc _ _ (by first | omega | (simp; done) | (simp; omega))]; first | assumption | go_simp
            have l9_7 : w8.heap.size < w9.heap.size := by first | omega | (simp at *; omega)
            have g9_7_0 : w9.cell? ⟨w8.heap.size, 0, none⟩ = some (.int .i64 rn) := by rw [cc _ _ (by first | omega | (simp; done) | (simp; omega))]; first | assumption | go_simp
            have g9_7_1 : w9.cell? ⟨w8.heap.size, 1, none⟩ = some (.int .i64 rd) := by rw [cc _ _ (by first | omega | (simp; done) | (simp; omega))]; first | assumption | go_simp
            clear cc zz
            clear g8_0_0 g8_0_1 g8_1_0 g8_1_1 g8_2_0 g8_2_1 g8_3_0 g8_3_1 g8_4_0 g8_4_1 g8_5_0 g8_5_1 g8_6_0 g8_6_1
            go_wp2
            go_ret
            exact ⟨rfl, (by repeat' (first | exact Below.refl _ _ | assumption | (with_reducible refine bdrewN ?_ _) | (with_reducible refine bdrew ?_) | (with_reducible refine bset ?_ ?_) | (with_reducible refine balloc0 ?_) | (with_reducible refine balloc ?_ ?_) | (apply btrans0; rotate_left; assumption) | (apply btrans; rotate_left; assumption) | (simp; done) | omega | (simp; omega)))⟩
        · have e1' : (le != 0) = true := by simpa using e1
          clear dis e1
          go_wp2_with fail
          refine (add_any bn bd cn cd sn sd 0 _ bn1 bn2 bd1 bd2 cn1 cn2 cd1 cd2 HS.out).mono ?_
          rintro e w4 ⟨rfl, hb4⟩
          have cc := (bcell hb4).1
          have zz := hb4.size
          try simp at zz
          have l4_0 : w.heap.size < w4.heap.size := by first | omega | (simp at *; omega)
          have g4_0_0 : w4.cell? ⟨w.heap.size, 0, none⟩ = some (.int .i64 an) := by rw [cc _ _ (by first | omega | (simp; done) | (simp; omega))]; first | assumption | go_simp
          have g4_0_1 : w4.cell? ⟨w.heap.size, 1, none⟩ = some (.int .i64 ad) := by rw [cc _ _ (by first | omega | (simp; done) | (simp; omega))]; first | assumption | go_simp
          have l4_1 : w.heap.size + 1 < w4.heap.size := by first | omega | (simp at *; omega)
          have g4_1_0 : w4.cell? ⟨w.heap.size + 1, 0, none⟩ = some (.int .i64 bn) := by rw [cc _ _ (by first | omega | (simp; done) | (simp; omega))]; first | assumption | go_simp
          have g4_1_1 : w4.cell? ⟨w.heap.size + 1, 1, none⟩ = some (.int .i64 bd) := by rw [cc _ _ (by first | omega | (simp; done) | (simp; omega))]; first | assumption | go_simp
          have l4_2 : w.heap.size + 2 < w4.heap.size := by first | omega | (simp at *; omega)
          have g4_2_0 : w4.cell? ⟨w.heap.size + 2, 0, none⟩ = some (.int .i64 cn) := by rw [cc _ _ (by first | omega | (simp; done) | (simp; omega))]; first | assumption | go_simp
          have g4_2_1 : w4.cell? ⟨w.heap.size + 2, 1, none⟩ = some (.int .i64 cd) := by rw [cc _ _ (by first | omega | (simp; done) | (simp; omega))]; first | assumption | go_simp
          clear cc zz
          go_wp2_with fail
          refine (mul_any an ad sn sd ln ld le _ an1 an2 ad1 ad2 sn1 sn2 sd1 sd2 HL.out).mono ?_
          rintro e w5 ⟨rfl, hb5⟩
          have cc := (bcell hb5).1
          have zz := hb5.size
          try simp at zz
          have l5_0 : w.heap.size < w5.heap.size := by first | omega | (simp at *; omega)
          have g5_0_0 : w5.cell? ⟨w.heap.size, 0, none⟩ = some (.int .i64 an) := by rw [cc _ _ (by first | omega | (simp; done) | (simp; omega))]; first | assumption | go_simp
          have g5_0_1 : w5.cell? ⟨w.heap.size, 1, none⟩ = some (.int .i64 ad) := by rw [cc _ _ (by first | omega | (simp; done) | (simp; omega))]; first | assumption | go_simp
          have l5_1 : w.heap.size + 1 < w5.heap.size := by first | omega | (simp at *; omega)
          have g5_1_0 : w5.cell? ⟨w.heap.size + 1, 0, none⟩ = some (.int .i64 bn) := by rw [cc _ _ (by first | omega | (simp; done) | (simp; omega))]; first | assumption | go_simp
          have g5_1_1 : w5.cell? ⟨w.heap.size + 1, 1, none⟩ = some (.int .i64 bd) := by rw [cc _ _ (by first | omega | (simp; done) | (simp; omega))]; first | assumption | go_simp
          have l5_2 : w.heap.size + 2 < w5.heap.size := by first | omega | (simp at *; omega)
          have g5_2_0 : w5.cell? ⟨w.heap.size + 2, 0, none⟩ = some (.int .i64 cn) := by rw [cc _ _ (by first | omega | (simp; done) | (simp; omega))]; first | assumption | go_simp
          have g5_2_1 : w5.cell? ⟨w.heap.size + 2, 1, none⟩ = some (.int .i64 cd) := by rw [cc _ _ (by first | omega | (simp; done) | (simp; omega))]; first | assumption | go_simp
          have l5_3 : w4.heap.size < w5.heap.size := by first | omega | (simp at *; omega)
          have g5_3_0 : w5.cell? ⟨w4.heap.size, 0, none⟩ = some (.int .i64 sn) := by rw [cc _ _ (by first | omega | (simp; done) | (simp; omega))]; first | assumption | go_simp
          have g5_3_1 : w5.cell? ⟨w4.heap.size, 1, none⟩ = some (.int .i64 sd) := by rw [cc _ _ (by first | omega | (simp; done) | (simp; omega))]; first | assumption | go_simp
          clear cc zz
          clear g4_0_0 g4_0_1 g4_1_0 g4_1_1 g4_2_0 g4_2_1
          go_wp2_with fail
          refine (mul_any an ad bn bd xn xd xe _ an1 an2 ad1 ad2 bn1 bn2 bd1 bd2 HX.out).mono ?_
          rintro e w6 ⟨rfl, hb6⟩
          have cc := (bcell hb6).1
          have zz := hb6.size
          try simp at zz
          have l6_0 : w.heap.size < w6.heap.size := by first | omega | (simp at *; omega)
          have g6_0_0 : w6.cell? ⟨w.heap.size, 0, none⟩ = some (.int .i64 an) := by rw [cc _ _ (by first | omega | (simp; done) | (simp; omega))]; first | assumption | go_simp
          have g6_0_1 : w6.cell? ⟨w.heap.size, 1, none⟩ = some (.int .i64 ad) := by rw [cc _ _ (by first | omega | (simp; done) | (simp; omega))]; first | assumption | go_simp
          have l6_1 : w.heap.size + 1 < w6.heap.size := by first | omega | (simp at *; omega)
          have g6_1_0 : w6.cell? ⟨w.heap.size + 1, 0, none⟩ = some (.int .i64 bn) := by rw [cc _ _ (by first | omega | (simp; done) | (simp; omega))]; first | assumption | go_simp
          have g6_1_1 : w6.cell? ⟨w.heap.size + 1, 1, none⟩ = some (.int .i64 bd) := by rw [cc _ _ (by first | omega | (simp; done) | (simp; omega))]; first | assumption | go_simp
          have l6_2 : w.heap.size + 2 < w6.heap.size := by first | omega | (simp at *; omega)
          have g6_2_0 : w6.cell? ⟨w.heap.size + 2, 0, none⟩ = some (.int .i64 cn) := by rw [cc _ _ (by first | omega | (simp; done) | (simp; omega))]; first | assumption | go_simp
          have g6_2_1 : w6.cell? ⟨w.heap.size + 2, 1, none⟩ = some (.int .i64 cd) := by rw [cc _ _ (by first | omega | (simp; done) | (simp; omega))]; first | assumption | go_simp
          have l6_3 : w4.heap.size < w6.heap.size := by first | omega | (simp at *; omega)
          have g6_3_0 : w6.cell? ⟨w4.heap.size, 0, none⟩ = some (.int .i64 sn) := by rw [cc _ _ (by first | omega | (simp; done) | (simp; omega))]; first | assumption | go_simp
          have g6_3_1 : w6.cell? ⟨w4.heap.size, 1, none⟩ = some (.int .i64 sd) := by rw [cc _ _ (by first | omega | (simp; done) | (simp; omega))]; first | assumption | go_simp
          have l6_4 : w5.heap.size < w6.heap.size := by first | omega | (simp at *; omega)
          have g6_4_0 : w6.cell? ⟨w5.heap.size, 0, none⟩ = some (.int .i64 ln) := by rw [cc _ _ (by first | omega | (simp; done) | (simp; omega))]; first | assumption | go_simp
          have g6_4_1 : w6.cell? ⟨w5.heap.size, 1, none⟩ = some (.int .i64 ld) := by rw [cc _ _ (by first | omega | (simp; done) | (simp; omega))]; first | assumption | go_simp
          clear cc zz
          clear g5_0_0 g5_0_1 g5_1_0 g5_1_1 g5_2_0 g5_2_1 g5_3_0 g5_3_1
          go_wp2_with fail
          refine (mul_any an ad cn cd yn yd ye _ an1 an2 ad1 ad2 cn1 cn2 cd1 cd2 HY.out).mono ?_
          rintro e w7 ⟨rfl, hb7⟩
          have cc := (bcell hb7).1
          have zz := hb7.size
          try simp at zz
          have l7_0 : w.heap.size < w7.heap.size := by first | omega | (simp at *; omega)
          have g7_0_0 : w7.cell? ⟨w.heap.size, 0, none⟩ = some (.int .i64 an) := by rw [cc _ _ (by first | omega | (simp; done) | (simp; omega))]; first | assumption | go_simp
          have g7_0_1 : w7.cell? ⟨w.heap.size, 1, none⟩ = some (.int .i64 ad) := by rw [cc _ _ (by first | omega | (simp; done) | (simp; omega))]; first | assumption | go_simp
          have l7_1 : w.heap.size + 1 < w7.heap.size := by first | omega | (simp at *; omega)
          have g7_1_0 : w7.cell? ⟨w.heap.size + 1, 0, none⟩ = some (.int .i64 bn) := by rw [cc _ _ (by first | omega | (simp; done) | (simp; omega))]; first | assumption | go_simp
          have g7_1_1 : w7.cell? ⟨w.heap.size + 1, 1, none⟩ = some (.int .i64 bd) := by rw [cc _ _ (by first | omega | (simp; done) | (simp; omega))]; first | assumption | go_simp
          have l7_2 : w.heap.size + 2 < w7.heap.size := by first | omega | (simp at *; omega)
          have g7_2_0 : w7.cell? ⟨w.heap.size + 2, 0, none⟩ = some (.int .i64 cn) := by rw [cc _ _ (by first | omega | (simp; done) | (simp; omega))]; first | assumption | go_simp
          have g7_2_1 : w7.cell? ⟨w.heap.size + 2, 1, none⟩ = some (.int .i64 cd) := by rw [cc _ _ (by first | omega | (simp; done) | (simp; omega))]; first | assumption | go_simp
          have l7_3 : w4.heap.size < w7.heap.size := by first | omega | (simp at *; omega)
          have g7_3_0 : w7.cell? ⟨w4.heap.size, 0, none⟩ = some (.int .i64 sn) := by rw [cc _ _ (by first | omega | (simp; done) | (simp; omega))]; first | assumption | go_simp
          have g7_3_1 : w7.cell? ⟨w4.heap.size, 1, none⟩ = some (.int .i64 sd) := by rw [cc _ _ (by first | omega | (simp; done) | (simp; omega))]; first | assumption | go_simp
          have l7_4 : w5.heap.size < w7.heap.size := by first | omega | (simp at *; omega)
          have g7_4_0 : w7.cell? ⟨w5.heap.size, 0, none⟩ = some (.int .i64 ln) := by rw [cc _ _ (by first | omega | (simp; done) | (simp; omega))]; first | assumption | go_simp
          have g7_4_1 : w7.cell? ⟨w5.heap.size, 1, none⟩ = some (.int .i64 ld) := by rw [cc _ _ (by first | omega | (simp; done) | (simp; omega))]; first | assumption | go_simp
          have l7_5 : w6.heap.size < w7.heap.size := by first | omega | (simp at *; omega)
          have g7_5_0 : w7.cell? ⟨w6.heap.size, 0, none⟩ = some (.int .i64 xn) := by rw [cc _ _ (by first | omega | (simp; done) | (simp; omega))]; first | assumption | go_simp
          have g7_5_1 : w7.cell? ⟨w6.heap.size, 1, none⟩ = some (.int .i64 xd) := by rw [cc _ _ (by first | omega | (simp; done) | (simp; omega))]; first | assumption | go_simp
          clear cc zz
          clear g6_0_0 g6_0_1 g6_1_0 g6_1_1 g6_2_0 g6_2_1 g6_3_0 g6_3_1 g6_4_0 g6_4_1
          go_wp2_with fail
          refine (add_any xn xd yn yd rn rd re _ xn1 xn2 xd1 xd2 yn1 yn2 yd1 yd2 HR.out).mono ?_
          rintro e w8 ⟨rfl, hb8⟩
          have cc := (bcell hb8).1
          have zz := hb8.size
          try simp at zz
          have l8_0 : w.heap.size < w8.heap.size := by first | omega | (simp at *; omega)
          have g8_0_0 : w8.cell? ⟨w.heap.size, 0, none⟩ = some (.int .i64 an) := by rw [cc _ _ (by first | omega | (simp; done) | (simp; omega))]; first | assumption | go_simp
          have g8_0_1 : w8.cell? ⟨w.heap.size, 1, none⟩ = some (.int .i64 ad) := by rw [cc _ _ (by first | omega | (simp; done) | (simp; omega))]; first | assumption | go_simp
          have l8_1 : w.heap.size + 1 < w8.heap.size := by first | omega | (simp at *; omega)
          have g8_1_0 : w8.cell? ⟨w.heap.size + 1, 0, none⟩ = some (.int .i64 bn) := by rw [cc _ _ (by first | omega | (simp; done) | (simp; omega))]; first | assumption | go_simp
          have g8_1_1 : w8.cell? ⟨w.heap.size + 1, 1, none⟩ = some (.int .i64 bd) := by rw [cc _ _ (by first | omega | (simp; done) | (simp; omega))]; first | assumption | go_simp
          have l8_2 : w.heap.size + 2 < w8.heap.size := by first | omega | (simp at *; omega)
          have g8_2_0 : w8.cell? ⟨w.heap.size + 2, 0, none⟩ = some (.int .i64 cn) := by rw [cc _ _ (by first | omega | (simp; done) | (simp; omega))]; first | assumption | go_simp
          have g8_2_1 : w8.cell? ⟨w.heap.size + 2, 1, none⟩ = some (.int .i64 cd) := by rw [cc _ _ (by first | omega | (simp; done) | (simp; omega))]; first | assumption | go_simp
          have l8_3 : w4.heap.size < w8.heap.size := by first | omega | (simp at *; omega)
          have g8_3_0 : w8.cell? ⟨w4.heap.size, 0, none⟩ = some (.int .i64 sn) := by rw [cc _ _ (by first | omega | (simp; done) | (simp; omega))]; first | assumption | go_simp
          have g8_3_1 : w8.cell? ⟨w4.heap.size, 1, none⟩ = some (.int .i64 sd) := by rw [cc _ _ (by first | omega | (simp; done) | (simp; omega))]; first | assumption | go_simp
          have l8_4 : w5.heap.size < w8.heap.size := by first | omega | (simp at *; omega)
          have g8_4_0 : w8.cell? ⟨w5.heap.size, 0, none⟩ = some (.int .i64 ln) := by rw [cc _ _ (by first | omega | (simp; done) | (simp; omega))]; first | assumption | go_simp
          have g8_4_1 : w8.cell? ⟨w5.heap.size, 1, none⟩ = some (.int .i64 ld) := by rw [cc _ _ (by first | omega | (simp; done) | (simp; omega))]; first | assumption | go_simp
          have l8_5 : w6.heap.size < w8.heap.size := by first | omega | (simp at *; omega)
          have g8_5_0 : w8.cell? ⟨w6.heap.size, 0, none⟩ = some (.int .i64 xn) := by rw [cc _ _ (by first | omega | (simp; done) | (simp; omega))]; first | assumption | go_simp
          have g8_5_1 : w8.cell? ⟨w6.heap.size, 1, none⟩ = some (.int .i64 xd) := by rw [cc _ _ (by first | omega | (simp; done) | (simp; omega))]; first | assumption | go_simp
          have l8_6 : w7.heap.size < w8.heap.size := by first | omega | (simp at *; omega)
          have g8_6_0 : w8.cell? ⟨w7.heap.size, 0, none⟩ = some (.int .i64 yn) := by rw [cc _ _ (by first | omega | (simp; done) | (simp; omega))]; first | assumption | go_simp
          have g8_6_1 : w8.cell? ⟨w7.heap.size, 1, none⟩ = some (.int .i64 yd) := by rw [cc _ _ (by first | omega | (simp; done) | (simp; omega))]; first | assumption | go_simp
          clear cc zz
          clear g7_0_0 g7_0_1 g7_1_0 g7_1_1 g7_2_0 g7_2_1 g7_3_0 g7_3_1 g7_4_0 g7_4_1 g7_5_0 g7_5_1
          go_wp2_with fail
          refine (awake_any _).mono ?_
          rintro e w9 ⟨rfl, hb9⟩
          have cc := (bcell hb9).1
          have zz := hb9.size
          try simp at zz
          have l9_0 : w.heap.size < w9.heap.size := by first | omega | (simp at *; omega)
          have g9_0_0 : w9.cell? ⟨w.heap.size, 0, none⟩ = some (.int .i64 an) := by rw [cc _ _ (by first | omega | (simp; done) | (simp; omega))]; first | assumption | go_simp
          have g9_0_1 : w9.cell? ⟨w.heap.size, 1, none⟩ = some (.int .i64 ad) := by rw [cc _ _ (by first | omega | (simp; done) | (simp; omega))]; first | assumption | go_simp
          have l9_1 : w.heap.size + 1 < w9.heap.size := by first | omega | (simp at *; omega)
          have g9_1_0 : w9.cell? ⟨w.heap.size + 1, 0, none⟩ = some (.int .i64 bn) := by rw [cc _ _ (by first | omega | (simp; done) | (simp; omega))]; first | assumption | go_simp
          have g9_1_1 : w9.cell? ⟨w.heap.size + 1, 1, none⟩ = some (.int .i64 bd) := by rw [cc _ _ (by first | omega | (simp; done) | (simp; omega))]; first | assumption | go_simp
          have l9_2 : w.heap.size + 2 < w9.heap.size := by first | omega | (simp at *; omega)
          have g9_2_0 : w9.cell? ⟨w.heap.size + 2, 0, none⟩ = some (.int .i64 cn) := by rw [cc _ _ (by first | omega | (simp; done) | (simp; omega))]; first | assumption | go_simp
          have g9_2_1 : w9.cell? ⟨w.heap.size + 2, 1, none⟩ = some (.int .i64 cd) := by rw [cc _ _ (by first | omega | (simp; done) | (simp; omega))]; first | assumption | go_simp
          have l9_3 : w4.heap.size < w9.heap.size := by first | omega | (simp at *; omega)
          have g9_3_0 : w9.cell? ⟨w4.heap.size, 0, none⟩ = some (.int .i64 sn) := by rw [cc _ _ (by first | omega | (simp; done) | (simp; omega))]; first | assumption | go_simp
          have g9_3_1 : w9.cell? ⟨w4.heap.size, 1, none⟩ = some (.int .i64 sd) := by rw [cc _ _ (by first | omega | (simp; done) | (simp; omega))]; first | assumption | go_simp
          have l9_4 : w5.heap.size < w9.heap.size := by first | omega | (simp at *; omega)
          have g9_4_0 : w9.cell? ⟨w5.heap.size, 0, none⟩ = some (.int .i64 ln) := by rw [cc _ _ (by first | omega | (simp; done) | (simp; omega))]; first | assumption | go_simp
          have g9_4_1 : w9.cell? ⟨w5.heap.size, 1, none⟩ = some (.int .i64 ld) := by rw [cc _ _ (by first | omega | (simp; done) | (simp; omega))]; first | assumption | go_simp
          have l9_5 : w6.heap.size < w9.heap.size := by first | omega | (simp at *; omega)
          have g9_5_0 : w9.cell? ⟨w6.heap.size, 0, none⟩ = some (.int .i64 xn) := by rw [cc _ _ (by first | omega | (simp; done) | (simp; omega))]; first | assumption | go_simp
          have g9_5_1 : w9.cell? ⟨w6.heap.size, 1, none⟩ = some (.int .i64 xd) := by rw [cc _ _ (by first | omega | (simp; done) | (simp; omega))]; first | assumption | go_simp
          have l9_6 : w7.heap.size < w9.heap.size := by first | omega | (simp at *; omega)
          have g9_6_0 : w9.cell? ⟨w7.heap.size, 0, none⟩ = some (.int .i64 yn) := by rw [cc _ _ (by first | omega | (simp; done) | (simp; omega))]; first | assumption | go_simp
          have g9_6_1 : w9.cell? ⟨w7.heap.size, 1, none⟩ = some (.int .i64 yd) := by rw [cc _ _ (by first | omega | (simp; done) | (simp; omega))]; first | assumption | go_simp
          have l9_7 : w8.heap.size < w9.heap.size := by first | omega | (simp at *; omega)
          have g9_7_0 : w9.cell? ⟨w8.heap.size, 0, none⟩ = some (.int .i64 rn) := by rw [cc _ _ (by first | omega | (simp; done) | (simp; omega))]; first | assumption | go_simp
          have g9_7_1 : w9.cell? ⟨w8.heap.size, 1, none⟩ = some (.int .i64 rd) := by rw [cc _ _ (by first | omega | (simp; done) | (simp; omega))]; first | assumption | go_simp
          clear cc zz
          clear g8_0_0 g8_0_1 g8_1_0 g8_1_1 g8_2_0 g8_2_1 g8_3_0 g8_3_1 g8_4_0 g8_4_1 g8_5_0 g8_5_1 g8_6_0 g8_6_1
          go_wp2
          go_ret
          exact ⟨rfl, (by repeat' (first | exact Below.refl _ _ | assumption | (with_reducible refine bdrewN ?_ _) | (with_reducible refine bdrew ?_) | (with_reducible refine bset ?_ ?_) | (with_reducible refine balloc0 ?_) | (with_reducible refine balloc ?_ ?_) | (apply btrans0; rotate_left; assumption) | (apply btrans; rotate_left; assumption) | (simp; done) | omega | (simp; omega)))⟩
      · have e0' : (se != 0) = true := by simpa using e0
        clear dis e0
        go_wp2_with fail
        refine (add_any bn bd cn cd sn sd se _ bn1 bn2 bd1 bd2 cn1 cn2 cd1 cd2 HS.out).mono ?_
        rintro e w4 ⟨rfl, hb4⟩
        have cc := (bcell hb4).1
        have zz := hb4.size
        try simp at zz
        have l4_0 : w.heap.size < w4.heap.size := by first | omega | (simp at *; omega)
        have g4_0_0 : w4.cell? ⟨w.heap.size, 0, none⟩ = some (.int .i64 an) := by rw [cc _ _ (by first | omega | (simp; done) | (simp; omega))]; first | assumption | go_simp
        have g4_0_1 : w4.cell? ⟨w.heap.size, 1, none⟩ = some (.int .i64 ad) := by rw [cc _ _ (by first | omega | (simp; done) | (simp; omega))]; first | assumption | go_simp
        have l4_1 : w.heap.size + 1 < w4.heap.size := by first | omega | (simp at *; omega)
        have g4_1_0 : w4.cell? ⟨w.heap.size + 1, 0, none⟩ = some (.int .i64 bn) := by rw [cc _ _ (by first | omega | (simp; done) | (simp; omega))]; first | assumption | go_simp
        have g4_1_1 : w4.cell? ⟨w.heap.size + 1, 1, none⟩ = some (.int .i64 bd) := by rw [cc _ _ (by first | omega | (simp; done) | (simp; omega))]; first | assumption | go_simp
        have l4_2 : w.heap.size + 2 < w4.heap.size := by first | omega | (simp at *; omega)
        have g4_2_0 : w4.cell? ⟨w.heap.size + 2, 0, none⟩ = some (.int .i64 cn) := by rw [cc _ _ (by first | omega | (simp; done) | (simp; omega))]; first | assumption | go_simp
        have g4_2_1 : w4.cell? ⟨w.heap.size + 2, 1, none⟩ = some (.int .i64 cd) := by rw [cc _ _ (by first | omega | (simp; done) | (simp; omega))]; first | assumption | go_simp
        clear cc zz
        go_wp2_with fail
        refine (mul_any an ad sn sd ln ld le _ an1 an2 ad1 ad2 sn1 sn2 sd1 sd2 HL.out).mono ?_
        rintro e w5 ⟨rfl, hb5⟩
        have cc := (bcell hb5).1
        have zz := hb5.size
        try simp at zz
        have l5_0 : w.heap.size < w5.heap.size := by first | omega | (simp at *; omega)
        have g5_0_0 : w5.cell? ⟨w.heap.size, 0, none⟩ = some (.int .i64 an) := by rw [cc _ _ (by first | omega | (simp; done) | (simp; omega))]; first | assumption | go_simp
        have g5_0_1 : w5.cell? ⟨w.heap.size, 1, none⟩ = some (.int .i64 ad) := by rw [cc _ _ (by first | omega | (simp; done) | (simp; omega))]; first | assumption | go_simp
        have l5_1 : w.heap.size + 1 < w5.heap.size := by first | omega | (simp at *; omega)
        have g5_1_0 : w5.cell? ⟨w.heap.size + 1, 0, none⟩ = some (.int .i64 bn) := by rw [cc _ _ (by first | omega | (simp; done) | (simp; omega))]; first | assumption | go_simp
        have g5_1_1 : w5.cell? ⟨w.heap.size + 1, 1, none⟩ = some (.int .i64 bd) := by rw [cc _ _ (by first | omega | (simp; done) | (simp; omega))]; first | assumption | go_simp
        have l5_2 : w.heap.size + 2 < w5.heap.size := by first | omega | (simp at *; omega)
        have g5_2_0 : w5.cell? ⟨w.heap.size + 2, 0, none⟩ = some (.int .i64 cn) := by rw [cc _ _ (by first | omega | (simp; done) | (simp; omega))]; first | assumption | go_simp
        have g5_2_1 : w5.cell? ⟨w.heap.size + 2, 1, none⟩ = some (.int .i64 cd) := by rw [cc _ _ (by first | omega | (simp; done) | (simp; omega))]; first | assumption | go_simp
        have l5_3 : w4.heap.size < w5.heap.size := by first | omega | (simp at *; omega)
        have g5_3_0 : w5.cell? ⟨w4.heap.size, 0, none⟩ = some (.int .i64 sn) := by rw [cc _ _ (by first | omega | (simp; done) | (simp; omega))]; first | assumption | go_simp
        have g5_3_1 : w5.cell? ⟨w4.heap.size, 1, none⟩ = some (.int .i64 sd) := by rw [cc _ _ (by first | omega | (simp; done) | (simp; omega))]; first | assumption | go_simp
        clear cc zz
        clear g4_0_0 g4_0_1 g4_1_0 g4_1_1 g4_2_0 g4_2_1
        go_wp2_with fail
        refine (mul_any an ad bn bd xn xd xe _ an1 an2 ad1 ad2 bn1 bn2 bd1 bd2 HX.out).mono ?_
        rintro e w6 ⟨rfl, hb6⟩
        have cc := (bcell hb6).1
        have zz := hb6.size
        try simp at zz
        have l6_0 : w.heap.size < w6.heap.size := by first | omega | (simp at *; omega)
        have g6_0_0 : w6.cell? ⟨w.heap.size, 0, none⟩ = some (.int .i64 an) := by rw [cc _ _ (by first | omega | (simp; done) | (simp; omega))]; first | assumption | go_simp
        have g6_0_1 : w6.cell? ⟨w.heap.size, 1, none⟩ = some (.int .i64 ad) := by rw [cc _ _ (by first | omega | (simp; done) | (simp; omega))]; first | assumption | go_simp
        have l6_1 : w.heap.size + 1 < w6.heap.size := by first | omega | (simp at *; omega)
        have g6_1_0 : w6.cell? ⟨w.heap.size + 1, 0, none⟩ = some (.int .i64 bn) := by rw [cc _ _ (by first | omega | (simp; done) | (simp; omega))]; first | assumption | go_simp
        have g6_1_1 : w6.cell? ⟨w.heap.size + 1, 1, none⟩ = some (.int .i64 bd) := by rw [cc _ _ (by first | omega | (simp; done) | (simp; omega))]; first | assumption | go_simp
        have l6_2 : w.heap.size + 2 < w6.heap.size := by first | omega | (simp at *; omega)
        have g6_2_0 : w6.cell? ⟨w.heap.size + 2, 0, none⟩ = some (.int .i64 cn) := by rw [cc _ _ (by first | omega | (simp; done) | (simp; omega))]; first | assumption | go_simp
        have g6_2_1 : w6.cell? ⟨w.heap.size + 2, 1, none⟩ = some (.int .i64 cd) := by rw [cc _ _ (by first | omega | (simp; done) | (simp; omega))]; first | assumption | go_simp
        have l6_3 : w4.heap.size < w6.heap.size := by first | omega | (simp at *; omega)
        have g6_3_0 : w6.cell? ⟨w4.heap.size, 0, none⟩ = some (.int .i64 sn) := by rw [cc _ _ (by first | omega | (simp; done) | (simp; omega))]; first | assumption | go_simp
        have g6_3_1 : w6.cell? ⟨w4.heap.size, 1, none⟩ = some (.int .i64 sd) := by rw [cc _ _ (by first | omega | (simp; done) | (simp; omega))]; first | assumption | go_simp
        have l6_4 : w5.heap.size < w6.heap.size := by first | omega | (simp at *; omega)
        have g6_4_0 : w6.cell? ⟨w5.heap.size, 0, none⟩ = some (.int .i64 ln) := by rw [cc _ _ (by first | omega | (simp; done) | (simp; omega))]; first | assumption | go_simp
        have g6_4_1 : w6.cell? ⟨w5.heap.size, 1, none⟩ = some (.int .i64 ld) := by rw [cc _ _ (by first | omega | (simp; done) | (simp; omega))]; first | assumption | go_simp
        clear cc zz
        clear g5_0_0 g5_0_1 g5_1_0 g5_1_1 g5_2_0 g5_2_1 g5_3_0 g5_3_1
        go_wp2_with fail
        refine (mul_any an ad cn cd yn yd ye _ an1 an2 ad1 ad2 cn1 cn2 cd1 cd2 HY.out).mono ?_
        rintro e w7 ⟨rfl, hb7⟩
        have cc := (bcell hb7).1
        have zz := hb7.size
        try simp at zz
        have l7_0 : w.heap.size < w7.heap.size := by first | omega | (simp at *; omega)
        have g7_0_0 : w7.cell? ⟨w.heap.size, 0, none⟩ = some (.int .i64 an) := by rw [cc _ _ (by first | omega | (simp; done) | (simp; omega))]; first | assumption | go_simp
        have g7_0_1 : w7.cell? ⟨w.heap.size, 1, none⟩ = some (.int .i64 ad) := by rw [cc _ _ (by first | omega | (simp; done) | (simp; omega))]; first | assumption | go_simp
        have l7_1 : w.heap.size + 1 < w7.heap.size := by first | omega | (simp at *; omega)
        have g7_1_0 : w7.cell? ⟨w.heap.size + 1, 0, none⟩ = some (.int .i64 bn) := by rw [cc _ _ (by first | omega | (simp; done) | (simp; omega))]; first | assumption | go_simp
        have g7_1_1 : w7.cell? ⟨w.heap.size + 1, 1, none⟩ = some (.int .i64 bd) := by rw [cc _ _ (by first | omega | (simp; done) | (simp; omega))]; first | assumption | go_simp
        have l7_2 : w.heap.size + 2 < w7.heap.size := by first | omega | (simp at *; omega)
        have g7_2_0 : w7.cell? ⟨w.heap.size + 2, 0, none⟩ = some (.int .i64 cn) := by rw [cc _ _ (by first | omega | (simp; done) | (simp; omega))]; first | assumption | go_simp
        have g7_2_1 : w7.cell? ⟨w.heap.size + 2, 1, none⟩ = some (.int .i64 cd) := by rw [cc _ _ (by first | omega | (simp; done) | (simp; omega))]; first | assumption | go_simp
        have l7_3 : w4.heap.size < w7.heap.size := by first | omega | (simp at *; omega)
        have g7_3_0 : w7.cell? ⟨w4.heap.size, 0, none⟩ = some (.int .i64 sn) := by rw [cc _ _ (by first | omega | (simp; done) | (simp; omega))]; first | assumption | go_simp
        have g7_3_1 : w7.cell? ⟨w4.heap.size, 1, none⟩ = some (.int .i64 sd) := by rw [cc _ _ (by first | omega | (simp; done) | (simp; omega))]; first | assumption | go_simp
        have l7_4 : w5.heap.size < w7.heap.size := by first | omega | (simp at *; omega)
        have g7_4_0 : w7.cell? ⟨w5.heap.size, 0, none⟩ = some (.int .i64 ln) := by rw [cc _ _ (by first | omega | (simp; done) | (simp; omega))]; first | assumption | go_simp
        have g7_4_1 : w7.cell? ⟨w5.heap.size, 1, none⟩ = some (.int .i64 ld) := by rw [cc _ _ (by first | omega | (simp; done) | (simp; omega))]; first | assumption | go_simp
        have l7_5 : w6.heap.size < w7.heap.size := by first | omega | (simp at *; omega)
        have g7_5_0 : w7.cell? ⟨w6.heap.size, 0, none⟩ = some (.int .i64 xn) := by rw [cc _ _ (by first | omega | (simp; done) | (simp; omega))]; first | assumption | go_simp
        have g7_5_1 : w7.cell? ⟨w6.heap.size, 1, none⟩ = some (.int .i64 xd) := by rw [cc _ _ (by first | omega | (simp; done) | (simp; omega))]; first | assumption | go_simp
        clear cc zz
        clear g6_0_0 g6_0_1 g6_1_0 g6_1_1 g6_2_0 g6_2_1 g6_3_0 g6_3_1 g6_4_0 g6_4_1
        go_wp2_with fail
        refine (add_any xn xd yn yd rn rd re _ xn1 xn2 xd1 xd2 yn1 yn2 yd1 yd2 HR.out).mono ?_
        rintro e w8 ⟨rfl, hb8⟩
        have cc := (bcell hb8).1
        have zz := hb8.size
        try simp at zz
        have l8_0 : w.heap.size < w8.heap.size := by first | omega | (simp at *; omega)
        have g8_0_0 : w8.cell? ⟨w.heap.size, 0, none⟩ = some (.int .i64 an) := by rw [cc _ _ (by first | omega | (simp; done) | (simp; omega))]; first | assumption | go_simp
        have g8_0_1 : w8.cell? ⟨w.heap.size, 1, none⟩ = some (.int .i64 ad) := by rw [cc _ _ (by first | omega | (simp; done) | (simp; omega))]; first | assumption | go_simp
        have l8_1 : w.heap.size + 1 < w8.heap.size := by first | omega | (simp at *; omega)
        have g8_1_0 : w8.cell? ⟨w.heap.size + 1, 0, none⟩ = some (.int .i64 bn) := by rw [cc _ _ (by first | omega | (simp; done) | (simp; omega))]; first | assumption | go_simp
        have g8_1_1 : w8.cell? ⟨w.heap.size + 1, 1, none⟩ = some (.int .i64 bd) := by rw [cc _ _ (by first | omega | (simp; done) | (simp; omega))]; first | assumption | go_simp
        have l8_2 : w.heap.size + 2 < w8.heap.size := by first | omega | (simp at *; omega)
        have g8_2_0 : w8.cell? ⟨w.heap.size + 2, 0, none⟩ = some (.int .i64 cn) := by rw [cc _ _ (by first | omega | (simp; done) | (simp; omega))]; first | assumption | go_simp
        have g8_2_1 : w8.cell? ⟨w.heap.size + 2, 1, none⟩ = some (.int .i64 cd) := by rw [cc _ _ (by first | omega | (simp; done) | (simp; omega))]; first | assumption | go_simp
        have l8_3 : w4.heap.size < w8.heap.size := by first | omega | (simp at *; omega)
        have g8_3_0 : w8.cell? ⟨w4.heap.size, 0, none⟩ = some (.int .i64 sn) := by rw [cc _ _ (by first | omega | (simp; done) | (simp; omega))]; first | assumption | go_simp
        have g8_3_1 : w8.cell? ⟨w4.heap.size, 1, none⟩ = some (.int .i64 sd) := by rw [cc _ _ (by first | omega | (simp; done) | (simp; omega))]; first | assumption | go_simp
        have l8_4 : w5.heap.size < w8.heap.size := by first | omega | (simp at *; omega)
        have g8_4_0 : w8.cell? ⟨w5.heap.size, 0, none⟩ = some (.int .i64 ln) := by rw [cc _ _ (by first | omega | (simp; done) | (simp; omega))]; first | assumption | go_simp
        have g8_4_1 : w8.cell? ⟨w5.heap.size, 1, none⟩ = some (.int .i64 ld) := by rw [cc _ _ (by first | omega | (simp; done) | (simp; omega))]; first | assumption | go_simp
        have l8_5 : w6.heap.size < w8.heap.size := by first | omega | (simp at *; omega)
        have g8_5_0 : w8.cell? ⟨w6.heap.size, 0, none⟩ = some (.int .i64 xn) := by rw [cc _ _ (by first | omega | (simp; done) | (simp; omega))]; first | assumption | go_simp
        have g8_5_1 : w8.cell? ⟨w6.heap.size, 1, none⟩ = some (.int .i64 xd) := by rw [cc _ _ (by first | omega | (simp; done) | (simp; omega))]; first | assumption | go_simp
        have l8_6 : w7.heap.size < w8.heap.size := by first | omega | (simp at *; omega)
        have g8_6_0 : w8.cell? ⟨w7.heap.size, 0, none⟩ = some (.int .i64 yn) := by rw [cc _ _ (by first | omega | (simp; done) | (simp; omega))]; first | assumption | go_simp
        have g8_6_1 : w8.cell? ⟨w7.heap.size, 1, none⟩ = some (.int .i64 yd) := by rw [cc _ _ (by first | omega | (simp; done) | (simp; omega))]; first | assumption | go_simp
        clear cc zz
        clear g7_0_0 g7_0_1 g7_1_0 g7_1_1 g7_2_0 g7_2_1 g7_3_0 g7_3_1 g7_4_0 g7_4_1 g7_5_0 g7_5_1
        go_wp2_with fail
        refine (awake_any _).mono ?_
        rintro e w9 ⟨rfl, hb9⟩
        have cc := (bcell hb9).1
        have zz := hb9.size
        try simp at zz
        have l9_0 : w.heap.size < w9.heap.size := by first | omega | (simp at *; omega)
        have g9_0_0 : w9.cell? ⟨w.heap.size, 0, none⟩ = some (.int .i64 an) := by rw [cc _ _ (by first | omega | (simp; done) | (simp; omega))]; first | assumption | go_simp
        have g9_0_1 : w9.cell? ⟨w.heap.size, 1, none⟩ = some (.int .i64 ad) := by rw [cc _ _ (by first | omega | (simp; done) | (simp; omega))]; first | assumption | go_simp
        have l9_1 : w.heap.size + 1 < w9.heap.size := by first | omega | (simp at *; omega)
        have g9_1_0 : w9.cell? ⟨w.heap.size + 1, 0, none⟩ = some (.int .i64 bn) := by rw [cc _ _ (by first | omega | (simp; done) | (simp; omega))]; first | assumption | go_simp
        have g9_1_1 : w9.cell? ⟨w.heap.size + 1, 1, none⟩ = some (.int .i64 bd) := by rw [cc _ _ (by first | omega | (simp; done) | (simp; omega))]; first | assumption | go_simp
        have l9_2 : w.heap.size + 2 < w9.heap.size := by first | omega | (simp at *; omega)
        have g9_2_0 : w9.cell? ⟨w.heap.size + 2, 0, none⟩ = some (.int .i64 cn) := by rw [cc _ _ (by first | omega | (simp; done) | (simp; omega))]; first | assumption | go_simp
        have g9_2_1 : w9.cell? ⟨w.heap.size + 2, 1, none⟩ = some (.int .i64 cd) := by rw [cc _ _ (by first | omega | (simp; done) | (simp; omega))]; first | assumption | go_simp
        have l9_3 : w4.heap.size < w9.heap.size := by first | omega | (simp at *; omega)
        have g9_3_0 : w9.cell? ⟨w4.heap.size, 0, none⟩ = some (.int .i64 sn) := by rw [cc _ _ (by first | omega | (simp; done) | (simp; omega))]; first | assumption | go_simp
        have g9_3_1 : w9.cell? ⟨w4.heap.size, 1, none⟩ = some (.int .i64 sd) := by rw [cc _ _ (by first | omega | (simp; done) | (simp; omega))]; first | assumption | go_simp
        have l9_4 : w5.heap.size < w9.heap.size := by first | omega | (simp at *; omega)
        have g9_4_0 : w9.cell? ⟨w5.heap.size, 0, none⟩ = some (.int .i64 ln) := by rw [cc _ _ (by first | omega | (simp; done) | (simp; omega))]; first | assumption | go_simp
        have g9_4_1 : w9.cell? ⟨w5.heap.size, 1, none⟩ = some (.int .i64 ld) := by rw [cc _ _ (by first | omega | (simp; done) | (simp; omega))]; first | assumption | go_simp
        have l9_5 : w6.heap.size < w9.heap.size := by first | omega | (simp at *; omega)
        have g9_5_0 : w9.cell? ⟨w6.heap.size, 0, none⟩ = some (.int .i64 xn) := by rw [cc _ _ (by first | omega | (simp; done) | (simp; omega))]; first | assumption | go_simp
        have g9_5_1 : w9.cell? ⟨w6.heap.size, 1, none⟩ = some (.int .i64 xd) := by rw [cc _ _ (by first | omega | (simp; done) | (simp; omega))]; first | assumption | go_simp
        have l9_6 : w7.heap.size < w9.heap.size := by first | omega | (simp at *; omega)
        have g9_6_0 : w9.cell? ⟨w7.heap.size, 0, none⟩ = some (.int .i64 yn) := by rw [cc _ _ (by first | omega | (simp; done) | (simp; omega))]; first | assumption | go_simp
        have g9_6_1 : w9.cell? ⟨w7.heap.size, 1, none⟩ = some (.int .i64 yd) := by rw [cc _ _ (by first | omega | (simp; done) | (simp; omega))]; first | assumption | go_simp
        have l9_7 : w8.heap.size < w9.heap.size := by first | omega | (simp at *; omega)
        have g9_7_0 : w9.cell? ⟨w8.heap.size, 0, none⟩ = some (.int .i64 rn) := by rw [cc _ _ (by first | omega | (simp; done) | (simp; omega))]; first | assumption | go_simp
        have g9_7_1 : w9.cell? ⟨w8.heap.size, 1, none⟩ = some (.int .i64 rd) := by rw [cc _ _ (by first | omega | (simp; done) | (simp; omega))]; first | assumption | go_simp
        clear cc zz
        clear g8_0_0 g8_0_1 g8_1_0 g8_1_1 g8_2_0 g8_2_1 g8_3_0 g8_3_1 g8_4_0 g8_4_1 g8_5_0 g8_5_1 g8_6_0 g8_6_1
        go_wp2
        go_ret
        exact ⟨rfl, (by repeat' (first | exact Below.refl _ _ | assumption | (with_reducible refine bdrewN ?_ _) | (with_reducible refine bdrew ?_) | (with_reducible refine bset ?_ ?_) | (with_reducible refine balloc0 ?_) | (with_reducible refine balloc ?_ ?_) | (apply btrans0; rotate_left; assumption) | (apply btrans; rotate_left; assumption) | (simp; done) | omega | (simp; omega)))⟩


set_option maxRecDepth 100000 in
set_option maxHeartbeats 1600000 in
theorem walk (an ad bn bd cn cd : Int) (w : World) (an1 : -9223372036854775808 ≤ an) (an2 : an ≤ 9223372036854775807) (ad1 : -9223372036854775808 ≤ ad) (ad2 : ad ≤ 9223372036854775807) (bn1 : -9223372036854775808 ≤ bn) (bn2 : bn ≤ 9223372036854775807) (bd1 : -9223372036854775808 ≤ bd) (bd2 : bd ≤ 9223372036854775807) (cn1 : -9223372036854775808 ≤ cn) (cn2 : cn ≤ 9223372036854775807) (cd1 : -9223372036854775808 ≤ cd) (cd2 : cd ≤ 9223372036854775807) :
    Calls Try.prog 7 #[.agg #[.int .i64 an, .int .i64 ad], .agg #[.int .i64 bn, .int .i64 bd], .agg #[.int .i64 cn, .int .i64 cd]] w fun e w' => e = .returned (.bool true) ∧ Below w.heap.size w w' := by
  by_cases z1 : chk (an, ad) = 0
  · by_cases z2 : chk (bn, bd) = 0
    · by_cases z3 : chk (cn, cd) = 0
      · exact good an ad bn bd cn cd w an1 an2 ad1 ad2 bn1 bn2 bd1 bd2 cn1 cn2 cd1 cd2 z1 z2 z3
      · exact bad_c an ad bn bd cn cd w an1 an2 ad1 ad2 bn1 bn2 bd1 bd2 cn1 cn2 cd1 cd2 z1 z2 _ rfl (by simpa using z3)
    · exact bad_b an ad bn bd cn cd w an1 an2 ad1 ad2 bn1 bn2 bd1 bd2 cn1 cn2 cd1 cd2 z1 _ rfl (by simpa using z2)
  · exact bad_a an ad bn bd cn cd w an1 an2 ad1 ad2 bn1 bn2 bd1 bd2 cn1 cn2 cd1 cd2 _ rfl (by simpa using z1)

theorem i64bd (n : Int) (h : (Lit.int .i64 n).wf = true) : -9223372036854775808 ≤ n ∧ n ≤ 9223372036854775807 := by
  simpa [Lit.wf, IntKind.min, IntKind.max, IntKind.signed, IntKind.bits] using h

set_option maxRecDepth 100000 in
theorem lifted (os : Os) (started : os.Started) (H : Type) (enc : TypeId × Value → H) :
    ReturnsInHanded {} Try.checked os 7 .any (Rows.rationalFieldSpec.pre6 enc Try.prog Try.f7 Rows.rationalFieldRow.domain false) (Rows.rationalFieldSpec.post enc Try.prog Try.f7 false true false false) := by
  refine returnsInHanded_of_change (C := Try.checked) own started (by kernel_rfl) Try.func7
    (ChangeSpec.witness6 (enc := enc) (C := Try.checked) false ⟨#[], #[.agg #[.int .i64 0, .int .i64 0], .agg #[.int .i64 0, .int .i64 0], .agg #[.int .i64 0, .int .i64 0]], []⟩ 8 (by kernel_rfl) (by kernel_rfl) (by kernel_rfl) (by kernel_rfl)) ?_
  intro W base args ds gs before hval0 hW hcnd _
  have hval : ∀ (j : Nat) t v, Try.f7.params[j]? = some t → args[j]? = some v → Value.okWide Try.prog W .any base t v := hval0
  have hW' := hW
  obtain ⟨p, q, hA0, hV, rfl, hfz, hnd⟩ := hW
  have hA : DataW.TrodAll enc Try.prog W 0 (fun _ => true) true Try.f7.params.toList args.toList ds p := hA0
  rw [Try.params7] at hA hval
  obtain ⟨v0, vs0, d0, ds0, p0, q0, hargs, rfl, rfl, h0, r0⟩ := trodAll_cons hA
  obtain ⟨v1, vs1, d1, ds1, p1, q1, rfl, rfl, rfl, h1, r1⟩ := trodAll_cons r0
  obtain ⟨v2, vs2, d2, ds2, p2, q2, rfl, rfl, rfl, h2, r2⟩ := trodAll_cons r1
  obtain ⟨rfl, rfl, rfl⟩ := trodAll_nil r2
  obtain rfl : args = #[v0, v1, v2] := by cases args; simp_all
  obtain ⟨c0, c1, y0, y1, m, rfl, _, _, hy0, hy1⟩ := open_agg2 Try.underlying23 (by kernel_rfl) (by kernel_rfl) (hval 0 23 v0 rfl rfl) h0
  obtain ⟨an, e0, _, wan⟩ := DataW.trod_int Try.underlying3 hy0
  obtain ⟨ad, e1, _, wad⟩ := DataW.trod_int Try.underlying3 hy1
  simp at e0 e1
  subst e0 e1
  obtain ⟨c0, c1, y0, y1, m, rfl, _, _, hy0, hy1⟩ := open_agg2 Try.underlying23 (by kernel_rfl) (by kernel_rfl) (hval 1 23 v1 rfl rfl) h1
  obtain ⟨bn, e0, _, wbn⟩ := DataW.trod_int Try.underlying3 hy0
  obtain ⟨bd, e1, _, wbd⟩ := DataW.trod_int Try.underlying3 hy1
  simp at e0 e1
  subst e0 e1
  obtain ⟨c0, c1, y0, y1, m, rfl, _, _, hy0, hy1⟩ := open_agg2 Try.underlying23 (by kernel_rfl) (by kernel_rfl) (hval 2 23 v2 rfl rfl) h2
  obtain ⟨cn, e0, _, wcn⟩ := DataW.trod_int Try.underlying3 hy0
  obtain ⟨cd, e1, _, wcd⟩ := DataW.trod_int Try.underlying3 hy1
  simp at e0 e1
  subst e0 e1
  refine (walk an ad bn bd cn cd W (i64bd an wan).1 (i64bd an wan).2 (i64bd ad wad).1 (i64bd ad wad).2 (i64bd bn wbn).1 (i64bd bn wbn).2 (i64bd bd wbd).1 (i64bd bd wbd).2 (i64bd cn wcn).1 (i64bd cn wcn).2 (i64bd cd wcd).1 (i64bd cd wcd).2).mono fun e W' ⟨he, hB⟩ => ?_
  subst he
  refine ⟨_, rfl, law_post (by kernel_rfl) (by kernel_rfl) rfl Try.underlying4 rfl ?_ hW' hB⟩
  intro es hes
  match es, hes with
  | [_, _, _], _ => rfl

theorem proved : Rows.RationalFieldSaid :=
  OpenClaim.holds_of_wide 7 Try.f7 rfl rfl rfl rfl rfl rfl rfl ⟨rfl, rfl, rfl, rfl, rfl⟩ rfl rfl rfl rfl rfl (by kernel_rfl) Try.func7 (by kernel_rfl)
    (of_decide_eq_true (by kernel_rfl)) (by unfold Func.isWrapper; first | (rw [if_pos (by decide +kernel)]; kernel_rfl) | (rw [if_neg (by decide +kernel)]; exact ⟨rfl, rfl⟩))
    (fun os started H enc _ => lifted os started H enc)
#print axioms proved
end Go.Proofs.Ytfkdhcfedjbkfaa.rationalField
