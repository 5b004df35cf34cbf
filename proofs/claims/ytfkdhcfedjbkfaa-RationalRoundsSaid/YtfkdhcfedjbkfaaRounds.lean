/-
  Proved: mailboatlaw04.RationalRounds returns true for every input (Floor and Ceil), and leaves its arguments as they were. No condition.
-/
import Derived.Test.YtfkdhcfedjbkfaaRows
import Derived.Test.YtfkdhcfedjbkfaaL
import Derived.Test.YtfkdhcfedjbkfaaM
namespace Go.Proofs.Ytfkdhcfedjbkfaa.rationalRounds
open Go.ChangeShapes Go.WideShapes Go.ChangeAt Go.RowKit Go.Joins Go.Proofs.Ytfkdhcfedjbkfaa

theorem own : ownKnob Try.prog.godebug = none := by kernel_rfl

set_option maxHeartbeats 1600000 in
theorem walk (an ad : Int) (w : World) (an1 : -9223372036854775808 ≤ an) (an2 : an ≤ 9223372036854775807) (ad1 : -9223372036854775808 ≤ ad) (ad2 : ad ≤ 9223372036854775807) :
    Calls Try.prog 4 #[.agg #[.int .i64 an, .int .i64 ad]] w fun e w' => e = .returned (.bool true) ∧ Below w.heap.size w w' := by
  by_cases k : chk (an, ad) = 0
  · obtain ⟨x1, x2, x3, x4⟩ := chk_bd k
    have k1 := floor_law k
    have k2 := ceil_floor k
    have k3 := ceil_neg an ad
    have k4 := floor_bd (n := an) (d := ad)
    have k5 := floor_bd (n := -an) (d := ad)
    obtain ⟨f, hf⟩ : ∃ x, floorS (an, ad) = x := ⟨_, rfl⟩
    obtain ⟨c, hc⟩ : ∃ x, ceilS (an, ad) = x := ⟨_, rfl⟩
    obtain ⟨g, hg⟩ : ∃ x, floorS (-an, ad) = x := ⟨_, rfl⟩
    rw [hf] at k1 k2 k4
    rw [hc] at k2 k3
    rw [hg] at k3 k5
    obtain ⟨k11, k12⟩ := k1
    obtain ⟨k41, k42⟩ := k4
    obtain ⟨k51, k52⟩ := k5
    have m1 := mul_bd f ad k41 k42 x3 x4
    have m2 : (f + 1) * ad = f * ad + ad := by rw [Int.add_mul, Int.one_mul]
    obtain ⟨m11, m12⟩ := m1
    rw [m2] at k12
    obtain ⟨z, hz⟩ : ∃ z, f * ad = z := ⟨_, rfl⟩
    rw [hz] at k11 k12 m2 m11 m12
    have t1 : (c == -g) = true := by simpa using k3
    have t2 : ((c == f) == (ad == 1)) = true := by rw [beq_iff_eq, Bool.eq_iff_iff]; simpa using k2
    have HK := Lib.hid k
    have HF := Lib.hid hf
    have HC := Lib.hid hc
    have HG := Lib.hid hg
    clear k k2 k3 hf hc hg
    go_enter Try.func4, Try.ntmps4
    go_wp2_with fail
    refine (check_any an ad 0 _ an1 an2 ad1 ad2 HK.out).mono ?_
    rintro e w1 ⟨rfl, hb1⟩
    have cc := (bcell hb1).1
    have zz := hb1.size
    try simp at zz
    have l1_0 : w.heap.size < w1.heap.size := by first | omega | (simp at *; omega)
    have g1_0_0 : w1.cell? ⟨w.heap.size, 0, none⟩ = some (.int .i64 an) := by rw [cc _ _ (by first | omega | (simp; done) | (simp; omega))]; first | assumption | go_simp
    have g1_0_1 : w1.cell? ⟨w.heap.size, 1, none⟩ = some (.int .i64 ad) := by rw [cc _ _ (by first | omega | (simp; done) | (simp; omega))]; first | assumption | go_simp
    clear cc zz
    go_wp2_with fail
    refine wp_region_plan (fun x => x.cell? ⟨w.heap.size, 0, none⟩ = some (.int .i64 an) ∧ x.cell? ⟨w.heap.size, 1, none⟩ = some (.int .i64 ad)) [1, 2, 1, 3, 0, 0] [0, 2, 1, 3, 4, 5] (by kernel_rfl) (by kernel_rfl) ?_ ?_
    · go_simp
    (iterate 2 (refine plan_held rfl (by decide) (by rfl) (fun w1 hS => by (try (have hS := hS rfl; obtain hS := hS; repeat (obtain ⟨_, hS⟩ := hS))); go_simp; rfl) ?_; simp only [Act.put, List.setIfInBounds_toArray, List.set_cons_zero, List.set_cons_succ]))
    (refine plan_keep rfl rfl (by rfl) (fun K hK => ?_); go_simp)
    refine (floor_any an ad f _ an1 an2 ad1 ad2 HF.out).mono ?_
    rintro e w2 ⟨rfl, hb2⟩
    have cc := (bcell hb2).1
    have zz := hb2.size
    try simp at zz
    have l2_0 : w.heap.size < w2.heap.size := by first | omega | (simp at *; omega)
    have g2_0_0 : w2.cell? ⟨w.heap.size, 0, none⟩ = some (.int .i64 an) := by rw [cc _ _ (by first | omega | (simp; done) | (simp; omega))]; first | assumption | go_simp
    have g2_0_1 : w2.cell? ⟨w.heap.size, 1, none⟩ = some (.int .i64 ad) := by rw [cc _ _ (by first | omega | (simp; done) | (simp; omega))]; first | assumption | go_simp
    clear cc zz
    clear g1_0_0 g1_0_1
    (refine hK _ _ (by go_simp) ?_; clear hK K; (try simp only [Act.put, List.setIfInBounds_toArray, List.set_cons_zero, List.set_cons_succ]))
    (refine plan_late rfl rfl (by rfl) (fun K hK => ?_); go_simp)
    refine (ceil_any an ad c _ an1 an2 ad1 ad2 HC.out).mono ?_
    rintro e w3 ⟨rfl, hb3⟩
    have cc := (bcell hb3).1
    have zz := hb3.size
    try simp at zz
    have l3_0 : w.heap.size < w3.heap.size := by first | omega | (simp at *; omega)
    have g3_0_0 : w3.cell? ⟨w.heap.size, 0, none⟩ = some (.int .i64 an) := by rw [cc _ _ (by first | omega | (simp; done) | (simp; omega))]; first | assumption | go_simp
    have g3_0_1 : w3.cell? ⟨w.heap.size, 1, none⟩ = some (.int .i64 ad) := by rw [cc _ _ (by first | omega | (simp; done) | (simp; omega))]; first | assumption | go_simp
    clear cc zz
    clear g2_0_0 g2_0_1
    (refine hK _ _ ?_; clear hK K; (try simp only [Act.put, List.setIfInBounds_toArray, List.set_cons_zero, List.set_cons_succ]))
    (iterate 2 (refine plan_held rfl (by decide) (by rfl) (fun w1 hS => by (try (have hS := hS rfl; obtain hS := hS; repeat (obtain ⟨_, hS⟩ := hS))); go_simp; rfl) ?_; simp only [Act.put, List.setIfInBounds_toArray, List.set_cons_zero, List.set_cons_succ]))
    refine plan_done ?_
    go_wp2_with fail
    refine (floor_any (-an) ad g _ (by omega) (by omega) ad1 ad2 HG.out).mono ?_
    rintro e w9 ⟨rfl, hb9⟩
    have cc := (bcell hb9).1
    have zz := hb9.size
    try simp at zz
    have l9_0 : w.heap.size < w9.heap.size := by first | omega | (simp at *; omega)
    have g9_0_0 : w9.cell? ⟨w.heap.size, 0, none⟩ = some (.int .i64 an) := by rw [cc _ _ (by first | omega | (simp; done) | (simp; omega))]; first | assumption | go_simp
    have g9_0_1 : w9.cell? ⟨w.heap.size, 1, none⟩ = some (.int .i64 ad) := by rw [cc _ _ (by first | omega | (simp; done) | (simp; omega))]; first | assumption | go_simp
    have l9_1 : w3.heap.size < w9.heap.size := by first | omega | (simp at *; omega)
    have g9_1_0 : w9.cell? ⟨w3.heap.size, 0, none⟩ = some (.int .i64 (-an)) := by rw [cc _ _ (by first | omega | (simp; done) | (simp; omega))]; first | assumption | go_simp
    have g9_1_1 : w9.cell? ⟨w3.heap.size, 1, none⟩ = some (.int .i64 ad) := by rw [cc _ _ (by first | omega | (simp; done) | (simp; omega))]; first | assumption | go_simp
    clear cc zz
    clear g3_0_0 g3_0_1
    go_wp2_with fail
    refine (awake_any _).mono ?_
    rintro e w10 ⟨rfl, hb10⟩
    have cc := (bcell hb10).1
    have zz := hb10.size
    try simp at zz
    have l10_0 : w.heap.size < w10.heap.size := by first | omega | (simp at *; omega)
    have g10_0_0 : w10.cell? ⟨w.heap.size, 0, none⟩ = some (.int .i64 an) := by rw [cc _ _ (by first | omega | (simp; done) | (simp; omega))]; first | assumption | go_simp
    have g10_0_1 : w10.cell? ⟨w.heap.size, 1, none⟩ = some (.int .i64 ad) := by rw [cc _ _ (by first | omega | (simp; done) | (simp; omega))]; first | assumption | go_simp
    have l10_1 : w3.heap.size < w10.heap.size := by first | omega | (simp at *; omega)
    have g10_1_0 : w10.cell? ⟨w3.heap.size, 0, none⟩ = some (.int .i64 (-an)) := by rw [cc _ _ (by first | omega | (simp; done) | (simp; omega))]; first | assumption | go_simp
    have g10_1_1 : w10.cell? ⟨w3.heap.size, 1, none⟩ = some (.int .i64 ad) := by rw [cc _ _ (by first | omega | (simp; done) | (simp; omega))]; first | assumption | go_simp
    clear cc zz
    clear g9_0_0 g9_0_1 g9_1_0 g9_1_1
    go_wp2
    go_ret
    exact ⟨rfl, (by repeat' (first | exact Below.refl _ _ | assumption | (with_reducible refine bdrewN ?_ _) | (with_reducible refine bdrew ?_) | (with_reducible refine bset ?_ ?_) | (with_reducible refine balloc0 ?_) | (with_reducible refine balloc ?_ ?_) | (apply btrans0; rotate_left; assumption) | (apply btrans; rotate_left; assumption) | (simp; done) | omega | (simp; omega)))⟩
  · have hf : floorS (an, ad) = 0 := by unfold floorS; rw [if_neg k]
    have hc : ceilS (an, ad) = 0 := by unfold ceilS; rw [if_neg k]
    obtain ⟨l, hl⟩ : ∃ l, chk (an, ad) = l := ⟨_, rfl⟩
    rw [hl] at k
    have z1 : (l != 0) = true := by simpa using k
    have HL := Lib.hid hl
    have HF := Lib.hid hf
    have HC := Lib.hid hc
    clear hl hf hc k
    go_enter Try.func4, Try.ntmps4
    go_wp2_with fail
    refine (check_any an ad l _ an1 an2 ad1 ad2 HL.out).mono ?_
    rintro e w1 ⟨rfl, hb1⟩
    have cc := (bcell hb1).1
    have zz := hb1.size
    try simp at zz
    have l1_0 : w.heap.size < w1.heap.size := by first | omega | (simp at *; omega)
    have g1_0_0 : w1.cell? ⟨w.heap.size, 0, none⟩ = some (.int .i64 an) := by rw [cc _ _ (by first | omega | (simp; done) | (simp; omega))]; first | assumption | go_simp
    have g1_0_1 : w1.cell? ⟨w.heap.size, 1, none⟩ = some (.int .i64 ad) := by rw [cc _ _ (by first | omega | (simp; done) | (simp; omega))]; first | assumption | go_simp
    clear cc zz
    go_wp2_with fail
    refine (floor_any an ad 0 _ an1 an2 ad1 ad2 HF.out).mono ?_
    rintro e w2 ⟨rfl, hb2⟩
    have cc := (bcell hb2).1
    have zz := hb2.size
    try simp at zz
    have l2_0 : w.heap.size < w2.heap.size := by first | omega | (simp at *; omega)
    have g2_0_0 : w2.cell? ⟨w.heap.size, 0, none⟩ = some (.int .i64 an) := by rw [cc _ _ (by first | omega | (simp; done) | (simp; omega))]; first | assumption | go_simp
    have g2_0_1 : w2.cell? ⟨w.heap.size, 1, none⟩ = some (.int .i64 ad) := by rw [cc _ _ (by first | omega | (simp; done) | (simp; omega))]; first | assumption | go_simp
    clear cc zz
    clear g1_0_0 g1_0_1
    go_wp2_with fail
    refine (ceil_any an ad 0 _ an1 an2 ad1 ad2 HC.out).mono ?_
    rintro e w3 ⟨rfl, hb3⟩
    have cc := (bcell hb3).1
    have zz := hb3.size
    try simp at zz
    have l3_0 : w.heap.size < w3.heap.size := by first | omega | (simp at *; omega)
    have g3_0_0 : w3.cell? ⟨w.heap.size, 0, none⟩ = some (.int .i64 an) := by rw [cc _ _ (by first | omega | (simp; done) | (simp; omega))]; first | assumption | go_simp
    have g3_0_1 : w3.cell? ⟨w.heap.size, 1, none⟩ = some (.int .i64 ad) := by rw [cc _ _ (by first | omega | (simp; done) | (simp; omega))]; first | assumption | go_simp
    clear cc zz
    clear g2_0_0 g2_0_1
    go_wp2_with fail
    refine (awake_any _).mono ?_
    rintro e w4 ⟨rfl, hb4⟩
    have cc := (bcell hb4).1
    have zz := hb4.size
    try simp at zz
    have l4_0 : w.heap.size < w4.heap.size := by first | omega | (simp at *; omega)
    have g4_0_0 : w4.cell? ⟨w.heap.size, 0, none⟩ = some (.int .i64 an) := by rw [cc _ _ (by first | omega | (simp; done) | (simp; omega))]; first | assumption | go_simp
    have g4_0_1 : w4.cell? ⟨w.heap.size, 1, none⟩ = some (.int .i64 ad) := by rw [cc _ _ (by first | omega | (simp; done) | (simp; omega))]; first | assumption | go_simp
    clear cc zz
    clear g3_0_0 g3_0_1
    go_wp2
    go_ret
    exact ⟨rfl, (by repeat' (first | exact Below.refl _ _ | assumption | (with_reducible refine bdrewN ?_ _) | (with_reducible refine bdrew ?_) | (with_reducible refine bset ?_ ?_) | (with_reducible refine balloc0 ?_) | (with_reducible refine balloc ?_ ?_) | (apply btrans0; rotate_left; assumption) | (apply btrans; rotate_left; assumption) | (simp; done) | omega | (simp; omega)))⟩

theorem i64bd (n : Int) (h : (Lit.int .i64 n).wf = true) : -9223372036854775808 ≤ n ∧ n ≤ 9223372036854775807 := by
  simpa [Lit.wf, IntKind.min, IntKind.max, IntKind.signed, IntKind.bits] using h

set_option maxRecDepth 100000 in
theorem lifted (os : Os) (started : os.Started) (H : Type) (enc : TypeId × Value → H) :
    ReturnsInHanded {} Try.checked os 4 .any (Rows.rationalRoundsSpec.pre6 enc Try.prog Try.f4 Rows.rationalRoundsRow.domain false) (Rows.rationalRoundsSpec.post enc Try.prog Try.f4 false true false false) := by
  refine returnsInHanded_of_change (C := Try.checked) own started (by kernel_rfl) Try.func4
    (ChangeSpec.witness6 (enc := enc) (C := Try.checked) false ⟨#[], #[.agg #[.int .i64 0, .int .i64 0]], []⟩ 8 (by kernel_rfl) (by kernel_rfl) (by kernel_rfl) (by kernel_rfl)) ?_
  intro W base args ds gs before hval0 hW hcnd _
  have hval : ∀ (j : Nat) t v, Try.f4.params[j]? = some t → args[j]? = some v → Value.okWide Try.prog W .any base t v := hval0
  have hW' := hW
  obtain ⟨p, q, hA0, hV, rfl, hfz, hnd⟩ := hW
  have hA : DataW.TrodAll enc Try.prog W 0 (fun _ => true) true Try.f4.params.toList args.toList ds p := hA0
  rw [Try.params4] at hA hval
  obtain ⟨v0, vs0, d0, ds0, p0, q0, hargs, rfl, rfl, h0, r0⟩ := trodAll_cons hA
  obtain ⟨rfl, rfl, rfl⟩ := trodAll_nil r0
  obtain rfl : args = #[v0] := by cases args; simp_all
  obtain ⟨c0, c1, y0, y1, m, rfl, _, _, hy0, hy1⟩ := open_agg2 Try.underlying23 (by kernel_rfl) (by kernel_rfl) (hval 0 23 v0 rfl rfl) h0
  obtain ⟨an, e0, _, wan⟩ := DataW.trod_int Try.underlying3 hy0
  obtain ⟨ad, e1, _, wad⟩ := DataW.trod_int Try.underlying3 hy1
  simp at e0 e1
  subst e0 e1
  refine (walk an ad W (i64bd an wan).1 (i64bd an wan).2 (i64bd ad wad).1 (i64bd ad wad).2).mono fun e W' ⟨he, hB⟩ => ?_
  subst he
  refine ⟨_, rfl, law_post (by kernel_rfl) (by kernel_rfl) rfl Try.underlying4 rfl ?_ hW' hB⟩
  intro es hes
  match es, hes with
  | [_], _ => rfl

theorem proved : Rows.RationalRoundsSaid :=
  OpenClaim.holds_of_wide 4 Try.f4 rfl rfl rfl rfl rfl rfl rfl ⟨rfl, rfl, rfl, rfl, rfl⟩ rfl rfl rfl rfl rfl (by kernel_rfl) Try.func4 (by kernel_rfl)
    (of_decide_eq_true (by kernel_rfl)) (by unfold Func.isWrapper; first | (rw [if_pos (by decide +kernel)]; kernel_rfl) | (rw [if_neg (by decide +kernel)]; exact ⟨rfl, rfl⟩))
    (fun os started H enc _ => lifted os started H enc)
#print axioms proved
end Go.Proofs.Ytfkdhcfedjbkfaa.rationalRounds
