/-
  Proved: mailboatlaw04.RationalOrder returns true for every input (Compare, Floor and Ceil return what the reference returns), and leaves its arguments as they were. No condition.
-/
import Derived.Test.YtfkdhcfedjbkfaaRows
import Derived.Test.YtfkdhcfedjbkfaaL
import Derived.Test.YtfkdhcfedjbkfaaM
namespace Go.Proofs.Ytfkdhcfedjbkfaa.rationalOrder
open Go.ChangeShapes Go.WideShapes Go.ChangeAt Go.RowKit Go.Joins Go.Proofs.Ytfkdhcfedjbkfaa

theorem own : ownKnob Try.prog.godebug = none := by kernel_rfl

set_option maxHeartbeats 1600000 in
theorem walk (an ad bn bd : Int) (w : World) (an1 : -9223372036854775808 ≤ an) (an2 : an ≤ 9223372036854775807) (ad1 : -9223372036854775808 ≤ ad) (ad2 : ad ≤ 9223372036854775807) (bn1 : -9223372036854775808 ≤ bn) (bn2 : bn ≤ 9223372036854775807) (bd1 : -9223372036854775808 ≤ bd) (bd2 : bd ≤ 9223372036854775807) :
    Calls Try.prog 5 #[.agg #[.int .i64 an, .int .i64 ad], .agg #[.int .i64 bn, .int .i64 bd]] w fun e w' => e = .returned (.bool true) ∧ Below w.heap.size w w' := by
  obtain ⟨k, hk⟩ : ∃ x, cmpS (an, ad) (bn, bd) = x := ⟨_, rfl⟩
  obtain ⟨f, hf⟩ : ∃ x, floorS (an, ad) = x := ⟨_, rfl⟩
  obtain ⟨c, hc⟩ : ∃ x, ceilS (an, ad) = x := ⟨_, rfl⟩
  have Hk := Lib.hid hk
  have Hf := Lib.hid hf
  have Hc := Lib.hid hc
  clear hk hf hc
  go_enter Try.func5, Try.ntmps5
  go_wp2_with fail
  refine wp_region_plan (fun x => x.cell? ⟨w.heap.size, 0, none⟩ = some (.int .i64 an) ∧ x.cell? ⟨w.heap.size, 1, none⟩ = some (.int .i64 ad) ∧ x.cell? ⟨w.heap.size + 1, 0, none⟩ = some (.int .i64 bn) ∧ x.cell? ⟨w.heap.size + 1, 1, none⟩ = some (.int .i64 bd)) [1, 1, 2, 1, 1, 2, 0, 0, 1, 2, 1, 2, 0, 0, 0, 1, 2, 1, 3, 0, 0, 0, 3, 0, 0] [0, 1, 3, 4, 2, 5, 6, 7, 8, 10, 9, 11, 12, 13, 14, 15, 17, 16, 18, 19, 20, 21, 22, 23, 24] (by kernel_rfl) (by kernel_rfl) ?_ ?_
  · go_simp
  (iterate 4 (refine plan_held rfl (by decide) (by rfl) (fun w1 hS => by (try (have hS := hS rfl; obtain hS := hS; repeat (obtain ⟨_, hS⟩ := hS))); go_simp; rfl) ?_; simp only [Act.put, List.setIfInBounds_toArray, List.set_cons_zero, List.set_cons_succ]))
  (refine plan_keep rfl rfl (by rfl) (fun K hK => ?_); go_simp)
  refine (cmp_any an ad bn bd k _ an1 an2 ad1 ad2 bn1 bn2 bd1 bd2 Hk.out).mono ?_
  rintro e w1 ⟨rfl, hb1⟩
  have cc := (bcell hb1).1
  have zz := hb1.size
  try simp at zz
  have l1_0 : w.heap.size < w1.heap.size := by first | omega | (simp at *; omega)
  have g1_0_0 : w1.cell? ⟨w.heap.size, 0, none⟩ = some (.int .i64 an) := by rw [cc _ _ (by first | omega | (simp; done) | (simp; omega))]; first | assumption | go_simp
  have g1_0_1 : w1.cell? ⟨w.heap.size, 1, none⟩ = some (.int .i64 ad) := by rw [cc _ _ (by first | omega | (simp; done) | (simp; omega))]; first | assumption | go_simp
  have l1_1 : w.heap.size + 1 < w1.heap.size := by first | omega | (simp at *; omega)
  have g1_1_0 : w1.cell? ⟨w.heap.size + 1, 0, none⟩ = some (.int .i64 bn) := by rw [cc _ _ (by first | omega | (simp; done) | (simp; omega))]; first | assumption | go_simp
  have g1_1_1 : w1.cell? ⟨w.heap.size + 1, 1, none⟩ = some (.int .i64 bd) := by rw [cc _ _ (by first | omega | (simp; done) | (simp; omega))]; first | assumption | go_simp
  clear cc zz
  (refine hK _ _ (by go_simp) ?_; clear hK K; (try simp only [Act.put, List.setIfInBounds_toArray, List.set_cons_zero, List.set_cons_succ]))
  (refine plan_keep rfl rfl (by rfl) (fun K hK => ?_); go_simp)
  refine (rcmp_any an ad bn bd k _ an1 an2 ad1 ad2 bn1 bn2 bd1 bd2 Hk.out).mono ?_
  rintro e w2 ⟨rfl, hb2⟩
  have cc := (bcell hb2).1
  have zz := hb2.size
  try simp at zz
  have l2_0 : w.heap.size < w2.heap.size := by first | omega | (simp at *; omega)
  have g2_0_0 : w2.cell? ⟨w.heap.size, 0, none⟩ = some (.int .i64 an) := by rw [cc _ _ (by first | omega | (simp; done) | (simp; omega))]; first | assumption | go_simp
  have g2_0_1 : w2.cell? ⟨w.heap.size, 1, none⟩ = some (.int .i64 ad) := by rw [cc _ _ (by first | omega | (simp; done) | (simp; omega))]; first | assumption | go_simp
  have l2_1 : w.heap.size + 1 < w2.heap.size := by first | omega | (simp at *; omega)
  have g2_1_0 : w2.cell? ⟨w.heap.size + 1, 0, none⟩ = some (.int .i64 bn) := by rw [cc _ _ (by first | omega | (simp; done) | (simp; omega))]; first | assumption | go_simp
  have g2_1_1 : w2.cell? ⟨w.heap.size + 1, 1, none⟩ = some (.int .i64 bd) := by rw [cc _ _ (by first | omega | (simp; done) | (simp; omega))]; first | assumption | go_simp
  clear cc zz
  clear g1_0_0 g1_0_1 g1_1_0 g1_1_1
  (refine hK _ _ (by go_simp) ?_; clear hK K; (try simp only [Act.put, List.setIfInBounds_toArray, List.set_cons_zero, List.set_cons_succ]))
  (iterate 4 (refine plan_held rfl (by decide) (by rfl) (fun w1 hS => by (try (have hS := hS rfl; obtain hS := hS; repeat (obtain ⟨_, hS⟩ := hS))); go_simp; rfl) ?_; simp only [Act.put, List.setIfInBounds_toArray, List.set_cons_zero, List.set_cons_succ]))
  (refine plan_keep rfl rfl (by rfl) (fun K hK => ?_); go_simp)
  refine (floor_any an ad f _ an1 an2 ad1 ad2 Hf.out).mono ?_
  rintro e w3 ⟨rfl, hb3⟩
  have cc := (bcell hb3).1
  have zz := hb3.size
  try simp at zz
  have l3_0 : w.heap.size < w3.heap.size := by first | omega | (simp at *; omega)
  have g3_0_0 : w3.cell? ⟨w.heap.size, 0, none⟩ = some (.int .i64 an) := by rw [cc _ _ (by first | omega | (simp; done) | (simp; omega))]; first | assumption | go_simp
  have g3_0_1 : w3.cell? ⟨w.heap.size, 1, none⟩ = some (.int .i64 ad) := by rw [cc _ _ (by first | omega | (simp; done) | (simp; omega))]; first | assumption | go_simp
  have l3_1 : w.heap.size + 1 < w3.heap.size := by first | omega | (simp at *; omega)
  have g3_1_0 : w3.cell? ⟨w.heap.size + 1, 0, none⟩ = some (.int .i64 bn) := by rw [cc _ _ (by first | omega | (simp; done) | (simp; omega))]; first | assumption | go_simp
  have g3_1_1 : w3.cell? ⟨w.heap.size + 1, 1, none⟩ = some (.int .i64 bd) := by rw [cc _ _ (by first | omega | (simp; done) | (simp; omega))]; first | assumption | go_simp
  clear cc zz
  clear g2_0_0 g2_0_1 g2_1_0 g2_1_1
  (refine hK _ _ (by go_simp) ?_; clear hK K; (try simp only [Act.put, List.setIfInBounds_toArray, List.set_cons_zero, List.set_cons_succ]))
  (refine plan_keep rfl rfl (by rfl) (fun K hK => ?_); go_simp)
  refine (rfloor_any an ad f _ an1 an2 ad1 ad2 Hf.out).mono ?_
  rintro e w4 ⟨rfl, hb4⟩
  have cc := (bcell hb4).1
  have zz := hb4.size
  try simp at zz
  have l4_0 : w.heap.size < w4.heap.size := by first | omega | (simp at *; omega)
  have g4_0_0 : w4.cell? ⟨w.heap.size, 0, none⟩ = some (.int .i64 an) := by rw [cc _ _ (by first | omega | (simp; done) | (simp; omega))]; first | assumption | go_simp
  have g4_0_1 : w4.cell? ⟨w.heap.size, 1, none⟩ = some (.int .i64 ad) := by rw [cc _ _ (by first | omega | (simp; done) | (simp; omega))]; first | assumption | go_simp
  have l4_1 : w.heap.size + 1 < w4.heap.size := by first | omega | (simp at *; omega)
  have g4_1_0 : w4.cell? ⟨w.heap.size + 1, 0, none⟩ = some (.int .i64 bn) := by rw [cc _ _ (by first | omega | (simp; done) | (simp; omega))]; first | assumption | go_simp
  have g4_1_1 : w4.cell? ⟨w.heap.size + 1, 1, none⟩ = some (.int .i64 bd) := by rw [cc _ _ (by first | omega | (simp; done) | (simp; omega))]; first | assumption | go_simp
  clear cc zz
  clear g3_0_0 g3_0_1 g3_1_0 g3_1_1
  (refine hK _ _ (by go_simp) ?_; clear hK K; (try simp only [Act.put, List.setIfInBounds_toArray, List.set_cons_zero, List.set_cons_succ]))
  (iterate 5 (refine plan_held rfl (by decide) (by rfl) (fun w1 hS => by (try (have hS := hS rfl; obtain hS := hS; repeat (obtain ⟨_, hS⟩ := hS))); go_simp; rfl) ?_; simp only [Act.put, List.setIfInBounds_toArray, List.set_cons_zero, List.set_cons_succ]))
  (refine plan_keep rfl rfl (by rfl) (fun K hK => ?_); go_simp)
  refine (ceil_any an ad c _ an1 an2 ad1 ad2 Hc.out).mono ?_
  rintro e w5 ⟨rfl, hb5⟩
  have cc := (bcell hb5).1
  have zz := hb5.size
  try simp at zz
  have l5_0 : w.heap.size < w5.heap.size := by first | omega | (simp at *; omega)
  have g5_0_0 : w5.cell? ⟨w.heap.size, 0, none⟩ = some (.int .i64 an) := by rw [cc _ _ (by first | omega | (simp; done) | (simp; omega))]; first | assumption | go_simp
  have g5_0_1 : w5.cell? ⟨w.heap.size, 1, none⟩ = some (.int .i64 ad) := by rw [cc _ _ (by first | omega | (simp; done) | (simp; omega))]; first | assumption | go_simp
  have l5_1 : w.heap.size + 1 < w5.heap.size := by first | omega | (simp at *; omega)
  have g5_1_0 : w5.cell? ⟨w.heap.size + 1, 0, none⟩ = some (.int .i64 bn) := by rw [cc _ _ (by first | omega | (simp; done) | (simp; omega))]; first | assumption | go_simp
  have g5_1_1 : w5.cell? ⟨w.heap.size + 1, 1, none⟩ = some (.int .i64 bd) := by rw [cc _ _ (by first | omega | (simp; done) | (simp; omega))]; first | assumption | go_simp
  clear cc zz
  clear g4_0_0 g4_0_1 g4_1_0 g4_1_1
  (refine hK _ _ (by go_simp) ?_; clear hK K; (try simp only [Act.put, List.setIfInBounds_toArray, List.set_cons_zero, List.set_cons_succ]))
  (refine plan_late rfl rfl (by rfl) (fun K hK => ?_); go_simp)
  refine (rceil_any an ad c _ an1 an2 ad1 ad2 Hc.out).mono ?_
  rintro e w6 ⟨rfl, hb6⟩
  (refine hK _ _ ?_; clear hK K; (try simp only [Act.put, List.setIfInBounds_toArray, List.set_cons_zero, List.set_cons_succ]))
  (iterate 3 (refine plan_held rfl (by decide) (by rfl) (fun w1 hS => by (try (have hS := hS rfl; obtain hS := hS; repeat (obtain ⟨_, hS⟩ := hS))); go_simp; rfl) ?_; simp only [Act.put, List.setIfInBounds_toArray, List.set_cons_zero, List.set_cons_succ]))
  (refine plan_late rfl rfl (by rfl) (fun K hK => ?_); go_simp)
  refine (awake_any _).mono ?_
  rintro e w7 ⟨rfl, hb7⟩
  (refine hK _ _ ?_; clear hK K; (try simp only [Act.put, List.setIfInBounds_toArray, List.set_cons_zero, List.set_cons_succ]))
  (iterate 2 (refine plan_held rfl (by decide) (by rfl) (fun w1 hS => by (try (have hS := hS rfl; obtain hS := hS; repeat (obtain ⟨_, hS⟩ := hS))); go_simp; rfl) ?_; simp only [Act.put, List.setIfInBounds_toArray, List.set_cons_zero, List.set_cons_succ]))
  refine plan_done ?_
  go_wp2
  go_ret
  exact ⟨rfl, (by repeat' (first | exact Below.refl _ _ | assumption | (with_reducible refine bdrewN ?_ _) | (with_reducible refine bdrew ?_) | (with_reducible refine bset ?_ ?_) | (with_reducible refine balloc0 ?_) | (with_reducible refine balloc ?_ ?_) | (apply btrans0; rotate_left; assumption) | (apply btrans; rotate_left; assumption) | (simp; done) | omega | (simp; omega)))⟩

theorem i64bd (n : Int) (h : (Lit.int .i64 n).wf = true) : -9223372036854775808 ≤ n ∧ n ≤ 9223372036854775807 := by
  simpa [Lit.wf, IntKind.min, IntKind.max, IntKind.signed, IntKind.bits] using h

set_option maxRecDepth 100000 in
theorem lifted (os : Os) (started : os.Started) (H : Type) (enc : TypeId × Value → H) :
    ReturnsInHanded {} Try.checked os 5 .any (Rows.rationalOrderSpec.pre6 enc Try.prog Try.f5 Rows.rationalOrderRow.domain false) (Rows.rationalOrderSpec.post enc Try.prog Try.f5 false true false false) := by
  refine returnsInHanded_of_change (C := Try.checked) own started (by kernel_rfl) Try.func5
    (ChangeSpec.witness6 (enc := enc) (C := Try.checked) false ⟨#[], #[.agg #[.int .i64 0, .int .i64 0], .agg #[.int .i64 0, .int .i64 0]], []⟩ 8 (by kernel_rfl) (by kernel_rfl) (by kernel_rfl) (by kernel_rfl)) ?_
  intro W base args ds gs before hval0 hW hcnd _
  have hval : ∀ (j : Nat) t v, Try.f5.params[j]? = some t → args[j]? = some v → Value.okWide Try.prog W .any base t v := hval0
  have hW' := hW
  obtain ⟨p, q, hA0, hV, rfl, hfz, hnd⟩ := hW
  have hA : DataW.TrodAll enc Try.prog W 0 (fun _ => true) true Try.f5.params.toList args.toList ds p := hA0
  rw [Try.params5] at hA hval
  obtain ⟨v0, vs0, d0, ds0, p0, q0, hargs, rfl, rfl, h0, r0⟩ := trodAll_cons hA
  obtain ⟨v1, vs1, d1, ds1, p1, q1, rfl, rfl, rfl, h1, r1⟩ := trodAll_cons r0
  obtain ⟨rfl, rfl, rfl⟩ := trodAll_nil r1
  obtain rfl : args = #[v0, v1] := by cases args; simp_all
  obtain ⟨c0, c1, y0, y1, m, rfl, _, _, hy0, hy1⟩ := open_agg2 Try.underlying23 (by kernel_rfl) (by kernel_rfl) (hval 0 23 v0 rfl rfl) h0
  obtain ⟨an, e0, _, wan⟩ := DataW.trod_int Try.underlying3 hy0
  obtain ⟨ad, e1, _, wad⟩ := DataW.trod_int Try.underlying3 hy1
  simp at e0 e1
  subst e0 e1
  obtain ⟨c0, c1, y0, y1, m, rfl, _, _, hy0, hy1⟩ := open_agg2 Try.underlying23 (by kernel_rfl) (by kernel_rfl) (hval 1 23 v1 rfl rfl) h1
  obtain ⟨bn, e0, _, wbn⟩ := DataW.trod_int Try.underlying3 hy0
  obtain ⟨bd, e1, _, wbd⟩ := DataW.trod_int Try.underlying3 hy1
  simp at e0 e1
  subst e0 e1
  refine (walk an ad bn bd W (i64bd an wan).1 (i64bd an wan).2 (i64bd ad wad).1 (i64bd ad wad).2 (i64bd bn wbn).1 (i64bd bn wbn).2 (i64bd bd wbd).1 (i64bd bd wbd).2).mono fun e W' ⟨he, hB⟩ => ?_
  subst he
  refine ⟨_, rfl, law_post (by kernel_rfl) (by kernel_rfl) rfl Try.underlying4 rfl ?_ hW' hB⟩
  intro es hes
  match es, hes with
  | [_, _], _ => rfl

theorem proved : Rows.RationalOrderSaid :=
  OpenClaim.holds_of_wide 5 Try.f5 rfl rfl rfl rfl rfl rfl rfl ⟨rfl, rfl, rfl, rfl, rfl⟩ rfl rfl rfl rfl rfl (by kernel_rfl) Try.func5 (by kernel_rfl)
    (of_decide_eq_true (by kernel_rfl)) (by unfold Func.isWrapper; first | (rw [if_pos (by decide +kernel)]; kernel_rfl) | (rw [if_neg (by decide +kernel)]; exact ⟨rfl, rfl⟩))
    (fun os started H enc _ => lifted os started H enc)
#print axioms proved
end Go.Proofs.Ytfkdhcfedjbkfaa.rationalOrder
