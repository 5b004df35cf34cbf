/-
  Proved: mailboatlaw04.RationalNew returns true for every input, and leaves its arguments as they were. No condition.
-/
import Derived.Test.YtfkdhcfedjbkfaaRows
import Derived.Test.YtfkdhcfedjbkfaaL
import Derived.Test.YtfkdhcfedjbkfaaWj
namespace Go.Proofs.Ytfkdhcfedjbkfaa.rationalNew
open Go.ChangeShapes Go.WideShapes Go.ChangeAt Go.RowKit Go.Joins Go.Proofs.Ytfkdhcfedjbkfaa

theorem own : ownKnob Try.prog.godebug = none := by kernel_rfl

set_option maxHeartbeats 1600000 in
theorem walk (n d a b : Int) (w : World) (n1 : -9223372036854775808 ≤ n) (n2 : n ≤ 9223372036854775807) (d1 : -9223372036854775808 ≤ d) (d2 : d ≤ 9223372036854775807)
    (a1 : -9223372036854775808 ≤ a) (a2 : a ≤ 9223372036854775807) (b1 : -9223372036854775808 ≤ b) (b2 : b ≤ 9223372036854775807) :
    Calls Try.prog 3 #[.int .i64 n, .int .i64 d, .agg #[.int .i64 a, .int .i64 b]] w fun e w' => e = .returned (.bool true) ∧ Below w.heap.size w w' := by
  obtain ⟨⟨⟨p, q⟩, r⟩, hr⟩ : ∃ x, newS n d = x := ⟨_, rfl⟩
  obtain ⟨k, hk⟩ : ∃ k, chk (a, b) = k := ⟨_, rfl⟩
  have HR := Lib.hid hr
  have HK := Lib.hid hk
  clear hr hk
  go_enter Try.func3, Try.ntmps3
  go_wp2_with fail
  refine (new_any n d p q r _ n1 n2 d1 d2 HR.out).mono ?_
  rintro e w1 ⟨rfl, hb1⟩
  obtain ⟨c1, f1⟩ := bcell hb1
  have z1 := hb1.size
  simp at z1
  go_wp2_with fail
  refine (rnew_any n d p q r _ n1 n2 d1 d2 HR.out).mono ?_
  rintro e w2 ⟨rfl, hb2⟩
  obtain ⟨c2, f2⟩ := bcell hb2
  have z2 := hb2.size
  simp at z2
  have l2 : w1.heap.size < w2.heap.size := by omega
  have l0 : w.heap.size < w2.heap.size := by omega
  have e1 : ∀ o, w2.cell? ⟨w1.heap.size, o, none⟩ = (w1.alloc (.cells #[.int .i64 p, .int .i64 q] 23)).cell? ⟨w1.heap.size, o, none⟩ := fun o => by
    rw [c2 _ _ (by simp)]
  have e0 : ∀ o, w2.cell? ⟨w.heap.size, o, none⟩ = (w.alloc (.cells #[.int .i64 a, .int .i64 b] 23)).cell? ⟨w.heap.size, o, none⟩ := fun o => by
    rw [c2 _ _ (by simp; omega), World.cell?_alloc_lt _ _ _ (by simp; omega), c1 _ _ (by simp)]
  clear c1 c2 f1 f2
  go_wp2_with fail
  refine wp_region_plan (fun x => x.cell? ⟨w1.heap.size, 0, none⟩ = some (.int .i64 p) ∧ x.cell? ⟨w1.heap.size, 1, none⟩ = some (.int .i64 q) ∧ x.cell? ⟨w2.heap.size, 0, none⟩ = some (.int .i64 p) ∧ x.cell? ⟨w2.heap.size, 1, none⟩ = some (.int .i64 q) ∧
      x.cell? ⟨w.heap.size, 0, none⟩ = some (.int .i64 a) ∧ x.cell? ⟨w.heap.size, 1, none⟩ = some (.int .i64 b))
    [1, 1, 0, 0, 0, 0, 0, 0, 0, 1, 2, 1, 3, 0, 0, 0, 3, 0, 0] [0, 1, 2, 3, 4, 5, 6, 7, 8, 9, 11, 10, 12, 13, 14, 15, 16, 17, 18] (by kernel_rfl) (by kernel_rfl) ?_ ?_
  · go_simp
  (iterate 11 (refine plan_held rfl (by decide) (by rfl) (fun w1 hS => by (try (have hS := hS rfl; obtain hS := hS; repeat (obtain ⟨_, hS⟩ := hS))); go_simp; rfl) ?_; simp only [Act.put, List.setIfInBounds_toArray, List.set_cons_zero, List.set_cons_succ]))
  (refine plan_keep rfl rfl (by rfl) (fun K hK => ?_); go_simp)
  refine (check_any a b k _ a1 a2 b1 b2 HK.out).mono ?_
  rintro e w3 ⟨rfl, hb3⟩
  obtain ⟨c3, f3⟩ := bcell hb3
  have z3 := hb3.size
  simp at z3
  have k1 : ∀ o, w3.cell? ⟨w1.heap.size, o, none⟩ = w2.cell? ⟨w1.heap.size, o, none⟩ := fun o => by rw [c3 _ _ (by simp; omega), World.cell?_drew, World.cell?_alloc_lt _ _ _ (by simp; omega)]
  have k0 : ∀ o, w3.cell? ⟨w.heap.size, o, none⟩ = w2.cell? ⟨w.heap.size, o, none⟩ := fun o => by rw [c3 _ _ (by simp; omega), World.cell?_drew, World.cell?_alloc_lt _ _ _ (by simp; omega)]
  have k2 : ∀ o, w3.cell? ⟨w2.heap.size, o, none⟩ = (w2.alloc (.cells #[.int .i64 p, .int .i64 q] 23)).cell? ⟨w2.heap.size, o, none⟩ := fun o => by rw [c3 _ _ (by simp), World.cell?_drew]
  clear c3 f3
  (refine hK _ _ (by go_simp) ?_; clear hK K; (try simp only [Act.put, List.setIfInBounds_toArray, List.set_cons_zero, List.set_cons_succ]))
  (refine plan_late rfl rfl (by rfl) (fun K hK => ?_); go_simp)
  refine (rcheck_any a b k _ a1 a2 b1 b2 HK.out).mono ?_
  rintro e w4 ⟨rfl, hb4⟩
  (refine hK _ _ ?_; clear hK K; (try simp only [Act.put, List.setIfInBounds_toArray, List.set_cons_zero, List.set_cons_succ]))
  (iterate 3 (refine plan_held rfl (by decide) (by rfl) (fun w1 hS => by (try (have hS := hS rfl; obtain hS := hS; repeat (obtain ⟨_, hS⟩ := hS))); go_simp; rfl) ?_; simp only [Act.put, List.setIfInBounds_toArray, List.set_cons_zero, List.set_cons_succ]))
  (refine plan_late rfl rfl (by rfl) (fun K hK => ?_); go_simp)
  refine (awake_any _).mono ?_
  rintro e w5 ⟨rfl, hb5⟩
  (refine hK _ _ ?_; clear hK K; (try simp only [Act.put, List.setIfInBounds_toArray, List.set_cons_zero, List.set_cons_succ]))
  (iterate 2 (refine plan_held rfl (by decide) (by rfl) (fun w1 hS => by (try (have hS := hS rfl; obtain hS := hS; repeat (obtain ⟨_, hS⟩ := hS))); go_simp; rfl) ?_; simp only [Act.put, List.setIfInBounds_toArray, List.set_cons_zero, List.set_cons_succ]))
  refine plan_done ?_
  go_wp2
  go_ret
  exact ⟨rfl, (by repeat' (first | exact Below.refl _ _ | assumption | (with_reducible refine bdrewN ?_ _) | (with_reducible refine bdrew ?_) | (with_reducible refine bset ?_ ?_) | (with_reducible refine balloc0 ?_) | (with_reducible refine balloc ?_ ?_) | (apply btrans0; rotate_left; assumption) | (apply btrans; rotate_left; assumption) | (simp; done) | omega | (simp; omega)))⟩

theorem bd (n : Int) (h : (Lit.int .i64 n).wf = true) : -9223372036854775808 ≤ n ∧ n ≤ 9223372036854775807 := by
  simpa [Lit.wf, IntKind.min, IntKind.max, IntKind.signed, IntKind.bits] using h

set_option maxRecDepth 100000 in
theorem lifted (os : Os) (started : os.Started) (H : Type) (enc : TypeId × Value → H) :
    ReturnsInHanded {} Try.checked os 3 .any (Rows.rationalNewSpec.pre6 enc Try.prog Try.f3 Rows.rationalNewRow.domain false) (Rows.rationalNewSpec.post enc Try.prog Try.f3 false true false false) := by
  refine returnsInHanded_of_change (C := Try.checked) own started (by kernel_rfl) Try.func3
    (ChangeSpec.witness6 (enc := enc) (C := Try.checked) false ⟨#[], #[.int .i64 0, .int .i64 0, .agg #[.int .i64 0, .int .i64 0]], []⟩ 8 (by kernel_rfl) (by kernel_rfl) (by kernel_rfl) (by kernel_rfl)) ?_
  intro W base args ds gs before hval0 hW hcnd _
  have hval : ∀ (j : Nat) t v, Try.f3.params[j]? = some t → args[j]? = some v → Value.okWide Try.prog W .any base t v := hval0
  have hW' := hW
  obtain ⟨p, q, hA0, hV, rfl, hfz, hnd⟩ := hW
  have hA : DataW.TrodAll enc Try.prog W 0 (fun _ => true) true Try.f3.params.toList args.toList ds p := hA0
  rw [Try.params3] at hA hval
  obtain ⟨v0, vs0, d0, ds0, p0, q0, hargs, rfl, rfl, h0, r0⟩ := trodAll_cons hA
  obtain ⟨v1, vs1, d1, ds1, p1, q1, rfl, rfl, rfl, h1, r1⟩ := trodAll_cons r0
  obtain ⟨v2, vs2, d2, ds2, p2, q2, rfl, rfl, rfl, h2, r2⟩ := trodAll_cons r1
  obtain ⟨rfl, rfl, rfl⟩ := trodAll_nil r2
  obtain rfl : args = #[v0, v1, v2] := by cases args; simp_all
  obtain ⟨n, rfl, _, _, wn⟩ := open_int Try.underlying3 (hval 0 3 v0 rfl rfl) h0
  obtain ⟨d, rfl, _, _, wd⟩ := open_int Try.underlying3 (hval 1 3 v1 rfl rfl) h1
  obtain ⟨c0, c1, y0, y1, m, rfl, _, _, hy0, hy1⟩ := open_agg2 Try.underlying23 (by kernel_rfl) (by kernel_rfl) (hval 2 23 v2 rfl rfl) h2
  obtain ⟨a, e0, _, wa⟩ := DataW.trod_int Try.underlying3 hy0
  obtain ⟨b, e1, _, wb⟩ := DataW.trod_int Try.underlying3 hy1
  simp at e0 e1
  subst e0 e1
  refine (walk n d a b W (bd n wn).1 (bd n wn).2 (bd d wd).1 (bd d wd).2 (bd a wa).1 (bd a wa).2 (bd b wb).1 (bd b wb).2).mono fun e W' ⟨he, hB⟩ => ?_
  subst he
  refine ⟨_, rfl, law_post (by kernel_rfl) (by kernel_rfl) rfl Try.underlying4 rfl ?_ hW' hB⟩
  intro es hes
  match es, hes with
  | [_, _, _], _ => rfl

theorem proved : Rows.RationalNewSaid :=
  OpenClaim.holds_of_wide 3 Try.f3 rfl rfl rfl rfl rfl rfl rfl ⟨rfl, rfl, rfl, rfl, rfl⟩ rfl rfl rfl rfl rfl (by kernel_rfl) Try.func3 (by kernel_rfl)
    (of_decide_eq_true (by kernel_rfl)) (by unfold Func.isWrapper; first | (rw [if_pos (by decide +kernel)]; kernel_rfl) | (rw [if_neg (by decide +kernel)]; exact ⟨rfl, rfl⟩))
    (fun os started H enc _ => lifted os started H enc)
#print axioms proved
end Go.Proofs.Ytfkdhcfedjbkfaa.rationalNew
