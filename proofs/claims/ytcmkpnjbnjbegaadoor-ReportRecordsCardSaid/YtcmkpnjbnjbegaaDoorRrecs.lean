/-
  Proved: mailboatlaw20.ReportRecords returns true for every input, and leaves its arguments as they were. Under what the row lists, tied to the text.
-/
import Derived.Test.YtcmkpnjbnjbegaaDoorRows
import Derived.Test.YtcmkpnjbnjbegaaDoorVh
import Derived.Test.YtcmkpnjbnjbegaaDoorVo
import Derived.Test.YtcmkpnjbnjbegaaDoorCards
import Derived.Test.YtcmkpnjbnjbegaaDoorTie
import Derived.SevenTiedAt
set_option linter.unusedVariables false
set_option linter.unusedSimpArgs false
namespace Go.Proofs.YtcmkpnjbnjbegaaDoor.reportRecords
open Go Go.ChangeShapes Go.WideShapes Go.ChangeAt Go.RowKit Go.Joins Go.Proofs.YtcmkpnjbnjbegaaDoor
attribute [local go_sem] B_getElem B_size B_app B_extract B_get B_toList

theorem own : ownKnob Tryd.prog.godebug = none := by kernel_rfl

attribute [local go_sem ↓] eqRepI
set_option maxRecDepth 100000 in
set_option maxHeartbeats 8000000 in
theorem walk (r : Rep) (s : List UInt8) (w : World) (hs0 : s.length ≤ maxLen) (hT : Tabs w) :
    Calls Tryd.prog 5 #[repV r, .string (B s)] w (Says w) := by
  unfold Says
  by_cases hl : 200 < s.length
  · have h1 : 200 < (s.length : Int) := by omega
    clear hl
    unfold repV
    go_enter Tryd.func5, Tryd.ntmps5
    go_wp2_with fail
    refine (awake_any _ (hT.stays (by repeat' (first | (with_reducible refine bset ?_ ?_) | (with_reducible exact Below.refl _ _) | (with_reducible assumption) | (with_reducible refine bdrewN ?_ _) | (with_reducible refine bdrew ?_) | (with_reducible refine balloc0 ?_) | (with_reducible refine balloc ?_ ?_) | (with_reducible apply btrans0; rotate_left; with_reducible assumption) | (with_reducible apply btrans; rotate_left; with_reducible assumption) | exact Below.refl _ _ | assumption | (apply btrans0; rotate_left; assumption) | (apply btrans; rotate_left; assumption) | (simp; done) | omega | (simp; omega))))).mono ?_
    rintro e w99 ⟨rfl, hb99⟩
    go_wp2
    go_ret
    exact ⟨rfl, (by repeat' (first | (with_reducible refine bset ?_ ?_) | (with_reducible exact Below.refl _ _) | (with_reducible assumption) | (with_reducible refine bdrewN ?_ _) | (with_reducible refine bdrew ?_) | (with_reducible refine balloc0 ?_) | (with_reducible refine balloc ?_ ?_) | (with_reducible apply btrans0; rotate_left; with_reducible assumption) | (with_reducible apply btrans; rotate_left; with_reducible assumption) | exact Below.refl _ _ | assumption | (apply btrans0; rotate_left; assumption) | (apply btrans; rotate_left; assumption) | (simp; done) | omega | (simp; omega)))⟩
  have h1 : ¬ 200 < (s.length : Int) := by omega
  have h2 : (s.length : Int) ≤ 200 := by omega
  have h3 : s.length ≤ 200 := by omega
  clear hl
  obtain ⟨E, hE⟩ : ∃ E, repE r = E := ⟨_, rfl⟩
  obtain ⟨R, hR⟩ : ∃ E, repR r = E := ⟨_, rfl⟩
  obtain ⟨U, hU⟩ : ∃ E, textR r = E := ⟨_, rfl⟩
  obtain ⟨⟨D, ES⟩, hS⟩ : ∃ q, repDS s = q := ⟨_, rfl⟩
  have HE := Lib.hid hE
  have HR := Lib.hid hR
  have HU := Lib.hid hU
  have HS := Lib.hid hS
  have hD : eqR D D = true := eqR_iff.2 rfl
  clear hE hR hU hS
  unfold repV
  go_enter Tryd.func5, Tryd.ntmps5
  go_wp2_with fail
  refine (repEncode_any r _).mono ?_
  rw [HE.out, HR.out]
  rintro e w1 ⟨rfl, hb1⟩
  have hB1 : Below w.heap.size w w1 := (by repeat' (first | (with_reducible refine bset ?_ ?_) | (with_reducible exact Below.refl _ _) | (with_reducible assumption) | (with_reducible refine bdrewN ?_ _) | (with_reducible refine bdrew ?_) | (with_reducible refine balloc0 ?_) | (with_reducible refine balloc ?_ ?_) | (with_reducible apply btrans0; rotate_left; with_reducible assumption) | (with_reducible apply btrans; rotate_left; with_reducible assumption) | exact Below.refl _ _ | assumption | (apply btrans0; rotate_left; assumption) | (apply btrans; rotate_left; assumption) | (simp; done) | omega | (simp; omega)))
  have z1 : w.heap.size < w1.heap.size := by have := hb1.size; simp at this; omega
  have A1 : w1.heap[w.heap.size]? = some (.cells (repA r) 25 (0, 0)) := (hb1.block _ (by simp)).trans heap_new
  have cA1 := fun o => cellB A1 o
  simp only [repA] at cA1
  have HA1 := Lib.hid A1
  clear A1
  go_wp2_with fail
  refine (rrepEncode_any r _).mono ?_
  rw [HE.out, HR.out]
  rintro e w2 ⟨rfl, hb2⟩
  have hB2 : Below w.heap.size w w2 := (by repeat' (first | (with_reducible refine bset ?_ ?_) | (with_reducible exact Below.refl _ _) | (with_reducible assumption) | (with_reducible refine bdrewN ?_ _) | (with_reducible refine bdrew ?_) | (with_reducible refine balloc0 ?_) | (with_reducible refine balloc ?_ ?_) | (with_reducible apply btrans0; rotate_left; with_reducible assumption) | (with_reducible apply btrans; rotate_left; with_reducible assumption) | exact Below.refl _ _ | assumption | (apply btrans0; rotate_left; assumption) | (apply btrans; rotate_left; assumption) | (simp; done) | omega | (simp; omega)))
  have z2 : w.heap.size < w2.heap.size := by have := hb2.size; omega
  have A2 := (hb2.block _ z1).trans HA1.out
  clear cA1 hb1
  go_wp2_with fail
  refine (repDecode_any s _ (by omega)).mono ?_
  rw [HS.out]
  unfold RepPost repV
  simp only
  rintro e w3 ⟨rfl, hb3⟩
  have hB3 : Below w.heap.size w w3 := (by repeat' (first | (with_reducible refine bset ?_ ?_) | (with_reducible exact Below.refl _ _) | (with_reducible assumption) | (with_reducible refine bdrewN ?_ _) | (with_reducible refine bdrew ?_) | (with_reducible refine balloc0 ?_) | (with_reducible refine balloc ?_ ?_) | (with_reducible apply btrans0; rotate_left; with_reducible assumption) | (with_reducible apply btrans; rotate_left; with_reducible assumption) | exact Below.refl _ _ | assumption | (apply btrans0; rotate_left; assumption) | (apply btrans; rotate_left; assumption) | (simp; done) | omega | (simp; omega)))
  have z3 : w.heap.size < w3.heap.size := by have := hb3.size; omega
  have A3 := (hb3.block _ z2).trans A2
  clear A2 hb2
  go_wp2_with fail
  refine (rrepDecode_any s _ (by omega)).mono ?_
  rw [HS.out]
  unfold RepPost repV
  simp only
  rintro e w4 ⟨rfl, hb4⟩
  have hB4 : Below w.heap.size w w4 := (by repeat' (first | (with_reducible refine bset ?_ ?_) | (with_reducible exact Below.refl _ _) | (with_reducible assumption) | (with_reducible refine bdrewN ?_ _) | (with_reducible refine bdrew ?_) | (with_reducible refine balloc0 ?_) | (with_reducible refine balloc ?_ ?_) | (with_reducible apply btrans0; rotate_left; with_reducible assumption) | (with_reducible apply btrans; rotate_left; with_reducible assumption) | exact Below.refl _ _ | assumption | (apply btrans0; rotate_left; assumption) | (apply btrans; rotate_left; assumption) | (simp; done) | omega | (simp; omega)))
  have x4 : w3.heap.size < w4.heap.size := by have := hb4.size; simp at this; omega
  have z4 : w.heap.size < w4.heap.size := by omega
  have A4 := (hb4.block w.heap.size (by simp; omega)).trans ((Below.heap_alloc _ _ _ z3).trans A3)
  have X4 : w4.heap[w3.heap.size]? = some (.cells (repA D) 25 (0, 0)) := (hb4.block _ (by simp)).trans heap_new
  clear A3 hb3
  have cA4 := fun o => cellB A4 o
  have cX4 := fun o => cellB X4 o
  simp only [repA] at cA4 cX4
  have HA4 := Lib.hid A4
  have HX4 := Lib.hid X4
  clear A4 X4
  go_wp2_with fail
  refine (repText_any r _ (hT.stays (by repeat' (first | (with_reducible refine bset ?_ ?_) | (with_reducible exact Below.refl _ _) | (with_reducible assumption) | (with_reducible refine bdrewN ?_ _) | (with_reducible refine bdrew ?_) | (with_reducible refine balloc0 ?_) | (with_reducible refine balloc ?_ ?_) | (with_reducible apply btrans0; rotate_left; with_reducible assumption) | (with_reducible apply btrans; rotate_left; with_reducible assumption) | exact Below.refl _ _ | assumption | (apply btrans0; rotate_left; assumption) | (apply btrans; rotate_left; assumption) | (simp; done) | omega | (simp; omega))))).mono ?_
  rw [HE.out, HU.out]
  rintro e w5 ⟨rfl, hb5⟩
  have hB5 : Below w.heap.size w w5 := (by repeat' (first | (with_reducible refine bset ?_ ?_) | (with_reducible exact Below.refl _ _) | (with_reducible assumption) | (with_reducible refine bdrewN ?_ _) | (with_reducible refine bdrew ?_) | (with_reducible refine balloc0 ?_) | (with_reducible refine balloc ?_ ?_) | (with_reducible apply btrans0; rotate_left; with_reducible assumption) | (with_reducible apply btrans; rotate_left; with_reducible assumption) | exact Below.refl _ _ | assumption | (apply btrans0; rotate_left; assumption) | (apply btrans; rotate_left; assumption) | (simp; done) | omega | (simp; omega)))
  have y5 : w4.heap.size < w5.heap.size := by have := hb5.size; simp at this; omega
  have x5 : w3.heap.size < w5.heap.size := by omega
  have z5 : w.heap.size < w5.heap.size := by omega
  have A5 := (hb5.block w.heap.size (by simp; omega)).trans ((Below.heap_alloc _ _ _ z4).trans HA4.out)
  have X5 := (hb5.block w3.heap.size (by simp; omega)).trans ((Below.heap_alloc _ _ _ x4).trans HX4.out)
  have Y5 : w5.heap[w4.heap.size]? = some (.cells (repA D) 25 (0, 0)) := (hb5.block _ (by simp)).trans heap_new
  clear hb4 cA4 cX4
  have cA5 := fun o => cellB A5 o
  have cX5 := fun o => cellB X5 o
  have cY5 := fun o => cellB Y5 o
  simp only [repA] at cA5 cX5 cY5
  have HA5 := Lib.hid A5
  have HX5 := Lib.hid X5
  have HY5 := Lib.hid Y5
  clear A5 X5 Y5
  go_wp2_with fail
  refine (rrepText_any r _).mono ?_
  rw [HE.out, HU.out]
  rintro e w6 ⟨rfl, hb6⟩
  have hB6 : Below w.heap.size w w6 := (by repeat' (first | (with_reducible refine bset ?_ ?_) | (with_reducible exact Below.refl _ _) | (with_reducible assumption) | (with_reducible refine bdrewN ?_ _) | (with_reducible refine bdrew ?_) | (with_reducible refine balloc0 ?_) | (with_reducible refine balloc ?_ ?_) | (with_reducible apply btrans0; rotate_left; with_reducible assumption) | (with_reducible apply btrans; rotate_left; with_reducible assumption) | exact Below.refl _ _ | assumption | (apply btrans0; rotate_left; assumption) | (apply btrans; rotate_left; assumption) | (simp; done) | omega | (simp; omega)))
  have y6 : w4.heap.size < w6.heap.size := by have := hb6.size; omega
  have x6 : w3.heap.size < w6.heap.size := by omega
  have z6 : w.heap.size < w6.heap.size := by omega
  have A6 := (hb6.block w.heap.size (by omega)).trans HA5.out
  have X6 := (hb6.block w3.heap.size (by omega)).trans HX5.out
  have Y6 := (hb6.block w4.heap.size (by omega)).trans HY5.out
  clear hb5 cA5 cX5 cY5
  have cA6 := fun o => cellB A6 o
  have cX6 := fun o => cellB X6 o
  have cY6 := fun o => cellB Y6 o
  simp only [repA] at cA6 cX6 cY6
  have HA6 := Lib.hid A6
  have HX6 := Lib.hid X6
  have HY6 := Lib.hid Y6
  clear A6 X6 Y6
  have HT6 := Lib.hid (hT.stays hB6)
  clear hb6 hB1 hB2 hB3 hB4 hB5
  go_wp2
  refine wp_region_plan (fun V => Below (w6).heap.size (w6) V) [1, 2, 1, 2, 0, 0, 0, 0, 0, 0, 0, 0, 0, 0, 0, 0, 1, 1, 0, 0, 0, 0, 0, 0, 0, 0, 0, 0, 0, 0, 0, 0, 0, 0, 0, 0, 3, 0, 0] [0, 2, 1, 3, 4, 5, 6, 7, 8, 9, 10, 11, 12, 13, 14, 15, 16, 17, 18, 19, 20, 21, 22, 23, 24, 25, 26, 27, 28, 29, 30, 31, 32, 33, 34, 35, 36, 37, 38] (by kernel_rfl) (by kernel_rfl) ?_ ?_
  case refine_1 => exact (by repeat' (first | (with_reducible refine bset ?_ ?_) | (with_reducible exact Below.refl _ _) | (with_reducible assumption) | (with_reducible refine bdrewN ?_ _) | (with_reducible refine bdrew ?_) | (with_reducible refine balloc0 ?_) | (with_reducible refine balloc ?_ ?_) | (with_reducible apply btrans0; rotate_left; with_reducible assumption) | (with_reducible apply btrans; rotate_left; with_reducible assumption) | exact Below.refl _ _ | assumption | (apply btrans0; rotate_left; assumption) | (apply btrans; rotate_left; assumption) | (simp; done) | omega | (simp; omega)))
  (iterate 2 (first | (refine plan_held rfl (by decide) (by rfl) (fun w1 hS => by (try (obtain ⟨_, _⟩ := bcell (hS rfl))); go_simp; rfl) ?_; simp only [Act.put, List.setIfInBounds_toArray, List.set_cons_zero, List.set_cons_succ]) | (refine plan_skip rfl (by decide) (by rfl) ?_; simp only [Act.put, List.setIfInBounds_toArray, List.set_cons_zero, List.set_cons_succ])))
  (refine plan_keep rfl rfl (by rfl) (fun K hK => ?_); go_simp)
  refine (repCheck_any r _).mono ?_
  rw [HE.out]
  rintro e wc52 ⟨rfl, hbc52⟩
  (refine hK _ _ (by exact (by repeat' (first | (with_reducible refine bset ?_ ?_) | (with_reducible exact Below.refl _ _) | (with_reducible assumption) | (with_reducible refine bdrewN ?_ _) | (with_reducible refine bdrew ?_) | (with_reducible refine balloc0 ?_) | (with_reducible refine balloc ?_ ?_) | (with_reducible apply btrans0; rotate_left; with_reducible assumption) | (with_reducible apply btrans; rotate_left; with_reducible assumption) | exact Below.refl _ _ | assumption | (apply btrans0; rotate_left; assumption) | (apply btrans; rotate_left; assumption) | (simp; done) | omega | (simp; omega)))) ?_; clear hK K; (try simp only [Act.put, List.setIfInBounds_toArray, List.set_cons_zero, List.set_cons_succ]))
  (refine plan_keep rfl rfl (by rfl) (fun K hK => ?_); go_simp)
  refine (rrepCheck_any r _).mono ?_
  rw [HE.out]
  rintro e wc54 ⟨rfl, hbc54⟩
  (refine hK _ _ (by exact (by repeat' (first | (with_reducible refine bset ?_ ?_) | (with_reducible exact Below.refl _ _) | (with_reducible assumption) | (with_reducible refine bdrewN ?_ _) | (with_reducible refine bdrew ?_) | (with_reducible refine balloc0 ?_) | (with_reducible refine balloc ?_ ?_) | (with_reducible apply btrans0; rotate_left; with_reducible assumption) | (with_reducible apply btrans; rotate_left; with_reducible assumption) | exact Below.refl _ _ | assumption | (apply btrans0; rotate_left; assumption) | (apply btrans; rotate_left; assumption) | (simp; done) | omega | (simp; omega)))) ?_; clear hK K; (try simp only [Act.put, List.setIfInBounds_toArray, List.set_cons_zero, List.set_cons_succ]))
  (iterate 32 (first | (refine plan_held rfl (by decide) (by rfl) (fun w1 hS => by (try (obtain ⟨_, _⟩ := bcell (hS rfl))); go_simp; rfl) ?_; simp only [Act.put, List.setIfInBounds_toArray, List.set_cons_zero, List.set_cons_succ]) | (refine plan_skip rfl (by decide) (by rfl) ?_; simp only [Act.put, List.setIfInBounds_toArray, List.set_cons_zero, List.set_cons_succ])))
  (refine plan_late rfl rfl (by rfl) (fun K hK => ?_); go_simp)
  refine (awake_any _ (HT6.out.stays (by repeat' (first | (with_reducible refine bset ?_ ?_) | (with_reducible exact Below.refl _ _) | (with_reducible assumption) | (with_reducible refine bdrewN ?_ _) | (with_reducible refine bdrew ?_) | (with_reducible refine balloc0 ?_) | (with_reducible refine balloc ?_ ?_) | (with_reducible apply btrans0; rotate_left; with_reducible assumption) | (with_reducible apply btrans; rotate_left; with_reducible assumption) | exact Below.refl _ _ | assumption | (apply btrans0; rotate_left; assumption) | (apply btrans; rotate_left; assumption) | (simp; done) | omega | (simp; omega))))).mono ?_
  rintro e wc87 ⟨rfl, hbc87⟩
  (refine hK _ _ ?_; clear hK K; (try simp only [Act.put, List.setIfInBounds_toArray, List.set_cons_zero, List.set_cons_succ]))
  (iterate 2 (first | (refine plan_held rfl (by decide) (by rfl) (fun w1 hS => by (try (obtain ⟨_, _⟩ := bcell (hS rfl))); go_simp; rfl) ?_; simp only [Act.put, List.setIfInBounds_toArray, List.set_cons_zero, List.set_cons_succ]) | (refine plan_skip rfl (by decide) (by rfl) ?_; simp only [Act.put, List.setIfInBounds_toArray, List.set_cons_zero, List.set_cons_succ])))
  refine plan_done ?_
  go_wp2
  go_ret
  exact ⟨rfl, (by repeat' (first | (with_reducible refine bset ?_ ?_) | (with_reducible exact Below.refl _ _) | (with_reducible assumption) | (with_reducible refine bdrewN ?_ _) | (with_reducible refine bdrew ?_) | (with_reducible refine balloc0 ?_) | (with_reducible refine balloc ?_ ?_) | (with_reducible apply btrans0; rotate_left; with_reducible assumption) | (with_reducible apply btrans; rotate_left; with_reducible assumption) | exact Below.refl _ _ | assumption | (apply btrans0; rotate_left; assumption) | (apply btrans; rotate_left; assumption) | (simp; done) | omega | (simp; omega)))⟩

set_option maxRecDepth 100000 in
theorem lifted (os : Os) (started : os.Started) (H : Type) (enc : TypeId × Value → H) :
    ReturnsInHanded {} Tryd.checked os 5 .any (fun w args => (Rows.reportRecordsSpec.pre enc Tryd.prog Tryd.f5 Rows.reportRecordsRow.domain false w args ∧ laidMetH Tryd.prog laid5 w) ∧ sizedMet enc Tryd.prog Tryd.f5 (OpenSpec.ofChange Rows.reportRecordsSpec) false w args)
      (Rows.reportRecordsSpec.post enc Tryd.prog Tryd.f5 false true false false) := by
  refine returnsInHanded_of_change_and (C := Tryd.checked) (X := fun w _ => laidMetH Tryd.prog laid5 w) (fun _ _ _ hh h => h.of_heap hh) own started (by kernel_rfl) Tryd.func5
    (ChangeSpec.witness_at (enc := enc) (C := Tryd.checked) (os := os) (X := fun w _ => laidMetH Tryd.prog laid5 w) false (laidWorld os) #[.agg #[.int .i64 0, .int .i64 0, .int .i64 0, .int .i64 0, .int .i64 0, .int .i64 0, .int .i64 0, .int .i64 0, .int .i64 0], .string (B [])] 8 rfl (by kernel_rfl) (by kernel_rfl) (by kernel_rfl) (by kernel_rfl) (by kernel_rfl) (laid_met os _)) ?_
  intro W base args ds gs before hval0 hW hcnd _ hL _
  have hval : ∀ (j : Nat) t v, Tryd.f5.params[j]? = some t → args[j]? = some v → Value.okWide Tryd.prog W .any base t v := hval0
  have hW' := hW
  obtain ⟨p, q, hA0, hV, rfl, hfz, hnd⟩ := hW
  have hA : DataW.TrodAll enc Tryd.prog W 0 (fun _ => true) true Tryd.f5.params.toList args.toList ds p := hA0
  rw [Tryd.params5] at hA hval
  obtain ⟨v0, vs0, d0, ds0, p0, q0, hargs, rfl, rfl, h0, r0⟩ := trodAll_cons hA
  obtain ⟨v1, vs1, d1, ds1, p1, q1, rfl, rfl, rfl, h1, r1⟩ := trodAll_cons r0
  obtain ⟨rfl, rfl, rfl⟩ := trodAll_nil r1
  obtain rfl : args = #[v0, v1] := by cases args; simp_all
  obtain ⟨x0, rfl⟩ := open_rep_arg (hval 0 25 v0 rfl rfl) h0
  obtain ⟨x1, rfl, hs1⟩ := open_str_arg (hval 1 9 v1 rfl rfl) h1
  refine (walk x0 x1 W hs1 (tabs_of_laid hL)).mono fun e W' ⟨he, hB⟩ => ?_
  subst he
  refine ⟨_, rfl, law_post (by kernel_rfl) (by kernel_rfl) rfl Tryd.underlying4 rfl ?_ hW' hB⟩
  intro es hes
  match es, hes with
  | [_, _], _ => rfl

theorem row : Rows.ReportRecordsSaid :=
  OpenClaim.holds_of_wide 5 Tryd.f5 rfl rfl rfl rfl rfl rfl rfl ⟨rfl, rfl, rfl, rfl, rfl⟩ rfl rfl rfl rfl rfl (by kernel_rfl) Tryd.func5 (by kernel_rfl)
    (of_decide_eq_true (by kernel_rfl)) (by unfold Func.isWrapper; first | (rw [if_pos (by decide +kernel)]; kernel_rfl) | (rw [if_neg (by decide +kernel)]; exact ⟨rfl, rfl⟩))
    (fun os started H enc _ => lifted os started H enc)
set_option maxRecDepth 100000 in
theorem proved : Rows.ReportRecordsCardSaid :=
  Claim7.holds_tied_plain_at .later [] [.data, .data, .data, .data, .data] true (true, "c3adbec164aad8dc57ec0e404f071e8c1abcc98f9f74296d1399b69f61a5471c") false
    row (fun _ h => by cases h) (by kernel_rfl) (fun _ h => by cases h) reportRecords_row_tie rfl ⟨rfl, rfl⟩ (by kernel_rfl) rfl
    (fun f fn hf hfn => by
      obtain rfl : f = 5 := Option.some.inj ((show Tryd.prog.funcNamed "mailboat/mailboatlaw20.ReportRecords" = some 5 by kernel_rfl).symm.trans hf) |>.symm
      obtain rfl : fn = Tryd.f5 := (Option.some.inj (Tryd.func5.symm.trans hfn)).symm
      exact ⟨by kernel_rfl, fun j t ht => by
        rw [Tryd.params5] at ht
        rcases j with _ | _ | j
        · obtain rfl : 25 = t := by simpa using ht
          exact (by kernel_rfl)
        · obtain rfl : 9 = t := by simpa using ht
          exact (by kernel_rfl)
        · simp at ht⟩)
    (by kernel_rfl)
#print axioms proved
end Go.Proofs.YtcmkpnjbnjbegaaDoor.reportRecords
