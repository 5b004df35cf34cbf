/-
  Proved: mailboatlaw19.AggregateBack returns true for every input, and leaves its arguments as they were. No condition.
-/
import Derived.Test.YtpkklmkeflddkaaRows
import Derived.Test.YtpkklmkeflddkaaJa
import Derived.Test.YtpkklmkeflddkaaJn
import Derived.Test.YtpkklmkeflddkaaQd
import Derived.Test.YtpkklmkeflddkaaQu
import Derived.Test.YtpkklmkeflddkaaQw
set_option linter.unusedVariables false
set_option linter.unusedSimpArgs false
namespace Go.Proofs.Ytpkklmkeflddkaa.aggregateBack
open Go Go.ChangeShapes Go.WideShapes Go.ChangeAt Go.RowKit Go.Joins Go.Proofs.Ytpkklmkeflddkaa
attribute [local go_sem] B_getElem B_size B_app B_extract B_get B_toList

theorem own : ownKnob Try.prog.godebug = none := by kernel_rfl

attribute [local go_sem] Oper.semAt_some
attribute [local go_sem ↓] neEndI
theorem sep_small {b : Bun} {l : List Bun} (h : sepS b = (l, 0)) : l.length ≤ 20000 ∧ ∀ x ∈ l, Fits x := by
  obtain ⟨v1, v2, y, r, rfl, hJ, hA, hP, hF, hC, hE⟩ := sep_facts h
  obtain ⟨_, _, _, hall, _⟩ := chkJ_zero hJ
  have h1 := chk_pay v1
  have h2 := pflat_len (y :: r)
  refine ⟨?_, fun x hx => fits_valid (hall x hx)⟩
  rw [← hP] at h1
  unfold payS at h1
  rw [List.length_append] at h1
  omega
theorem join_sep2 {b : Bun} {l : List Bun} (h : sepS b = (l, 0)) : ∃ C L F, joinS l b.seq = (⟨b.src, C, b.seq, 0, 0, b.dk, b.dn, L, b.prio, F, [], b.payload⟩, 0) ∧ C ≤ b.crt ∧ expS b ≤ expS ⟨b.src, C, b.seq, 0, 0, b.dk, b.dn, L, b.prio, F, [], b.payload⟩ := by
  obtain ⟨c, hj, e1, e2, e3, e4, e5, e6, h1, h2⟩ := join_sep h
  obtain ⟨y, r, rfl, _, _, _, _, _, _, _, hc⟩ := join_facts hj
  have hc2 : c = ⟨b.src, crtS (y :: r), b.seq, 0, 0, b.dk, b.dn, endS (y :: r) - crtS (y :: r), b.prio, joinF (y :: r), [], b.payload⟩ := by
    rw [← e1, ← e2, ← e4, ← e5, ← e6, hc]
  rw [hc2] at hj h1 h2
  exact ⟨_, _, _, hj, h1, h2⟩
attribute [local go_sem ↓] eqEnd
set_option maxRecDepth 100000 in
set_option maxHeartbeats 16000000 in
theorem way1 (b : Bun) (u : Value) (w : World) (hr : RBlks w w.heap.size u b.blocks) (hf : Fits b) (d1 : decide ((b.payload.length : Int) > 1500) = true) :
    Calls Try.prog 6 #[.agg (bunC b u).toArray] w (Says w) := by
  obtain ⟨ua, uc, rfl, _⟩ := id hr
  have HR := Lib.hid hr
  have HF := Lib.hid hf
  clear hr hf
  go_enter Try.func6, Try.ntmps6
  simp only [bunC]
  go_wp2_with fail
  refine (awake_any _).mono ?_
  rintro e w99 ⟨rfl, hb99⟩
  go_wp2
  go_ret
  exact ⟨rfl, (by repeat' (first | with_reducible (first | refine bset ?_ ?_ | exact Below.refl _ _ | assumption | refine bdrewN ?_ _ | refine bdrew ?_ | refine balloc0 ?_ | refine balloc ?_ ?_ | (apply btrans0; rotate_left; assumption) | (apply btrans; rotate_left; assumption)) | exact Below.refl _ _ | assumption | (apply btrans0; rotate_left; assumption) | (apply btrans; rotate_left; assumption) | (simp; done) | omega | (simp; omega)))⟩
set_option maxRecDepth 100000 in
set_option maxHeartbeats 16000000 in
theorem way2 (b : Bun) (u : Value) (w : World) (hr : RBlks w w.heap.size u b.blocks) (hf : Fits b) (d1 : decide ((b.payload.length : Int) > 1500) = false) (d2 : decide ((b.blocks.length : Int) > 10) = true) :
    Calls Try.prog 6 #[.agg (bunC b u).toArray] w (Says w) := by
  obtain ⟨ua, uc, rfl, _⟩ := id hr
  have HR := Lib.hid hr
  have HF := Lib.hid hf
  clear hr hf
  go_enter Try.func6, Try.ntmps6
  simp only [bunC]
  go_wp2_with fail
  refine (awake_any _).mono ?_
  rintro e w99 ⟨rfl, hb99⟩
  go_wp2
  go_ret
  exact ⟨rfl, (by repeat' (first | with_reducible (first | refine bset ?_ ?_ | exact Below.refl _ _ | assumption | refine bdrewN ?_ _ | refine bdrew ?_ | refine balloc0 ?_ | refine balloc ?_ ?_ | (apply btrans0; rotate_left; assumption) | (apply btrans; rotate_left; assumption)) | exact Below.refl _ _ | assumption | (apply btrans0; rotate_left; assumption) | (apply btrans; rotate_left; assumption) | (simp; done) | omega | (simp; omega)))⟩
set_option maxRecDepth 100000 in
set_option maxHeartbeats 16000000 in
theorem way3 (b : Bun) (u : Value) (w : World) (hr : RBlks w w.heap.size u b.blocks) (hf : Fits b) (d1 : decide ((b.payload.length : Int) > 1500) = false) (d2 : decide ((b.blocks.length : Int) > 10) = false) :
    Calls Try.prog 6 #[.agg (bunC b u).toArray] w (Says w) := by
  obtain ⟨ua, uc, rfl, _⟩ := id hr
  have HR := Lib.hid hr
  have HF := Lib.hid hf
  clear hr hf
  obtain ⟨⟨l, E⟩, hs⟩ : ∃ q, sepS b = q := ⟨_, rfl⟩
  have HS := Lib.hid hs
  by_cases hE : E = 0
  case neg =>
    have hl := sep_err hs hE
    subst hl
    have dE : (E != 0) = true := by simpa using hE
    have dI : Hid (decide (E = 0) = false) := Lib.hid (decide_eq_false hE)
    clear hs hE
    go_enter Try.func6, Try.ntmps6
    simp only [bunC]
    go_wp2_with fail
    refine (sep_any b _ _ (HR.out.below' (by repeat' (first | with_reducible (first | refine bset ?_ ?_ | exact Below.refl _ _ | assumption | refine bdrewN ?_ _ | refine bdrew ?_ | refine balloc0 ?_ | refine balloc ?_ ?_ | (apply btrans0; rotate_left; assumption) | (apply btrans; rotate_left; assumption)) | exact Below.refl _ _ | assumption | (apply btrans0; rotate_left; assumption) | (apply btrans; rotate_left; assumption) | (simp; done) | omega | (simp; omega)))) HF.out).mono ?_
    unfold SepPost
    rw [HS.out]
    rintro e w1 ⟨v1, rfl, hv1, hb1⟩
    simp only at hv1
    obtain ⟨va, vc, rfl, _⟩ := id hv1
    simp only [List.length_nil]
    have hB1 : Below w.heap.size w w1 := (by repeat' (first | with_reducible (first | refine bset ?_ ?_ | exact Below.refl _ _ | assumption | refine bdrewN ?_ _ | refine bdrew ?_ | refine balloc0 ?_ | refine balloc ?_ ?_ | (apply btrans0; rotate_left; assumption) | (apply btrans; rotate_left; assumption)) | exact Below.refl _ _ | assumption | (apply btrans0; rotate_left; assumption) | (apply btrans; rotate_left; assumption) | (simp; done) | omega | (simp; omega)))
    have y1 : w.heap.size < w1.heap.size := by have := hb1.size; (try simp at this); omega
    have A1 : w1.heap[w.heap.size]? = some (.cells (bunC b (.slice ua b.blocks.length uc)).toArray 28 (0, 0)) := (hb1.block _ (by first | (simp; done) | (simp; omega) | omega)).trans heap_new
    have ca := fun o => cellB A1 o
    simp only [bunC] at ca
    have HA1 := Lib.hid A1
    clear A1
    clear hv1 hb1
    go_wp2_with fail
    refine (is_any b _ _ (HR.out.below' (by repeat' (first | with_reducible (first | refine bset ?_ ?_ | exact Below.refl _ _ | assumption | refine bdrewN ?_ _ | refine bdrew ?_ | refine balloc0 ?_ | refine balloc ?_ ?_ | (apply btrans0; rotate_left; assumption) | (apply btrans; rotate_left; assumption)) | exact Below.refl _ _ | assumption | (apply btrans0; rotate_left; assumption) | (apply btrans; rotate_left; assumption) | (simp; done) | omega | (simp; omega)))) HF.out).mono ?_
    rw [HS.out]
    simp only
    rw [dI.out]
    rintro e w2 ⟨rfl, hb2⟩
    have hB2 : Below w.heap.size w w2 := (by repeat' (first | with_reducible (first | refine bset ?_ ?_ | exact Below.refl _ _ | assumption | refine bdrewN ?_ _ | refine bdrew ?_ | refine balloc0 ?_ | refine balloc ?_ ?_ | (apply btrans0; rotate_left; assumption) | (apply btrans; rotate_left; assumption)) | exact Below.refl _ _ | assumption | (apply btrans0; rotate_left; assumption) | (apply btrans; rotate_left; assumption) | (simp; done) | omega | (simp; omega)))
    go_wp2_with fail
    refine (awake_any _).mono ?_
    rintro e w99 ⟨rfl, hb99⟩
    go_wp2
    go_ret
    exact ⟨rfl, (by repeat' (first | with_reducible (first | refine bset ?_ ?_ | exact Below.refl _ _ | assumption | refine bdrewN ?_ _ | refine bdrew ?_ | refine balloc0 ?_ | refine balloc ?_ ?_ | (apply btrans0; rotate_left; assumption) | (apply btrans; rotate_left; assumption)) | exact Below.refl _ _ | assumption | (apply btrans0; rotate_left; assumption) | (apply btrans; rotate_left; assumption) | (simp; done) | omega | (simp; omega)))⟩
  subst hE
  obtain ⟨hl, hfs⟩ := sep_small hs
  obtain ⟨C, Lf, Fl, hj, hC, hX⟩ := join_sep2 hs
  obtain ⟨X, hXe⟩ : ∃ q, expS b = q := ⟨_, rfl⟩
  obtain ⟨Y, hYe⟩ : ∃ q, expS ⟨b.src, C, b.seq, 0, 0, b.dk, b.dn, Lf, b.prio, Fl, [], b.payload⟩ = q := ⟨_, rfl⟩
  have HXE := Lib.hid hXe
  have HYE := Lib.hid hYe
  have HJ := Lib.hid hj
  have HFS := Lib.hid hfs
  have HFC := Lib.hid (fits_valid (join_valid hj).1)
  have dC : decide (C ≤ b.crt) = true := decide_eq_true hC
  have dX : decide (Y ≥ X) = true := decide_eq_true (by rw [hXe, hYe] at hX; exact hX)
  clear hs hj hfs hC hX hXe hYe
  go_enter Try.func6, Try.ntmps6
  simp only [bunC]
  go_wp2_with fail
  refine (sep_any b _ _ (HR.out.below' (by repeat' (first | with_reducible (first | refine bset ?_ ?_ | exact Below.refl _ _ | assumption | refine bdrewN ?_ _ | refine bdrew ?_ | refine balloc0 ?_ | refine balloc ?_ ?_ | (apply btrans0; rotate_left; assumption) | (apply btrans; rotate_left; assumption)) | exact Below.refl _ _ | assumption | (apply btrans0; rotate_left; assumption) | (apply btrans; rotate_left; assumption) | (simp; done) | omega | (simp; omega)))) HF.out).mono ?_
  unfold SepPost
  rw [HS.out]
  rintro e w1 ⟨v1, rfl, hv1, hb1⟩
  simp only at hv1
  obtain ⟨va, vc, rfl, _⟩ := id hv1
  have HV1 := Lib.hid hv1
  have hB1 : Below w.heap.size w w1 := (by repeat' (first | with_reducible (first | refine bset ?_ ?_ | exact Below.refl _ _ | assumption | refine bdrewN ?_ _ | refine bdrew ?_ | refine balloc0 ?_ | refine balloc ?_ ?_ | (apply btrans0; rotate_left; assumption) | (apply btrans; rotate_left; assumption)) | exact Below.refl _ _ | assumption | (apply btrans0; rotate_left; assumption) | (apply btrans; rotate_left; assumption) | (simp; done) | omega | (simp; omega)))
  have y1 : w.heap.size < w1.heap.size := by have := hb1.size; (try simp at this); omega
  have A1 : w1.heap[w.heap.size]? = some (.cells (bunC b (.slice ua b.blocks.length uc)).toArray 28 (0, 0)) := (hb1.block _ (by first | (simp; done) | (simp; omega) | omega)).trans heap_new
  have ca := fun o => cellB A1 o
  simp only [bunC] at ca
  have HA1 := Lib.hid A1
  clear A1
  clear hv1 hb1
  go_wp2_with fail
  refine (join_any l _ b.seq _ (HV1.out.below'' (by repeat' (first | with_reducible (first | refine bset ?_ ?_ | exact Below.refl _ _ | assumption | refine bdrewN ?_ _ | refine bdrew ?_ | refine balloc0 ?_ | refine balloc ?_ ?_ | (apply btrans0; rotate_left; assumption) | (apply btrans; rotate_left; assumption)) | exact Below.refl _ _ | assumption | (apply btrans0; rotate_left; assumption) | (apply btrans; rotate_left; assumption) | (simp; done) | omega | (simp; omega)))) HFS.out hl).mono ?_
  unfold JoinPost
  rw [HJ.out]
  rintro e w2 ⟨rfl, hb2⟩
  simp only [bunC]
  have hB2 : Below w.heap.size w w2 := (by repeat' (first | with_reducible (first | refine bset ?_ ?_ | exact Below.refl _ _ | assumption | refine bdrewN ?_ _ | refine bdrew ?_ | refine balloc0 ?_ | refine balloc ?_ ?_ | (apply btrans0; rotate_left; assumption) | (apply btrans; rotate_left; assumption)) | exact Below.refl _ _ | assumption | (apply btrans0; rotate_left; assumption) | (apply btrans; rotate_left; assumption) | (simp; done) | omega | (simp; omega)))
  have y2 : w.heap.size < w2.heap.size := by have := hb2.size; (try simp at this); omega
  have A2 : w2.heap[w.heap.size]? = some (.cells (bunC b (.slice ua b.blocks.length uc)).toArray 28 (0, 0)) := (hb2.block _ (by first | (simp; done) | (simp; omega) | omega)).trans HA1.out
  clear ca
  have ca := fun o => cellB A2 o
  simp only [bunC] at ca
  have HA2 := Lib.hid A2
  clear A2
  clear hb2
  go_wp2_with fail
  obtain ⟨W3, hW3⟩ : ∃ q, w2.alloc (.cells (bunC ⟨b.src, C, b.seq, 0, 0, b.dk, b.dn, Lf, b.prio, Fl, [], b.payload⟩ (.slice none 0 0)).toArray 28) = q := ⟨_, rfl⟩
  have hB3 : Below w.heap.size w W3 := by rw [← hW3]; exact balloc0 hB2
  have A3 : W3.heap[w.heap.size]? = some (.cells (bunC b (.slice ua b.blocks.length uc)).toArray 28 (0, 0)) := by rw [← hW3]; exact (Below.heap_alloc _ _ _ (by omega)).trans HA2.out
  have J3 : W3.heap[w2.heap.size]? = some (.cells (bunC ⟨b.src, C, b.seq, 0, 0, b.dk, b.dn, Lf, b.prio, Fl, [], b.payload⟩ (.slice none 0 0)).toArray 28 (0, 0)) := by rw [← hW3]; exact heap_new
  have y3 : w.heap.size < W3.heap.size := by rw [← hW3]; simp; omega
  have x3 : w2.heap.size < W3.heap.size := by rw [← hW3]; simp
  simp only [bunC] at hW3
  rw [hW3]
  clear ca hW3
  have ca := fun o => cellB A3 o
  have cj := fun o => cellB J3 o
  simp only [bunC] at ca cj
  have HA3 := Lib.hid A3
  have HJ3 := Lib.hid J3
  clear A3 J3
  refine wp_region_plan (fun V => Below (W3).heap.size (W3) V) [0, 0, 0, 0, 1, 0, 1, 0, 0, 0, 0, 0, 1, 0, 0, 1, 0, 0, 0, 0, 0, 1, 0, 0, 1, 0, 0, 0, 0, 1, 0, 1, 0, 0, 0, 0, 1, 0, 1, 0, 0, 0, 0, 0, 1, 0, 0, 1, 0, 0, 0, 1, 2, 1, 3, 0, 0, 0, 3, 0, 0] [0, 1, 2, 3, 4, 5, 6, 7, 8, 9, 10, 11, 12, 13, 14, 15, 16, 17, 18, 19, 20, 21, 22, 23, 24, 25, 26, 27, 28, 29, 30, 31, 32, 33, 34, 35, 36, 37, 38, 39, 40, 41, 42, 43, 44, 45, 46, 47, 48, 49, 50, 51, 53, 52, 54, 55, 56, 57, 58, 59, 60] (by kernel_rfl) (by kernel_rfl) ?_ ?_
  case refine_1 => exact (by repeat' (first | with_reducible (first | refine bset ?_ ?_ | exact Below.refl _ _ | assumption | refine bdrewN ?_ _ | refine bdrew ?_ | refine balloc0 ?_ | refine balloc ?_ ?_ | (apply btrans0; rotate_left; assumption) | (apply btrans; rotate_left; assumption)) | exact Below.refl _ _ | assumption | (apply btrans0; rotate_left; assumption) | (apply btrans; rotate_left; assumption) | (simp; done) | omega | (simp; omega)))
  (iterate 53 (first | (refine plan_held rfl (by decide) (by rfl) (fun w1 hS => by (try (obtain ⟨_, _⟩ := bcell (hS rfl))); go_simp; rfl) ?_; simp only [Act.put, List.setIfInBounds_toArray, List.set_cons_zero, List.set_cons_succ]) | (refine plan_skip rfl (by decide) (by rfl) ?_; simp only [Act.put, List.setIfInBounds_toArray, List.set_cons_zero, List.set_cons_succ])))
  (refine plan_keep rfl rfl (by rfl) (fun K hK => ?_); go_simp)
  refine (expires_any ⟨b.src, C, b.seq, 0, 0, b.dk, b.dn, Lf, b.prio, Fl, [], b.payload⟩ _ _ (RBlks.nil _ _) HFC.out).mono ?_
  rw [HYE.out]
  rintro e wc96 ⟨rfl, hbc96⟩
  (refine hK _ _ (by exact (by repeat' (first | with_reducible (first | refine bset ?_ ?_ | exact Below.refl _ _ | assumption | refine bdrewN ?_ _ | refine bdrew ?_ | refine balloc0 ?_ | refine balloc ?_ ?_ | (apply btrans0; rotate_left; assumption) | (apply btrans; rotate_left; assumption)) | exact Below.refl _ _ | assumption | (apply btrans0; rotate_left; assumption) | (apply btrans; rotate_left; assumption) | (simp; done) | omega | (simp; omega)))) ?_; clear hK K; (try simp only [Act.put, List.setIfInBounds_toArray, List.set_cons_zero, List.set_cons_succ]))
  (refine plan_late rfl rfl (by rfl) (fun K hK => ?_); go_simp)
  refine (expires_any b _ _ (HR.out.below' (by repeat' (first | with_reducible (first | refine bset ?_ ?_ | exact Below.refl _ _ | assumption | refine bdrewN ?_ _ | refine bdrew ?_ | refine balloc0 ?_ | refine balloc ?_ ?_ | (apply btrans0; rotate_left; assumption) | (apply btrans; rotate_left; assumption)) | exact Below.refl _ _ | assumption | (apply btrans0; rotate_left; assumption) | (apply btrans; rotate_left; assumption) | (simp; done) | omega | (simp; omega)))) HF.out).mono ?_
  rw [HXE.out]
  rintro e wc98 ⟨rfl, hbc98⟩
  (refine hK _ _ ?_; clear hK K; (try simp only [Act.put, List.setIfInBounds_toArray, List.set_cons_zero, List.set_cons_succ]))
  (iterate 3 (first | (refine plan_held rfl (by decide) (by rfl) (fun w1 hS => by (try (obtain ⟨_, _⟩ := bcell (hS rfl))); go_simp; rfl) ?_; simp only [Act.put, List.setIfInBounds_toArray, List.set_cons_zero, List.set_cons_succ]) | (refine plan_skip rfl (by decide) (by rfl) ?_; simp only [Act.put, List.setIfInBounds_toArray, List.set_cons_zero, List.set_cons_succ])))
  (refine plan_late rfl rfl (by rfl) (fun K hK => ?_); go_simp)
  refine (awake_any _).mono ?_
  rintro e wc102 ⟨rfl, hbc102⟩
  (refine hK _ _ ?_; clear hK K; (try simp only [Act.put, List.setIfInBounds_toArray, List.set_cons_zero, List.set_cons_succ]))
  (iterate 2 (first | (refine plan_held rfl (by decide) (by rfl) (fun w1 hS => by (try (obtain ⟨_, _⟩ := bcell (hS rfl))); go_simp; rfl) ?_; simp only [Act.put, List.setIfInBounds_toArray, List.set_cons_zero, List.set_cons_succ]) | (refine plan_skip rfl (by decide) (by rfl) ?_; simp only [Act.put, List.setIfInBounds_toArray, List.set_cons_zero, List.set_cons_succ])))
  refine plan_done ?_
  go_wp2
  go_ret
  exact ⟨rfl, (by repeat' (first | with_reducible (first | refine bset ?_ ?_ | exact Below.refl _ _ | assumption | refine bdrewN ?_ _ | refine bdrew ?_ | refine balloc0 ?_ | refine balloc ?_ ?_ | (apply btrans0; rotate_left; assumption) | (apply btrans; rotate_left; assumption)) | exact Below.refl _ _ | assumption | (apply btrans0; rotate_left; assumption) | (apply btrans; rotate_left; assumption) | (simp; done) | omega | (simp; omega)))⟩
theorem walk (b : Bun) (u : Value) (w : World) (hr : RBlks w w.heap.size u b.blocks) (hf : Fits b)  :
    Calls Try.prog 6 #[.agg (bunC b u).toArray] w (Says w) := by
  by_cases h1 : (b.payload.length : Int) > 1500
  · exact way1 b u w hr hf (decide_eq_true h1)
  · by_cases h2 : (b.blocks.length : Int) > 10
    · exact way2 b u w hr hf (decide_eq_false h1) (decide_eq_true h2)
    · exact way3 b u w hr hf (decide_eq_false h1) (decide_eq_false h2)

set_option maxRecDepth 100000 in
theorem lifted (os : Os) (started : os.Started) (H : Type) (enc : TypeId × Value → H) :
    ReturnsInHanded {} Try.checked os 6 .any (Rows.aggregateBackSpec.pre6 enc Try.prog Try.f6 Rows.aggregateBackRow.domain false) (Rows.aggregateBackSpec.post enc Try.prog Try.f6 false true false false) := by
  refine returnsInHanded_of_change (C := Try.checked) own started (by kernel_rfl) Try.func6
    (ChangeSpec.witness6 (enc := enc) (C := Try.checked) false ⟨#[], #[.agg #[.int .i64 0, .int .i64 0, .int .i64 0, .int .i64 0, .int .i64 0, .int .i64 0, .int .i64 0, .int .i64 0, .int .i64 0, .int .i64 0, .slice none 0 0, .string (B [])]], []⟩ 8 (by kernel_rfl) (by kernel_rfl) (by kernel_rfl) (by kernel_rfl)) ?_
  intro W base args ds gs before hval0 hW hcnd _
  have hval : ∀ (j : Nat) t v, Try.f6.params[j]? = some t → args[j]? = some v → Value.okWide Try.prog W .any base t v := hval0
  have hW' := hW
  obtain ⟨p, q, hA0, hV, rfl, hfz, hnd⟩ := hW
  have hA : DataW.TrodAll enc Try.prog W 0 (fun _ => true) true Try.f6.params.toList args.toList ds p := hA0
  rw [Try.params6] at hA hval
  obtain ⟨v0, vs0, d0, ds0, p0, q0, hargs, rfl, rfl, h0, r0⟩ := trodAll_cons hA
  obtain ⟨rfl, rfl, rfl⟩ := trodAll_nil r0
  obtain rfl : args = #[v0] := by cases args; simp_all
  obtain ⟨x0, u0, rfl, hr0, hf0⟩ := open_bun (hval 0 28 v0 rfl rfl) h0
  refine (walk x0 u0 W hr0 hf0).mono fun e W' ⟨he, hB⟩ => ?_
  subst he
  refine ⟨_, rfl, law_post (by kernel_rfl) (by kernel_rfl) rfl Try.underlying4 rfl ?_ hW' hB⟩
  intro es hes
  match es, hes with
  | [_], _ => rfl

theorem proved : Rows.AggregateBackSaid :=
  OpenClaim.holds_of_wide 6 Try.f6 rfl rfl rfl rfl rfl rfl rfl ⟨rfl, rfl, rfl, rfl, rfl⟩ rfl rfl rfl rfl rfl (by kernel_rfl) Try.func6 (by kernel_rfl)
    (of_decide_eq_true (by kernel_rfl)) (by unfold Func.isWrapper; first | (rw [if_pos (by decide +kernel)]; kernel_rfl) | (rw [if_neg (by decide +kernel)]; exact ⟨rfl, rfl⟩))
    (fun os started H enc _ => lifted os started H enc)
#print axioms proved
end Go.Proofs.Ytpkklmkeflddkaa.aggregateBack
