/-
  Proved: mailboatlaw20.ReportBundles returns true for every input, and leaves its arguments as they were. Under what the row lists, tied to the text.
-/
import Derived.Test.YtcmkpnjbnjbegaaDoorRows
import Derived.Test.YtcmkpnjbnjbegaaDoorVh
import Derived.Test.YtcmkpnjbnjbegaaDoorVr
import Derived.Test.YtcmkpnjbnjbegaaDoorVp
import Derived.Test.YtcmkpnjbnjbegaaDoorCards
import Derived.Test.YtcmkpnjbnjbegaaDoorTie
import Derived.SevenTiedAt
set_option linter.unusedVariables false
set_option linter.unusedSimpArgs false
namespace Go.Proofs.YtcmkpnjbnjbegaaDoor.reportBundles
open Go Go.ChangeShapes Go.WideShapes Go.ChangeAt Go.RowKit Go.Joins Go.Proofs.YtcmkpnjbnjbegaaDoor
attribute [local go_sem] B_getElem B_size B_app B_extract B_get B_toList

theorem own : ownKnob Tryd.prog.godebug = none := by kernel_rfl

attribute [local go_sem ↓] eqRepI
theorem wrapB_blocks (r : Rep) (seq life : Int) : (wrapB r seq life).blocks = [] := by
  unfold wrapB; split <;> rfl
set_option maxRecDepth 100000 in
set_option maxHeartbeats 8000000 in
theorem walk (b : Bun) (u : Value) (kind : Int) (r : Rep) (seq life : Int) (w : World) (h : RBlks w w.heap.size u b.blocks) (hf : Fits b) (hT : Tabs w) :
    Calls Tryd.prog 7 #[.agg (bunC b u).toArray, .int .i64 kind, repV r, .int .i64 seq, .int .i64 life] w (Says w) := by
  unfold Says
  have HF := Lib.hid hf
  have HR := Lib.hid h
  obtain ⟨a, c, rfl, h1, h2, h3, h4⟩ := h
  clear h1 h2 h3 h4 hf
  obtain ⟨X, hX⟩ : ∃ q, wrapB r seq life = q := ⟨_, rfl⟩
  obtain ⟨WE, hWE⟩ : ∃ q, wrapE r seq life = q := ⟨_, rfl⟩
  obtain ⟨⟨U, UE⟩, hU⟩ : ∃ q, unwS b = q := ⟨_, rfl⟩
  obtain ⟨WT, hWT⟩ : ∃ q, wantB b kind = q := ⟨_, rfl⟩
  have HXN : ∀ w : World, Hid (RBlks w w.heap.size (.slice none 0 0) X.blocks) := fun w => Lib.hid (by rw [← hX, wrapB_blocks]; exact RBlks.nil _ _)
  have HX := Lib.hid hX
  have HWE := Lib.hid hWE
  have HU := Lib.hid hU
  have HWT := Lib.hid hWT
  have hD : eqR U U = true := eqR_iff.2 rfl
  clear hX hWE hU hWT
  unfold repV
  go_enter Tryd.func7, Tryd.ntmps7
  simp only [bunC]
  go_wp2_with fail
  refine (lgreat_any b _ _ (HR.out.below' (by repeat' (first | (with_reducible refine bset ?_ ?_) | (with_reducible exact Below.refl _ _) | (with_reducible assumption) | (with_reducible refine bdrewN ?_ _) | (with_reducible refine bdrew ?_) | (with_reducible refine balloc0 ?_) | (with_reducible refine balloc ?_ ?_) | (with_reducible apply btrans0; rotate_left; with_reducible assumption) | (with_reducible apply btrans; rotate_left; with_reducible assumption) | exact Below.refl _ _ | assumption | (apply btrans0; rotate_left; assumption) | (apply btrans; rotate_left; assumption) | (simp; done) | omega | (simp; omega)))) HF.out).mono ?_
  rintro e w1 ⟨g, rfl, hb1⟩
  have hB1 : Below w.heap.size w w1 := (by repeat' (first | (with_reducible refine bset ?_ ?_) | (with_reducible exact Below.refl _ _) | (with_reducible assumption) | (with_reducible refine bdrewN ?_ _) | (with_reducible refine bdrew ?_) | (with_reducible refine balloc0 ?_) | (with_reducible refine balloc ?_ ?_) | (with_reducible apply btrans0; rotate_left; with_reducible assumption) | (with_reducible apply btrans; rotate_left; with_reducible assumption) | exact Below.refl _ _ | assumption | (apply btrans0; rotate_left; assumption) | (apply btrans; rotate_left; assumption) | (simp; done) | omega | (simp; omega)))
  have zr1 : w.heap.size + 1 < w1.heap.size := by have := hb1.size; simp at this; omega
  have zb1 : w.heap.size < w1.heap.size := by omega
  have b1 : w1.heap[w.heap.size]? = some (.cells (bunC b (.slice a b.blocks.length c)).toArray 36 (0, 0)) := (hb1.block _ (by simp; omega)).trans ((Below.heap_alloc _ _ _ (by simp)).trans heap_new)
  have r1 : w1.heap[w.heap.size + 1]? = some (.cells (repA r) 25 (0, 0)) := (hb1.block _ (by simp)).trans (heap_new' (by simp))
  have Hb1 := Lib.hid b1
  have Hr1 := Lib.hid r1
  have cb1 := fun o => cellB b1 o
  have cr1 := fun o => cellB r1 o
  simp only [bunC] at cb1
  simp only [repA] at cr1
  clear b1 r1 hb1
  cases g with
  | true =>
    go_wp2_with fail
    refine (awake_any _ (hT.stays (by repeat' (first | (with_reducible refine bset ?_ ?_) | (with_reducible exact Below.refl _ _) | (with_reducible assumption) | (with_reducible refine bdrewN ?_ _) | (with_reducible refine bdrew ?_) | (with_reducible refine balloc0 ?_) | (with_reducible refine balloc ?_ ?_) | (with_reducible apply btrans0; rotate_left; with_reducible assumption) | (with_reducible apply btrans; rotate_left; with_reducible assumption) | exact Below.refl _ _ | assumption | (apply btrans0; rotate_left; assumption) | (apply btrans; rotate_left; assumption) | (simp; done) | omega | (simp; omega))))).mono ?_
    rintro e w99 ⟨rfl, hb99⟩
    go_wp2
    go_ret
    exact ⟨rfl, (by repeat' (first | (with_reducible refine bset ?_ ?_) | (with_reducible exact Below.refl _ _) | (with_reducible assumption) | (with_reducible refine bdrewN ?_ _) | (with_reducible refine bdrew ?_) | (with_reducible refine balloc0 ?_) | (with_reducible refine balloc ?_ ?_) | (with_reducible apply btrans0; rotate_left; with_reducible assumption) | (with_reducible apply btrans; rotate_left; with_reducible assumption) | exact Below.refl _ _ | assumption | (apply btrans0; rotate_left; assumption) | (apply btrans; rotate_left; assumption) | (simp; done) | omega | (simp; omega)))⟩
  | false =>
    go_wp2_with fail
    refine (wrap_any r _ _ _).mono ?_
    unfold WrapPost
    rw [HX.out, HWE.out]
    simp only [bunC]
    rintro e w2 ⟨rfl, hb2⟩
    have hB2 : Below w.heap.size w w2 := (by repeat' (first | (with_reducible refine bset ?_ ?_) | (with_reducible exact Below.refl _ _) | (with_reducible assumption) | (with_reducible refine bdrewN ?_ _) | (with_reducible refine bdrew ?_) | (with_reducible refine balloc0 ?_) | (with_reducible refine balloc ?_ ?_) | (with_reducible apply btrans0; rotate_left; with_reducible assumption) | (with_reducible apply btrans; rotate_left; with_reducible assumption) | exact Below.refl _ _ | assumption | (apply btrans0; rotate_left; assumption) | (apply btrans; rotate_left; assumption) | (simp; done) | omega | (simp; omega)))
    have y2 : w1.heap.size ≤ w2.heap.size := by have := hb2.size; (try simp at this); omega
    have zb2 : w.heap.size < w2.heap.size := by omega
    have b2 := (hb2.block (w.heap.size) (by omega)).trans Hb1.out
    have zr2 : w.heap.size + 1 < w2.heap.size := by omega
    have r2 := (hb2.block (w.heap.size + 1) (by omega)).trans Hr1.out
    have Hb2 := Lib.hid b2
    have cb2 := fun o => cellB b2 o
    simp only [bunC] at cb2
    have Hr2 := Lib.hid r2
    have cr2 := fun o => cellB r2 o
    simp only [repA] at cr2
    clear b2 r2 cb1 cr1 hb2
    go_wp2_with fail
    refine (rwrap_any r _ _ _).mono ?_
    unfold WrapPost
    rw [HX.out, HWE.out]
    simp only [bunC]
    rintro e w3 ⟨rfl, hb3⟩
    have hB3 : Below w.heap.size w w3 := (by repeat' (first | (with_reducible refine bset ?_ ?_) | (with_reducible exact Below.refl _ _) | (with_reducible assumption) | (with_reducible refine bdrewN ?_ _) | (with_reducible refine bdrew ?_) | (with_reducible refine balloc0 ?_) | (with_reducible refine balloc ?_ ?_) | (with_reducible apply btrans0; rotate_left; with_reducible assumption) | (with_reducible apply btrans; rotate_left; with_reducible assumption) | exact Below.refl _ _ | assumption | (apply btrans0; rotate_left; assumption) | (apply btrans; rotate_left; assumption) | (simp; done) | omega | (simp; omega)))
    have y3 : w2.heap.size ≤ w3.heap.size := by have := hb3.size; (try simp at this); omega
    have zx3 : w2.heap.size < w3.heap.size := by have := hb3.size; simp at this; omega
    have zb3 : w.heap.size < w3.heap.size := by omega
    have b3 := (hb3.block (w.heap.size) (by simp; omega)).trans ((Below.heap_alloc _ _ _ zb2).trans Hb2.out)
    have zr3 : w.heap.size + 1 < w3.heap.size := by omega
    have r3 := (hb3.block (w.heap.size + 1) (by simp; omega)).trans ((Below.heap_alloc _ _ _ zr2).trans Hr2.out)
    have x3 : w3.heap[w2.heap.size]? = some (.cells (bunC X (.slice none 0 0)).toArray 36 (0, 0)) := (hb3.block _ (by simp)).trans heap_new
    have Hb3 := Lib.hid b3
    have cb3 := fun o => cellB b3 o
    simp only [bunC] at cb3
    have Hr3 := Lib.hid r3
    have cr3 := fun o => cellB r3 o
    simp only [repA] at cr3
    have Hx3 := Lib.hid x3
    have cx3 := fun o => cellB x3 o
    simp only [bunC] at cx3
    clear b3 r3 x3 cb2 cr2 hb3
    go_wp2_with fail
    refine (unwrap_any b _ _ (HR.out.below' (by repeat' (first | (with_reducible refine bset ?_ ?_) | (with_reducible exact Below.refl _ _) | (with_reducible assumption) | (with_reducible refine bdrewN ?_ _) | (with_reducible refine bdrew ?_) | (with_reducible refine balloc0 ?_) | (with_reducible refine balloc ?_ ?_) | (with_reducible apply btrans0; rotate_left; with_reducible assumption) | (with_reducible apply btrans; rotate_left; with_reducible assumption) | exact Below.refl _ _ | assumption | (apply btrans0; rotate_left; assumption) | (apply btrans; rotate_left; assumption) | (simp; done) | omega | (simp; omega)))) HF.out).mono ?_
    unfold UnwPost RepPost
    rw [HU.out]
    simp only
    unfold repV
    rintro e w4 ⟨rfl, hb4⟩
    have hB4 : Below w.heap.size w w4 := (by repeat' (first | (with_reducible refine bset ?_ ?_) | (with_reducible exact Below.refl _ _) | (with_reducible assumption) | (with_reducible refine bdrewN ?_ _) | (with_reducible refine bdrew ?_) | (with_reducible refine balloc0 ?_) | (with_reducible refine balloc ?_ ?_) | (with_reducible apply btrans0; rotate_left; with_reducible assumption) | (with_reducible apply btrans; rotate_left; with_reducible assumption) | exact Below.refl _ _ | assumption | (apply btrans0; rotate_left; assumption) | (apply btrans; rotate_left; assumption) | (simp; done) | omega | (simp; omega)))
    have y4 : w3.heap.size ≤ w4.heap.size := by have := hb4.size; (try simp at this); omega
    have zy4 : w3.heap.size < w4.heap.size := by have := hb4.size; simp at this; omega
    have zb4 : w.heap.size < w4.heap.size := by omega
    have b4 := (hb4.block (w.heap.size) (by simp; omega)).trans ((Below.heap_alloc _ _ _ zb3).trans Hb3.out)
    have zr4 : w.heap.size + 1 < w4.heap.size := by omega
    have r4 := (hb4.block (w.heap.size + 1) (by simp; omega)).trans ((Below.heap_alloc _ _ _ zr3).trans Hr3.out)
    have zx4 : w2.heap.size < w4.heap.size := by omega
    have x4 := (hb4.block (w2.heap.size) (by simp; omega)).trans ((Below.heap_alloc _ _ _ zx3).trans Hx3.out)
    have y4 : w4.heap[w3.heap.size]? = some (.cells (bunC X (.slice none 0 0)).toArray 36 (0, 0)) := (hb4.block _ (by simp)).trans heap_new
    have Hb4 := Lib.hid b4
    have cb4 := fun o => cellB b4 o
    simp only [bunC] at cb4
    have Hr4 := Lib.hid r4
    have cr4 := fun o => cellB r4 o
    simp only [repA] at cr4
    have Hx4 := Lib.hid x4
    have cx4 := fun o => cellB x4 o
    simp only [bunC] at cx4
    have Hy4 := Lib.hid y4
    have cy4 := fun o => cellB y4 o
    simp only [bunC] at cy4
    clear b4 r4 x4 y4 cb3 cr3 cx3 hb4
    go_wp2_with fail
    refine (runwrap_any b _ _ (HR.out.below' (by repeat' (first | (with_reducible refine bset ?_ ?_) | (with_reducible exact Below.refl _ _) | (with_reducible assumption) | (with_reducible refine bdrewN ?_ _) | (with_reducible refine bdrew ?_) | (with_reducible refine balloc0 ?_) | (with_reducible refine balloc ?_ ?_) | (with_reducible apply btrans0; rotate_left; with_reducible assumption) | (with_reducible apply btrans; rotate_left; with_reducible assumption) | exact Below.refl _ _ | assumption | (apply btrans0; rotate_left; assumption) | (apply btrans; rotate_left; assumption) | (simp; done) | omega | (simp; omega)))) HF.out).mono ?_
    unfold UnwPost RepPost
    rw [HU.out]
    simp only
    unfold repV
    rintro e w5 ⟨rfl, hb5⟩
    have hB5 : Below w.heap.size w w5 := (by repeat' (first | (with_reducible refine bset ?_ ?_) | (with_reducible exact Below.refl _ _) | (with_reducible assumption) | (with_reducible refine bdrewN ?_ _) | (with_reducible refine bdrew ?_) | (with_reducible refine balloc0 ?_) | (with_reducible refine balloc ?_ ?_) | (with_reducible apply btrans0; rotate_left; with_reducible assumption) | (with_reducible apply btrans; rotate_left; with_reducible assumption) | exact Below.refl _ _ | assumption | (apply btrans0; rotate_left; assumption) | (apply btrans; rotate_left; assumption) | (simp; done) | omega | (simp; omega)))
    have y5 : w4.heap.size ≤ w5.heap.size := by have := hb5.size; (try simp at this); omega
    have zz5 : w4.heap.size < w5.heap.size := by have := hb5.size; simp at this; omega
    have zb5 : w.heap.size < w5.heap.size := by omega
    have b5 := (hb5.block (w.heap.size) (by simp; omega)).trans ((Below.heap_alloc _ _ _ zb4).trans Hb4.out)
    have zr5 : w.heap.size + 1 < w5.heap.size := by omega
    have r5 := (hb5.block (w.heap.size + 1) (by simp; omega)).trans ((Below.heap_alloc _ _ _ zr4).trans Hr4.out)
    have zx5 : w2.heap.size < w5.heap.size := by omega
    have x5 := (hb5.block (w2.heap.size) (by simp; omega)).trans ((Below.heap_alloc _ _ _ zx4).trans Hx4.out)
    have zy5 : w3.heap.size < w5.heap.size := by omega
    have y5 := (hb5.block (w3.heap.size) (by simp; omega)).trans ((Below.heap_alloc _ _ _ zy4).trans Hy4.out)
    have z5 : w5.heap[w4.heap.size]? = some (.cells (repA U) 25 (0, 0)) := (hb5.block _ (by simp)).trans heap_new
    have Hb5 := Lib.hid b5
    have cb5 := fun o => cellB b5 o
    simp only [bunC] at cb5
    have Hr5 := Lib.hid r5
    have cr5 := fun o => cellB r5 o
    simp only [repA] at cr5
    have Hx5 := Lib.hid x5
    have cx5 := fun o => cellB x5 o
    simp only [bunC] at cx5
    have Hy5 := Lib.hid y5
    have cy5 := fun o => cellB y5 o
    simp only [bunC] at cy5
    have Hz5 := Lib.hid z5
    have cz5 := fun o => cellB z5 o
    simp only [repA] at cz5
    clear b5 r5 x5 y5 z5 cb4 cr4 cx4 cy4 hb5
    go_wp2
    have hB6 : Below w.heap.size w (w5.alloc (.cells (repA U) 25)) := (by repeat' (first | (with_reducible refine bset ?_ ?_) | (with_reducible exact Below.refl _ _) | (with_reducible assumption) | (with_reducible refine bdrewN ?_ _) | (with_reducible refine bdrew ?_) | (with_reducible refine balloc0 ?_) | (with_reducible refine balloc ?_ ?_) | (with_reducible apply btrans0; rotate_left; with_reducible assumption) | (with_reducible apply btrans; rotate_left; with_reducible assumption) | exact Below.refl _ _ | assumption | (apply btrans0; rotate_left; assumption) | (apply btrans; rotate_left; assumption) | (simp; done) | omega | (simp; omega)))
    have cb6 := fun o => cellB ((Below.heap_alloc w5 (.cells (repA U) 25) _ zb5).trans Hb5.out) o
    have cx6 := fun o => cellB ((Below.heap_alloc w5 (.cells (repA U) 25) _ zx5).trans Hx5.out) o
    have cy6 := fun o => cellB ((Below.heap_alloc w5 (.cells (repA U) 25) _ zy5).trans Hy5.out) o
    have cz6 := fun o => cellB ((Below.heap_alloc w5 (.cells (repA U) 25) _ zz5).trans Hz5.out) o
    have cw6 : ∀ o, (w5.alloc (.cells (repA U) 25)).cell? ⟨w5.heap.size, o, none⟩ = (repA U)[o]? := fun o => cellB heap_new o
    have zw6 : w5.heap.size < (w5.alloc (.cells (repA U) 25)).heap.size := by simp
    have zb6 : w.heap.size < (w5.alloc (.cells (repA U) 25)).heap.size := by simp; omega
    have zx6 : w2.heap.size < (w5.alloc (.cells (repA U) 25)).heap.size := by simp; omega
    have zy6 : w3.heap.size < (w5.alloc (.cells (repA U) 25)).heap.size := by simp; omega
    have zz6 : w4.heap.size < (w5.alloc (.cells (repA U) 25)).heap.size := by simp; omega
    simp only [bunC] at cb6 cx6 cy6
    simp only [repA] at cb6 cx6 cy6 cz6 cw6 hB6 zb6 zx6 zy6 zz6 zw6
    clear cb5 cr5 cx5 cy5 cz5 hB1 hB2 hB3 hB4 hB5
    generalize w5.alloc (.cells _ _) = w6 at *
    refine wp_region_plan (fun V => Below (w6).heap.size (w6) V) [1, 0, 2, 1, 0, 2, 0, 0, 1, 1, 2, 0, 0, 0, 0, 0, 0, 0, 1, 1, 0, 0, 0, 0, 0, 0, 0, 0, 3, 0, 0] [0, 1, 3, 4, 2, 5, 6, 7, 8, 9, 10, 11, 12, 13, 14, 15, 16, 17, 18, 19, 20, 21, 22, 23, 24, 25, 26, 27, 28, 29, 30] (by kernel_rfl) (by kernel_rfl) ?_ ?_
    case refine_1 => exact (by repeat' (first | (with_reducible refine bset ?_ ?_) | (with_reducible exact Below.refl _ _) | (with_reducible assumption) | (with_reducible refine bdrewN ?_ _) | (with_reducible refine bdrew ?_) | (with_reducible refine balloc0 ?_) | (with_reducible refine balloc ?_ ?_) | (with_reducible apply btrans0; rotate_left; with_reducible assumption) | (with_reducible apply btrans; rotate_left; with_reducible assumption) | exact Below.refl _ _ | assumption | (apply btrans0; rotate_left; assumption) | (apply btrans; rotate_left; assumption) | (simp; done) | omega | (simp; omega)))
    (iterate 4 (first | (refine plan_held rfl (by decide) (by rfl) (fun w1 hS => by (try (obtain ⟨_, _⟩ := bcell (hS rfl))); go_simp; rfl) ?_; simp only [Act.put, List.setIfInBounds_toArray, List.set_cons_zero, List.set_cons_succ]) | (refine plan_skip rfl (by decide) (by rfl) ?_; simp only [Act.put, List.setIfInBounds_toArray, List.set_cons_zero, List.set_cons_succ])))
    (refine plan_keep rfl rfl (by rfl) (fun K hK => ?_); go_simp)
    refine (wanted_any b _ kind _ (HR.out.below' (by repeat' (first | (with_reducible refine bset ?_ ?_) | (with_reducible exact Below.refl _ _) | (with_reducible assumption) | (with_reducible refine bdrewN ?_ _) | (with_reducible refine bdrew ?_) | (with_reducible refine balloc0 ?_) | (with_reducible refine balloc ?_ ?_) | (with_reducible apply btrans0; rotate_left; with_reducible assumption) | (with_reducible apply btrans; rotate_left; with_reducible assumption) | exact Below.refl _ _ | assumption | (apply btrans0; rotate_left; assumption) | (apply btrans; rotate_left; assumption) | (simp; done) | omega | (simp; omega)))) HF.out).mono ?_
    rw [HWT.out]
    rintro e wc48 ⟨rfl, hbc48⟩
    (refine hK _ _ (by exact (by repeat' (first | (with_reducible refine bset ?_ ?_) | (with_reducible exact Below.refl _ _) | (with_reducible assumption) | (with_reducible refine bdrewN ?_ _) | (with_reducible refine bdrew ?_) | (with_reducible refine balloc0 ?_) | (with_reducible refine balloc ?_ ?_) | (with_reducible apply btrans0; rotate_left; with_reducible assumption) | (with_reducible apply btrans; rotate_left; with_reducible assumption) | exact Below.refl _ _ | assumption | (apply btrans0; rotate_left; assumption) | (apply btrans; rotate_left; assumption) | (simp; done) | omega | (simp; omega)))) ?_; clear hK K; (try simp only [Act.put, List.setIfInBounds_toArray, List.set_cons_zero, List.set_cons_succ]))
    (refine plan_keep rfl rfl (by rfl) (fun K hK => ?_); go_simp)
    refine (rwanted_any b _ kind _ (HR.out.below' (by repeat' (first | (with_reducible refine bset ?_ ?_) | (with_reducible exact Below.refl _ _) | (with_reducible assumption) | (with_reducible refine bdrewN ?_ _) | (with_reducible refine bdrew ?_) | (with_reducible refine balloc0 ?_) | (with_reducible refine balloc ?_ ?_) | (with_reducible apply btrans0; rotate_left; with_reducible assumption) | (with_reducible apply btrans; rotate_left; with_reducible assumption) | exact Below.refl _ _ | assumption | (apply btrans0; rotate_left; assumption) | (apply btrans; rotate_left; assumption) | (simp; done) | omega | (simp; omega)))) HF.out).mono ?_
    rw [HWT.out]
    rintro e wc51 ⟨rfl, hbc51⟩
    (refine hK _ _ (by exact (by repeat' (first | (with_reducible refine bset ?_ ?_) | (with_reducible exact Below.refl _ _) | (with_reducible assumption) | (with_reducible refine bdrewN ?_ _) | (with_reducible refine bdrew ?_) | (with_reducible refine balloc0 ?_) | (with_reducible refine balloc ?_ ?_) | (with_reducible apply btrans0; rotate_left; with_reducible assumption) | (with_reducible apply btrans; rotate_left; with_reducible assumption) | exact Below.refl _ _ | assumption | (apply btrans0; rotate_left; assumption) | (apply btrans; rotate_left; assumption) | (simp; done) | omega | (simp; omega)))) ?_; clear hK K; (try simp only [Act.put, List.setIfInBounds_toArray, List.set_cons_zero, List.set_cons_succ]))
    (iterate 4 (first | (refine plan_held rfl (by decide) (by rfl) (fun w1 hS => by (try (obtain ⟨_, _⟩ := bcell (hS rfl))); go_simp; rfl) ?_; simp only [Act.put, List.setIfInBounds_toArray, List.set_cons_zero, List.set_cons_succ]) | (refine plan_skip rfl (by decide) (by rfl) ?_; simp only [Act.put, List.setIfInBounds_toArray, List.set_cons_zero, List.set_cons_succ])))
    (refine plan_keep rfl rfl (by rfl) (fun K hK => ?_); go_simp)
    refine (lsame_any X _ _ _ (HXN _).out (HXN _).out).mono ?_
    rintro e wc56 ⟨rfl, hbc56⟩
    (refine hK _ _ (by exact (by repeat' (first | (with_reducible refine bset ?_ ?_) | (with_reducible exact Below.refl _ _) | (with_reducible assumption) | (with_reducible refine bdrewN ?_ _) | (with_reducible refine bdrew ?_) | (with_reducible refine balloc0 ?_) | (with_reducible refine balloc ?_ ?_) | (with_reducible apply btrans0; rotate_left; with_reducible assumption) | (with_reducible apply btrans; rotate_left; with_reducible assumption) | exact Below.refl _ _ | assumption | (apply btrans0; rotate_left; assumption) | (apply btrans; rotate_left; assumption) | (simp; done) | omega | (simp; omega)))) ?_; clear hK K; (try simp only [Act.put, List.setIfInBounds_toArray, List.set_cons_zero, List.set_cons_succ]))
    (iterate 17 (first | (refine plan_held rfl (by decide) (by rfl) (fun w1 hS => by (try (obtain ⟨_, _⟩ := bcell (hS rfl))); go_simp; rfl) ?_; simp only [Act.put, List.setIfInBounds_toArray, List.set_cons_zero, List.set_cons_succ]) | (refine plan_skip rfl (by decide) (by rfl) ?_; simp only [Act.put, List.setIfInBounds_toArray, List.set_cons_zero, List.set_cons_succ])))
    (refine plan_late rfl rfl (by rfl) (fun K hK => ?_); go_simp)
    refine (awake_any _ (hT.stays (by repeat' (first | (with_reducible refine bset ?_ ?_) | (with_reducible exact Below.refl _ _) | (with_reducible assumption) | (with_reducible refine bdrewN ?_ _) | (with_reducible refine bdrew ?_) | (with_reducible refine balloc0 ?_) | (with_reducible refine balloc ?_ ?_) | (with_reducible apply btrans0; rotate_left; with_reducible assumption) | (with_reducible apply btrans; rotate_left; with_reducible assumption) | exact Below.refl _ _ | assumption | (apply btrans0; rotate_left; assumption) | (apply btrans; rotate_left; assumption) | (simp; done) | omega | (simp; omega))))).mono ?_
    rintro e wc74 ⟨rfl, hbc74⟩
    (refine hK _ _ ?_; clear hK K; (try simp only [Act.put, List.setIfInBounds_toArray, List.set_cons_zero, List.set_cons_succ]))
    (iterate 2 (first | (refine plan_held rfl (by decide) (by rfl) (fun w1 hS => by (try (obtain ⟨_, _⟩ := bcell (hS rfl))); go_simp; rfl) ?_; simp only [Act.put, List.setIfInBounds_toArray, List.set_cons_zero, List.set_cons_succ]) | (refine plan_skip rfl (by decide) (by rfl) ?_; simp only [Act.put, List.setIfInBounds_toArray, List.set_cons_zero, List.set_cons_succ])))
    refine plan_done ?_
    go_wp2
    go_ret
    exact ⟨rfl, (by repeat' (first | (with_reducible refine bset ?_ ?_) | (with_reducible exact Below.refl _ _) | (with_reducible assumption) | (with_reducible refine bdrewN ?_ _) | (with_reducible refine bdrew ?_) | (with_reducible refine balloc0 ?_) | (with_reducible refine balloc ?_ ?_) | (with_reducible apply btrans0; rotate_left; with_reducible assumption) | (with_reducible apply btrans; rotate_left; with_reducible assumption) | exact Below.refl _ _ | assumption | (apply btrans0; rotate_left; assumption) | (apply btrans; rotate_left; assumption) | (simp; done) | omega | (simp; omega)))⟩

set_option maxRecDepth 100000 in
theorem lifted (os : Os) (started : os.Started) (H : Type) (enc : TypeId × Value → H) :
    ReturnsInHanded {} Tryd.checked os 7 .any (fun w args => (Rows.reportBundlesSpec.pre enc Tryd.prog Tryd.f7 Rows.reportBundlesRow.domain false w args ∧ laidMetH Tryd.prog laid5 w) ∧ sizedMet enc Tryd.prog Tryd.f7 (OpenSpec.ofChange Rows.reportBundlesSpec) false w args)
      (Rows.reportBundlesSpec.post enc Tryd.prog Tryd.f7 false true false false) := by
  refine returnsInHanded_of_change_and (C := Tryd.checked) (X := fun w _ => laidMetH Tryd.prog laid5 w) (fun _ _ _ hh h => h.of_heap hh) own started (by kernel_rfl) Tryd.func7
    (ChangeSpec.witness_at (enc := enc) (C := Tryd.checked) (os := os) (X := fun w _ => laidMetH Tryd.prog laid5 w) false (laidWorld os) #[.agg #[.int .i64 0, .int .i64 0, .int .i64 0, .int .i64 0, .int .i64 0, .int .i64 0, .int .i64 0, .int .i64 0, .int .i64 0, .int .i64 0, .slice none 0 0, .string (B [])], .int .i64 0, .agg #[.int .i64 0, .int .i64 0, .int .i64 0, .int .i64 0, .int .i64 0, .int .i64 0, .int .i64 0, .int .i64 0, .int .i64 0], .int .i64 0, .int .i64 0] 8 rfl (by kernel_rfl) (by kernel_rfl) (by kernel_rfl) (by kernel_rfl) (by kernel_rfl) (laid_met os _)) ?_
  intro W base args ds gs before hval0 hW hcnd _ hL _
  have hval : ∀ (j : Nat) t v, Tryd.f7.params[j]? = some t → args[j]? = some v → Value.okWide Tryd.prog W .any base t v := hval0
  have hW' := hW
  obtain ⟨p, q, hA0, hV, rfl, hfz, hnd⟩ := hW
  have hA : DataW.TrodAll enc Tryd.prog W 0 (fun _ => true) true Tryd.f7.params.toList args.toList ds p := hA0
  rw [Tryd.params7] at hA hval
  obtain ⟨v0, vs0, d0, ds0, p0, q0, hargs, rfl, rfl, h0, r0⟩ := trodAll_cons hA
  obtain ⟨v1, vs1, d1, ds1, p1, q1, rfl, rfl, rfl, h1, r1⟩ := trodAll_cons r0
  obtain ⟨v2, vs2, d2, ds2, p2, q2, rfl, rfl, rfl, h2, r2⟩ := trodAll_cons r1
  obtain ⟨v3, vs3, d3, ds3, p3, q3, rfl, rfl, rfl, h3, r3⟩ := trodAll_cons r2
  obtain ⟨v4, vs4, d4, ds4, p4, q4, rfl, rfl, rfl, h4, r4⟩ := trodAll_cons r3
  obtain ⟨rfl, rfl, rfl⟩ := trodAll_nil r4
  obtain rfl : args = #[v0, v1, v2, v3, v4] := by cases args; simp_all
  obtain ⟨x0, u0, rfl, hr0, hf0⟩ := open_bun (hval 0 36 v0 rfl rfl) h0
  obtain ⟨x1, rfl, _, _, wx1⟩ := open_int Tryd.underlying3 (hval 1 3 v1 rfl rfl) h1
  obtain ⟨x2, rfl⟩ := open_rep_arg (hval 2 25 v2 rfl rfl) h2
  obtain ⟨x3, rfl, _, _, wx3⟩ := open_int Tryd.underlying3 (hval 3 3 v3 rfl rfl) h3
  obtain ⟨x4, rfl, _, _, wx4⟩ := open_int Tryd.underlying3 (hval 4 3 v4 rfl rfl) h4
  refine (walk x0 u0 x1 x2 x3 x4 W hr0 hf0 (tabs_of_laid hL)).mono fun e W' ⟨he, hB⟩ => ?_
  subst he
  refine ⟨_, rfl, law_post (by kernel_rfl) (by kernel_rfl) rfl Tryd.underlying4 rfl ?_ hW' hB⟩
  intro es hes
  match es, hes with
  | [_, _, _, _, _], _ => rfl

theorem row : Rows.ReportBundlesSaid :=
  OpenClaim.holds_of_wide 7 Tryd.f7 rfl rfl rfl rfl rfl rfl rfl ⟨rfl, rfl, rfl, rfl, rfl⟩ rfl rfl rfl rfl rfl (by kernel_rfl) Tryd.func7 (by kernel_rfl)
    (of_decide_eq_true (by kernel_rfl)) (by unfold Func.isWrapper; first | (rw [if_pos (by decide +kernel)]; kernel_rfl) | (rw [if_neg (by decide +kernel)]; exact ⟨rfl, rfl⟩))
    (fun os started H enc _ => lifted os started H enc)
set_option maxRecDepth 100000 in
theorem proved : Rows.ReportBundlesCardSaid :=
  Claim7.holds_tied_plain_at .later [] [.data, .data, .data, .data, .data] true (true, "c3adbec164aad8dc57ec0e404f071e8c1abcc98f9f74296d1399b69f61a5471c") false
    row (fun _ h => by cases h) (by kernel_rfl) (fun _ h => by cases h) reportBundles_row_tie rfl ⟨rfl, rfl⟩ (by kernel_rfl) rfl
    (fun f fn hf hfn => by
      obtain rfl : f = 7 := Option.some.inj ((show Tryd.prog.funcNamed "mailboat/mailboatlaw20.ReportBundles" = some 7 by kernel_rfl).symm.trans hf) |>.symm
      obtain rfl : fn = Tryd.f7 := (Option.some.inj (Tryd.func7.symm.trans hfn)).symm
      exact ⟨by kernel_rfl, fun j t ht => by
        rw [Tryd.params7] at ht
        rcases j with _ | _ | _ | _ | _ | j
        · obtain rfl : 36 = t := by simpa using ht
          exact (by kernel_rfl)
        · obtain rfl : 3 = t := by simpa using ht
          exact (by kernel_rfl)
        · obtain rfl : 25 = t := by simpa using ht
          exact (by kernel_rfl)
        · obtain rfl : 3 = t := by simpa using ht
          exact (by kernel_rfl)
        · obtain rfl : 3 = t := by simpa using ht
          exact (by kernel_rfl)
        · simp at ht⟩)
    (by kernel_rfl)
#print axioms proved
end Go.Proofs.YtcmkpnjbnjbegaaDoor.reportBundles
