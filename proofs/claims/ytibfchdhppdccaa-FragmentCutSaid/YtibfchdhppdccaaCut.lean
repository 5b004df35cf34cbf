/-
  Proved: mailboatlaw17.FragmentCut returns true for every input, and leaves its arguments as they were. No condition.
-/
import Derived.Test.YtibfchdhppdccaaRows
import Derived.Test.YtibfchdhppdccaaGo
import Derived.Test.YtibfchdhppdccaaFf
import Derived.Test.YtibfchdhppdccaaR
import Derived.Test.YtibfchdhppdccaaL
set_option linter.unusedVariables false
set_option linter.unusedSimpArgs false
namespace Go.Proofs.Ytibfchdhppdccaa.fragmentCut
open Go Go.ChangeShapes Go.WideShapes Go.ChangeAt Go.RowKit Go.Joins Go.Proofs.Ytibfchdhppdccaa
attribute [local go_sem] B_getElem B_size B_app B_extract B_get B_toList
attribute [local go_sem] bunC
attribute [local go_sem ↓] eqBlk eqId eqEnd

theorem own : ownKnob Try.prog.godebug = none := by kernel_rfl

set_option maxRecDepth 100000 in
set_option maxHeartbeats 1600000 in
theorem walk (b : Bun) (u : Value) (f t : Int) (w : World) (h : RBlks w w.heap.size u b.blocks) (hf : Fits b) :
    Calls Try.prog 9 #[.agg (bunC b u).toArray, .int .i64 f, .int .i64 t] w (Says w) := by
  obtain ⟨ua, uc, rfl, _⟩ := id h
  have HR := Lib.hid h
  have HF := Lib.hid hf
  clear h hf
  go_enter Try.func9, Try.ntmps9
  simp only [bunC]
  go_wp2_with fail
  refine (lawGreat_any b _ _ (HR.out.below (C := w.heap.size) (by repeat' (first | (with_reducible refine bset ?_ ?_) | (with_reducible exact Below.refl _ _) | (with_reducible assumption) | (with_reducible refine bdrewN ?_ _) | (with_reducible refine bdrew ?_) | (with_reducible refine balloc0 ?_) | (with_reducible refine balloc ?_ ?_) | (with_reducible apply btrans0; rotate_left; with_reducible assumption) | (with_reducible apply btrans; rotate_left; with_reducible assumption) | exact Below.refl _ _ | assumption | (apply btrans0; rotate_left; assumption) | (apply btrans; rotate_left; assumption) | (simp; done) | omega | (simp; omega))) (Nat.le_refl _) (by simp)) HF.out).mono ?_
  rintro e w1 ⟨g, rfl, hb1⟩
  obtain ⟨k1, f1⟩ := bcell hb1
  have z1 : w.heap.size < w1.heap.size := by have := hb1.size; simp at this; omega
  cases g
  case true =>
    go_wp2_with fail
    refine (awake_any _).mono ?_
    rintro e w2 ⟨rfl, hb2⟩
    go_wp2
    go_ret
    exact ⟨rfl, (by repeat' (first | (with_reducible refine bset ?_ ?_) | (with_reducible exact Below.refl _ _) | (with_reducible assumption) | (with_reducible refine bdrewN ?_ _) | (with_reducible refine bdrew ?_) | (with_reducible refine balloc0 ?_) | (with_reducible refine balloc ?_ ?_) | (with_reducible apply btrans0; rotate_left; with_reducible assumption) | (with_reducible apply btrans; rotate_left; with_reducible assumption) | exact Below.refl _ _ | assumption | (apply btrans0; rotate_left; assumption) | (apply btrans; rotate_left; assumption) | (simp; done) | omega | (simp; omega)))⟩
  have hB1 : Below w.heap.size w w1 := (by repeat' (first | (with_reducible refine bset ?_ ?_) | (with_reducible exact Below.refl _ _) | (with_reducible assumption) | (with_reducible refine bdrewN ?_ _) | (with_reducible refine bdrew ?_) | (with_reducible refine balloc0 ?_) | (with_reducible refine balloc ?_ ?_) | (with_reducible apply btrans0; rotate_left; with_reducible assumption) | (with_reducible apply btrans; rotate_left; with_reducible assumption) | exact Below.refl _ _ | assumption | (apply btrans0; rotate_left; assumption) | (apply btrans; rotate_left; assumption) | (simp; done) | omega | (simp; omega)))
  obtain ⟨⟨s1, s2, s3⟩, hs⟩ : ∃ s, spanR b = s := ⟨_, rfl⟩
  go_wp2_with fail
  refine (spanr_any b _ _ (HR.out.below (C := w.heap.size) hB1 (Nat.le_refl _) (by omega)) HF.out).mono ?_
  rw [hs]
  rintro e w2 ⟨rfl, hb2⟩
  have hB2 : Below w.heap.size w w2 := (by repeat' (first | (with_reducible refine bset ?_ ?_) | (with_reducible exact Below.refl _ _) | (with_reducible assumption) | (with_reducible refine bdrewN ?_ _) | (with_reducible refine bdrew ?_) | (with_reducible refine balloc0 ?_) | (with_reducible refine balloc ?_ ?_) | (with_reducible apply btrans0; rotate_left; with_reducible assumption) | (with_reducible apply btrans; rotate_left; with_reducible assumption) | exact Below.refl _ _ | assumption | (apply btrans0; rotate_left; assumption) | (apply btrans; rotate_left; assumption) | (simp; done) | omega | (simp; omega)))
  have l2 : w1.heap.size ≤ w2.heap.size := hb2.size
  have G1 : w1.heap[w.heap.size]? = some (.cells (bunC b (.slice ua b.blocks.length uc)).toArray 28 (0, 0)) := (hb1.block _ (by simp)).trans heap_new
  have G2 := (hb2.block w.heap.size (by omega)).trans G1
  clear k1 f1 hb1
  have y2 : w.heap.size < w2.heap.size := by omega
  have ca := fun o => cellB G2 o
  simp only [bunC] at ca
  go_wp2_with fail
  have hB3 : Below w.heap.size w (w2.alloc (.cells #[.int .i64 s1, .int .i64 s2] 46)) := (by repeat' (first | (with_reducible refine bset ?_ ?_) | (with_reducible exact Below.refl _ _) | (with_reducible assumption) | (with_reducible refine bdrewN ?_ _) | (with_reducible refine bdrew ?_) | (with_reducible refine balloc0 ?_) | (with_reducible refine balloc ?_ ?_) | (with_reducible apply btrans0; rotate_left; with_reducible assumption) | (with_reducible apply btrans; rotate_left; with_reducible assumption) | exact Below.refl _ _ | assumption | (apply btrans0; rotate_left; assumption) | (apply btrans; rotate_left; assumption) | (simp; done) | omega | (simp; omega)))
  refine (rspanr_any b _ _ (HR.out.below (C := w.heap.size) hB3 (Nat.le_refl _) (by simp; omega)) HF.out).mono ?_
  rw [hs]
  rintro e w3 ⟨rfl, hb3⟩
  have hB4 : Below w.heap.size w w3 := (by repeat' (first | (with_reducible refine bset ?_ ?_) | (with_reducible exact Below.refl _ _) | (with_reducible assumption) | (with_reducible refine bdrewN ?_ _) | (with_reducible refine bdrew ?_) | (with_reducible refine balloc0 ?_) | (with_reducible refine balloc ?_ ?_) | (with_reducible apply btrans0; rotate_left; with_reducible assumption) | (with_reducible apply btrans; rotate_left; with_reducible assumption) | exact Below.refl _ _ | assumption | (apply btrans0; rotate_left; assumption) | (apply btrans; rotate_left; assumption) | (simp; done) | omega | (simp; omega)))
  have l3 : w2.heap.size < w3.heap.size := by have := hb3.size; simp at this; omega
  have G3 := (hb3.block w.heap.size (by simp; omega)).trans ((Below.heap_alloc _ _ _ (by omega)).trans G2)
  have X3 : w3.heap[w2.heap.size]? = some (.cells #[.int .i64 s1, .int .i64 s2] 46 (0, 0)) := (hb3.block _ (by simp)).trans heap_new
  clear hb2 hb3 ca hB3
  have y3 : w.heap.size < w3.heap.size := by omega
  have ca := fun o => cellB G3 o
  simp only [bunC] at ca
  go_wp2_with fail
  have hB5 : Below w.heap.size w (w3.alloc (.cells #[.int .i64 s1, .int .i64 s2] 46)) := (by repeat' (first | (with_reducible refine bset ?_ ?_) | (with_reducible exact Below.refl _ _) | (with_reducible assumption) | (with_reducible refine bdrewN ?_ _) | (with_reducible refine bdrew ?_) | (with_reducible refine balloc0 ?_) | (with_reducible refine balloc ?_ ?_) | (with_reducible apply btrans0; rotate_left; with_reducible assumption) | (with_reducible apply btrans; rotate_left; with_reducible assumption) | exact Below.refl _ _ | assumption | (apply btrans0; rotate_left; assumption) | (apply btrans; rotate_left; assumption) | (simp; done) | omega | (simp; omega)))
  refine (cutr_any b _ f t w.heap.size _ (by simp; omega) (HR.out.below (C := w.heap.size) hB5 (Nat.le_refl _) (Nat.le_refl _)) HF.out).mono ?_
  obtain ⟨⟨c, ce⟩, hc⟩ : ∃ x, cutR b f t = x := ⟨_, rfl⟩
  rw [hc]
  rintro e w4 ⟨u4, rfl, hr4, hb4⟩
  have l4 : w3.heap.size < w4.heap.size := by have := hb4.size; simp at this; omega
  have R4 := hr4.bnd (by omega)
  obtain ⟨a4, c4, rfl, _⟩ := id hr4
  have hB6 : Below w.heap.size w w4 := (by repeat' (first | (with_reducible refine bset ?_ ?_) | (with_reducible exact Below.refl _ _) | (with_reducible assumption) | (with_reducible refine bdrewN ?_ _) | (with_reducible refine bdrew ?_) | (with_reducible refine balloc0 ?_) | (with_reducible refine balloc ?_ ?_) | (with_reducible apply btrans0; rotate_left; with_reducible assumption) | (with_reducible apply btrans; rotate_left; with_reducible assumption) | exact Below.refl _ _ | assumption | (apply btrans0; rotate_left; assumption) | (apply btrans; rotate_left; assumption) | (simp; done) | omega | (simp; omega)))
  have G4 := (hb4.block w.heap.size (by simp; omega)).trans ((Below.heap_alloc _ _ _ (by omega)).trans G3)
  have X4 := (hb4.block w2.heap.size (by simp; omega)).trans ((Below.heap_alloc _ _ _ (by omega)).trans X3)
  have Y4 : w4.heap[w3.heap.size]? = some (.cells #[.int .i64 s1, .int .i64 s2] 46 (0, 0)) := (hb4.block _ (by simp)).trans heap_new
  clear ca hB5 hb4
  have y4 : w.heap.size < w4.heap.size := by omega
  have ca := fun o => cellB G4 o
  simp only [bunC] at ca
  go_wp2_with fail
  have hB7 : Below w.heap.size w (w4.alloc (.cells (bunC c (.slice a4 c.blocks.length c4)).toArray 28)) := (by repeat' (first | (with_reducible refine bset ?_ ?_) | (with_reducible exact Below.refl _ _) | (with_reducible assumption) | (with_reducible refine bdrewN ?_ _) | (with_reducible refine bdrew ?_) | (with_reducible refine balloc0 ?_) | (with_reducible refine balloc ?_ ?_) | (with_reducible apply btrans0; rotate_left; with_reducible assumption) | (with_reducible apply btrans; rotate_left; with_reducible assumption) | exact Below.refl _ _ | assumption | (apply btrans0; rotate_left; assumption) | (apply btrans; rotate_left; assumption) | (simp; done) | omega | (simp; omega)))
  refine (rcutr_any b _ f t w.heap.size _ (by simp; omega) (HR.out.below (C := w.heap.size) hB7 (Nat.le_refl _) (Nat.le_refl _)) HF.out).mono ?_
  rw [hc]
  rintro e w5 ⟨u5, rfl, hr5, hb5⟩
  have l5 : w4.heap.size < w5.heap.size := by have := hb5.size; simp at this; omega
  have R5 := hr5.bnd (by omega)
  obtain ⟨a5, c5, rfl, _⟩ := id hr5
  have hB8 : Below w.heap.size w w5 := (by repeat' (first | (with_reducible refine bset ?_ ?_) | (with_reducible exact Below.refl _ _) | (with_reducible assumption) | (with_reducible refine bdrewN ?_ _) | (with_reducible refine bdrew ?_) | (with_reducible refine balloc0 ?_) | (with_reducible refine balloc ?_ ?_) | (with_reducible apply btrans0; rotate_left; with_reducible assumption) | (with_reducible apply btrans; rotate_left; with_reducible assumption) | exact Below.refl _ _ | assumption | (apply btrans0; rotate_left; assumption) | (apply btrans; rotate_left; assumption) | (simp; done) | omega | (simp; omega)))
  have G5 := (hb5.block w.heap.size (by simp; omega)).trans ((Below.heap_alloc _ _ _ (by omega)).trans G4)
  have X5 := (hb5.block w2.heap.size (by simp; omega)).trans ((Below.heap_alloc _ _ _ (by omega)).trans X4)
  have Y5 := (hb5.block w3.heap.size (by simp; omega)).trans ((Below.heap_alloc _ _ _ (by omega)).trans Y4)
  have Z5 : w5.heap[w4.heap.size]? = some (.cells (bunC c (.slice a4 c.blocks.length c4)).toArray 28 (0, 0)) := (hb5.block _ (by simp)).trans heap_new
  replace R4 := R4.keep (w' := w5) (M := w5.heap.size) (fun b o hb => (hb5.cell (p := ⟨b, o, none⟩) (by simp; omega)).trans (World.cell?_alloc_lt _ _ _ (by simp; omega))) (by omega)
  clear ca hB7 hb5 G1 G2 G3 G4 X3 X4 Y4 hB1 hB2 hB4 hB6
  have y5 : w.heap.size < w5.heap.size := by omega
  have ca := fun o => cellB G5 o
  simp only [bunC] at ca
  have hs1 := hs
  have QG := Lib.hid G5
  have QX := Lib.hid X5
  have QY := Lib.hid Y5
  have QZ := Lib.hid Z5
  have QR4 := Lib.hid R4
  have QR5 := Lib.hid R5
  clear G5 X5 Y5 Z5 R4 R5 hs hs1 hr4 hr5
  go_wp2_with fail
  clear ca
  have HB : Below w.heap.size w (w5.alloc (.cells (bunC c (.slice a5 c.blocks.length c5)).toArray 28)) := (by repeat' (first | (with_reducible refine bset ?_ ?_) | (with_reducible exact Below.refl _ _) | (with_reducible assumption) | (with_reducible refine bdrewN ?_ _) | (with_reducible refine bdrew ?_) | (with_reducible refine balloc0 ?_) | (with_reducible refine balloc ?_ ?_) | (with_reducible apply btrans0; rotate_left; with_reducible assumption) | (with_reducible apply btrans; rotate_left; with_reducible assumption) | exact Below.refl _ _ | assumption | (apply btrans0; rotate_left; assumption) | (apply btrans; rotate_left; assumption) | (simp; done) | omega | (simp; omega)))
  have NG := (Below.heap_alloc w5 (.cells (bunC c (.slice a5 c.blocks.length c5)).toArray 28) _ (by omega)).trans QG.out
  have NX := (Below.heap_alloc w5 (.cells (bunC c (.slice a5 c.blocks.length c5)).toArray 28) _ (by omega)).trans QX.out
  have NY := (Below.heap_alloc w5 (.cells (bunC c (.slice a5 c.blocks.length c5)).toArray 28) _ (by omega)).trans QY.out
  have NZ := (Below.heap_alloc w5 (.cells (bunC c (.slice a5 c.blocks.length c5)).toArray 28) _ (by omega)).trans QZ.out
  have NW : (w5.alloc (.cells (bunC c (.slice a5 c.blocks.length c5)).toArray 28)).heap[w5.heap.size]? = _ := heap_new
  have NR4 := QR4.out.below (C := w5.heap.size) (M := w5.heap.size + 1) (w' := w5.alloc (.cells (bunC c (.slice a5 c.blocks.length c5)).toArray 28)) (by repeat' (first | (with_reducible refine bset ?_ ?_) | (with_reducible exact Below.refl _ _) | (with_reducible assumption) | (with_reducible refine bdrewN ?_ _) | (with_reducible refine bdrew ?_) | (with_reducible refine balloc0 ?_) | (with_reducible refine balloc ?_ ?_) | (with_reducible apply btrans0; rotate_left; with_reducible assumption) | (with_reducible apply btrans; rotate_left; with_reducible assumption) | exact Below.refl _ _ | assumption | (apply btrans0; rotate_left; assumption) | (apply btrans; rotate_left; assumption) | (simp; done) | omega | (simp; omega))) (Nat.le_refl _) (by omega)
  have NR5 := QR5.out.below (C := w5.heap.size) (M := w5.heap.size + 1) (w' := w5.alloc (.cells (bunC c (.slice a5 c.blocks.length c5)).toArray 28)) (by repeat' (first | (with_reducible refine bset ?_ ?_) | (with_reducible exact Below.refl _ _) | (with_reducible assumption) | (with_reducible refine bdrewN ?_ _) | (with_reducible refine bdrew ?_) | (with_reducible refine balloc0 ?_) | (with_reducible refine balloc ?_ ?_) | (with_reducible apply btrans0; rotate_left; with_reducible assumption) | (with_reducible apply btrans; rotate_left; with_reducible assumption) | exact Below.refl _ _ | assumption | (apply btrans0; rotate_left; assumption) | (apply btrans; rotate_left; assumption) | (simp; done) | omega | (simp; omega))) (Nat.le_refl _) (by omega)
  have NS : (w5.alloc (.cells (bunC c (.slice a5 c.blocks.length c5)).toArray 28)).heap.size = w5.heap.size + 1 := by simp
  simp only [bunC] at HB NG NX NY NZ NW NR4 NR5 NS
  clear QG QX QY QZ QR4 QR5
  generalize w5.alloc (.cells _ _) = W at *
  have CG := fun o => cellB NG o
  have CX := fun o => cellB NX o
  have CY := fun o => cellB NY o
  have CZ := fun o => cellB NZ o
  have CW := fun o => cellB NW o
  refine wp_region_plan (fun V => (∀ o, V.cell? ⟨w.heap.size, o, none⟩ = (bunC b (.slice ua b.blocks.length uc)).toArray[o]?) ∧ (∀ o, V.cell? ⟨w2.heap.size, o, none⟩ = #[Value.int .i64 s1, .int .i64 s2][o]?) ∧ (∀ o, V.cell? ⟨w3.heap.size, o, none⟩ = #[Value.int .i64 s1, .int .i64 s2][o]?) ∧ (∀ o, V.cell? ⟨w4.heap.size, o, none⟩ = (bunC c (.slice a4 c.blocks.length c4)).toArray[o]?) ∧ (∀ o, V.cell? ⟨w5.heap.size, o, none⟩ = (bunC c (.slice a5 c.blocks.length c5)).toArray[o]?)) [1, 2, 1, 2, 0, 0, 1, 1, 0, 0, 0, 0, 0, 0, 0, 0, 1, 1, 3, 0, 0, 0, 0, 0, 0, 0, 3, 0, 0] [0, 2, 1, 3, 4, 5, 6, 7, 8, 9, 10, 11, 12, 13, 14, 15, 16, 17, 18, 19, 20, 21, 22, 23, 24, 25, 26, 27, 28] (by kernel_rfl) (by kernel_rfl) ?_ ?_
  case refine_1 => exact ⟨CG, CX, CY, CZ, CW⟩
  (iterate 2 (refine plan_held rfl (by decide) (by rfl) (fun w1 hS => by (try (have hS := hS rfl; obtain hS := hS; repeat (obtain ⟨_, hS⟩ := hS))); go_simp; rfl) ?_; simp only [Act.put, List.setIfInBounds_toArray, List.set_cons_zero, List.set_cons_succ]))
  (refine plan_keep rfl rfl (by rfl) (fun K hK => ?_); go_simp)
  refine (is_any b _ W.drew (HR.out.below (C := w.heap.size) (show Below w.heap.size w W.drew from bdrew HB) (Nat.le_refl _) (by simp; omega)) HF.out).mono ?_
  rintro e w6 ⟨rfl, hb6⟩
  have l6 : W.heap.size ≤ w6.heap.size := by have := hb6.size; simpa using this
  have kk : ∀ g o, g < W.heap.size → w6.cell? ⟨g, o, none⟩ = W.cell? ⟨g, o, none⟩ := fun g o hg => hb6.cell (p := ⟨g, o, none⟩) (by simpa using hg)
  (refine hK _ _ (by exact ⟨fun o => (kk _ _ (by omega)).trans (CG o), fun o => (kk _ _ (by omega)).trans (CX o), fun o => (kk _ _ (by omega)).trans (CY o), fun o => (kk _ _ (by omega)).trans (CZ o), fun o => (kk _ _ (by omega)).trans (CW o)⟩) ?_; clear hK K; (try simp only [Act.put, List.setIfInBounds_toArray, List.set_cons_zero, List.set_cons_succ]))
  have B6 : Below w.heap.size w w6 := (by repeat' (first | (with_reducible refine bset ?_ ?_) | (with_reducible exact Below.refl _ _) | (with_reducible assumption) | (with_reducible refine bdrewN ?_ _) | (with_reducible refine bdrew ?_) | (with_reducible refine balloc0 ?_) | (with_reducible refine balloc ?_ ?_) | (with_reducible apply btrans0; rotate_left; with_reducible assumption) | (with_reducible apply btrans; rotate_left; with_reducible assumption) | exact Below.refl _ _ | assumption | (apply btrans0; rotate_left; assumption) | (apply btrans; rotate_left; assumption) | (simp; done) | omega | (simp; omega)))
  (refine plan_keep rfl rfl (by rfl) (fun K hK => ?_); go_simp)
  refine (ris_any b _ w6 (HR.out.below (C := w.heap.size) B6 (Nat.le_refl _) (by omega)) HF.out).mono ?_
  rintro e w7 ⟨rfl, hb7⟩
  have l7 : w6.heap.size ≤ w7.heap.size := hb7.size
  have kk2 : ∀ g o, g < W.heap.size → w7.cell? ⟨g, o, none⟩ = W.cell? ⟨g, o, none⟩ := fun g o hg => (hb7.cell (p := ⟨g, o, none⟩) (by show g < _; omega)).trans (kk g o hg)
  (refine hK _ _ (by exact ⟨fun o => (kk2 _ _ (by omega)).trans (CG o), fun o => (kk2 _ _ (by omega)).trans (CX o), fun o => (kk2 _ _ (by omega)).trans (CY o), fun o => (kk2 _ _ (by omega)).trans (CZ o), fun o => (kk2 _ _ (by omega)).trans (CW o)⟩) ?_; clear hK K; (try simp only [Act.put, List.setIfInBounds_toArray, List.set_cons_zero, List.set_cons_succ]))
  have B7 : Below w.heap.size w w7 := (by repeat' (first | (with_reducible refine bset ?_ ?_) | (with_reducible exact Below.refl _ _) | (with_reducible assumption) | (with_reducible refine bdrewN ?_ _) | (with_reducible refine bdrew ?_) | (with_reducible refine balloc0 ?_) | (with_reducible refine balloc ?_ ?_) | (with_reducible apply btrans0; rotate_left; with_reducible assumption) | (with_reducible apply btrans; rotate_left; with_reducible assumption) | exact Below.refl _ _ | assumption | (apply btrans0; rotate_left; assumption) | (apply btrans; rotate_left; assumption) | (simp; done) | omega | (simp; omega)))
  (iterate 14 (refine plan_held rfl (by decide) (by rfl) (fun w1 hS => by (try (have hS := hS rfl; obtain hS := hS; repeat (obtain ⟨_, hS⟩ := hS))); go_simp; rfl) ?_; simp only [Act.put, List.setIfInBounds_toArray, List.set_cons_zero, List.set_cons_succ]))
  (refine plan_late rfl rfl (by rfl) (fun K hK => ?_); go_simp)
  refine (same_any c _ _ w7 (NR4.keep (w' := w7) (M := w7.heap.size) (fun b o hb => kk2 b o (by omega)) (by omega)) (NR5.keep (w' := w7) (M := w7.heap.size) (fun b o hb => kk2 b o (by omega)) (by omega))).mono ?_
  rintro e w8 ⟨rfl, hb8⟩
  (refine hK _ _ ?_; clear hK K; (try simp only [Act.put, List.setIfInBounds_toArray, List.set_cons_zero, List.set_cons_succ]))
  (iterate 7 (refine plan_held rfl (by decide) (by rfl) (fun w1 hS => by (try (have hS := hS rfl; obtain hS := hS; repeat (obtain ⟨_, hS⟩ := hS))); go_simp; rfl) ?_; simp only [Act.put, List.setIfInBounds_toArray, List.set_cons_zero, List.set_cons_succ]))
  (refine plan_late rfl rfl (by rfl) (fun K hK => ?_); go_simp)
  refine (awake_any _).mono ?_
  rintro e w9 ⟨rfl, hb9⟩
  (refine hK _ _ ?_; clear hK K; (try simp only [Act.put, List.setIfInBounds_toArray, List.set_cons_zero, List.set_cons_succ]))
  (iterate 2 (refine plan_held rfl (by decide) (by rfl) (fun w1 hS => by (try (have hS := hS rfl; obtain hS := hS; repeat (obtain ⟨_, hS⟩ := hS))); go_simp; rfl) ?_; simp only [Act.put, List.setIfInBounds_toArray, List.set_cons_zero, List.set_cons_succ]))
  refine plan_done ?_
  clear CG CX CY CZ CW
  go_wp2
  go_ret
  exact ⟨rfl, (by repeat' (first | (with_reducible refine bset ?_ ?_) | (with_reducible exact Below.refl _ _) | (with_reducible assumption) | (with_reducible refine bdrewN ?_ _) | (with_reducible refine bdrew ?_) | (with_reducible refine balloc0 ?_) | (with_reducible refine balloc ?_ ?_) | (with_reducible apply btrans0; rotate_left; with_reducible assumption) | (with_reducible apply btrans; rotate_left; with_reducible assumption) | exact Below.refl _ _ | assumption | (apply btrans0; rotate_left; assumption) | (apply btrans; rotate_left; assumption) | (simp; done) | omega | (simp; omega)))⟩

set_option maxRecDepth 100000 in
theorem lifted (os : Os) (started : os.Started) (H : Type) (enc : TypeId × Value → H) :
    ReturnsInHanded {} Try.checked os 9 .any (Rows.fragmentCutSpec.pre6 enc Try.prog Try.f9 Rows.fragmentCutRow.domain false) (Rows.fragmentCutSpec.post enc Try.prog Try.f9 false true false false) := by
  refine returnsInHanded_of_change (C := Try.checked) own started (by kernel_rfl) Try.func9
    (ChangeSpec.witness6 (enc := enc) (C := Try.checked) false ⟨#[], #[.agg bun0, .int .i64 0, .int .i64 0], []⟩ 8 (by kernel_rfl) (by kernel_rfl) (by kernel_rfl) (by kernel_rfl)) ?_
  intro W base args ds gs before hval0 hW hcnd _
  have hval : ∀ (j : Nat) t v, Try.f9.params[j]? = some t → args[j]? = some v → Value.okWide Try.prog W .any base t v := hval0
  have hW' := hW
  obtain ⟨p, q, hA0, hV, rfl, hfz, hnd⟩ := hW
  have hA : DataW.TrodAll enc Try.prog W 0 (fun _ => true) true Try.f9.params.toList args.toList ds p := hA0
  rw [Try.params9] at hA hval
  obtain ⟨v0, vs0, d0, ds0, p0, q0, hargs, rfl, rfl, h0, r0⟩ := trodAll_cons hA
  obtain ⟨v1, vs1, d1, ds1, p1, q1, rfl, rfl, rfl, h1, r1⟩ := trodAll_cons r0
  obtain ⟨v2, vs2, d2, ds2, p2, q2, rfl, rfl, rfl, h2, r2⟩ := trodAll_cons r1
  obtain ⟨rfl, rfl, rfl⟩ := trodAll_nil r2
  obtain rfl : args = #[v0, v1, v2] := by cases args; simp_all
  obtain ⟨b, u, rfl, hr, hf⟩ := open_bun (hval 0 28 v0 rfl rfl) h0
  obtain ⟨n, rfl, _, _, wn⟩ := open_int Try.underlying3 (hval 1 3 v1 rfl rfl) h1
  obtain ⟨d, rfl, _, _, wd⟩ := open_int Try.underlying3 (hval 2 3 v2 rfl rfl) h2
  refine (walk b u n d W hr hf).mono fun e W' ⟨he, hB⟩ => ?_
  subst he
  refine ⟨_, rfl, law_post (by kernel_rfl) (by kernel_rfl) rfl Try.underlying4 rfl ?_ hW' hB⟩
  intro es hes
  match es, hes with
  | [_, _, _], _ => rfl

theorem proved : Rows.FragmentCutSaid :=
  OpenClaim.holds_of_wide 9 Try.f9 rfl rfl rfl rfl rfl rfl rfl ⟨rfl, rfl, rfl, rfl, rfl⟩ rfl rfl rfl rfl rfl (by kernel_rfl) Try.func9 (by kernel_rfl)
    (of_decide_eq_true (by kernel_rfl)) (by unfold Func.isWrapper; first | (rw [if_pos (by decide +kernel)]; kernel_rfl) | (rw [if_neg (by decide +kernel)]; exact ⟨rfl, rfl⟩))
    (fun os started H enc _ => lifted os started H enc)
#print axioms proved
end Go.Proofs.Ytibfchdhppdccaa.fragmentCut
