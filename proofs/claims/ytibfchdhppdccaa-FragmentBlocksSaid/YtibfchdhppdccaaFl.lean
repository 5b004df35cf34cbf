/- Walks of layer 17 (fragment): Pieces (the program's). -/
import Derived.Test.YtibfchdhppdccaaFk
import Derived.Test.YtibfchdhppdccaaQd
import Derived.Test.YtibfchdhppdccaaRF
set_option linter.unusedVariables false
set_option linter.unusedSimpArgs false
namespace Go.Proofs.Ytibfchdhppdccaa
open Go Go.RowKit Go.Shelf
attribute [local go_sem] B_getElem B_size B_app B_extract B_get B_toList

set_option maxHeartbeats 1000000 in
theorem pieces_any (b : Bun) (u : Value) (m : Int) (N : Nat) (w : World) (hN : N ≤ w.heap.size) (h : RBlks w N u b.blocks) (hf : Fits b) :
    Calls Try.prog 14 #[.agg (bunC b u).toArray, .int .i64 m] w (BunsEPost (piecesR b m).1 (piecesR b m).2 w) := by
  obtain ⟨E, hE⟩ : ∃ E, chkE b = E := ⟨_, rfl⟩
  obtain ⟨C, hC⟩ : ∃ E, cutE b = E := ⟨_, rfl⟩
  obtain ⟨ua, uc, rfl, _⟩ := id h
  have HR := Lib.hid h
  have HF := Lib.hid hf
  have HE := Lib.hid hE
  have HC := Lib.hid hC
  clear h hf
  by_cases z : E = 0
  case neg =>
    have z' : (E != 0) = true := by simpa using z
    have hr : piecesR b m = ([], 1) := by unfold piecesR; rw [hE, if_pos z]
    rw [hr]
    clear hE hC z hr
    go_enter Try.func14, Try.ntmps14
    simp only [bunC]
    go_wp2_with fail
    refine (check_any b _ _ (HR.out.below (C := w.heap.size) (by repeat' (first | (with_reducible refine bset ?_ ?_) | (with_reducible exact Below.refl _ _) | (with_reducible assumption) | (with_reducible refine bdrewN ?_ _) | (with_reducible refine bdrew ?_) | (with_reducible refine balloc0 ?_) | (with_reducible refine balloc ?_ ?_) | (with_reducible apply btrans0; rotate_left; with_reducible assumption) | (with_reducible apply btrans; rotate_left; with_reducible assumption) | exact Below.refl _ _ | assumption | (apply btrans0; rotate_left; assumption) | (apply btrans; rotate_left; assumption) | (simp; done) | omega | (simp; omega))) hN (by first | omega | (simp; done) | (simp; omega))) HF.out).mono ?_
    rintro e w1 ⟨rfl, hb1⟩
    rw [HE.out]
    go_wp2
    go_ret2
    exact ⟨_, rfl, RBuns.nil _ _, (by repeat' (first | (with_reducible refine bset ?_ ?_) | (with_reducible exact Below.refl _ _) | (with_reducible assumption) | (with_reducible refine bdrewN ?_ _) | (with_reducible refine bdrew ?_) | (with_reducible refine balloc0 ?_) | (with_reducible refine balloc ?_ ?_) | (with_reducible apply btrans0; rotate_left; with_reducible assumption) | (with_reducible apply btrans; rotate_left; with_reducible assumption) | exact Below.refl _ _ | assumption | (apply btrans0; rotate_left; assumption) | (apply btrans; rotate_left; assumption) | (simp; done) | omega | (simp; omega)))⟩
  subst z
  obtain ⟨v1, v2, v3, v4, v5, v6, v7, v8, _, _⟩ := valid_facts hE
  have HV := Lib.hid (valid_blocks hE)
  by_cases z1 : m < 1
  case pos =>
    have hr : piecesR b m = ([], 2) := by unfold piecesR; rw [hE, if_neg (by simp), if_pos z1]
    rw [hr]
    clear hE hC hr
    go_enter Try.func14, Try.ntmps14
    simp only [bunC]
    go_wp2_with fail
    refine (check_any b _ _ (HR.out.below (C := w.heap.size) (by repeat' (first | (with_reducible refine bset ?_ ?_) | (with_reducible exact Below.refl _ _) | (with_reducible assumption) | (with_reducible refine bdrewN ?_ _) | (with_reducible refine bdrew ?_) | (with_reducible refine balloc0 ?_) | (with_reducible refine balloc ?_ ?_) | (with_reducible apply btrans0; rotate_left; with_reducible assumption) | (with_reducible apply btrans; rotate_left; with_reducible assumption) | exact Below.refl _ _ | assumption | (apply btrans0; rotate_left; assumption) | (apply btrans; rotate_left; assumption) | (simp; done) | omega | (simp; omega))) hN (by first | omega | (simp; done) | (simp; omega))) HF.out).mono ?_
    rintro e w1 ⟨rfl, hb1⟩
    rw [HE.out]
    obtain ⟨k1, f1⟩ := bcell hb1
    have y1 : w.heap.size < w1.heap.size := by have := hb1.size; simp at this; omega
    have y0 : w.heap.size < w1.heap.size := by omega
    go_wp2
    go_ret2
    exact ⟨_, rfl, RBuns.nil _ _, (by repeat' (first | (with_reducible refine bset ?_ ?_) | (with_reducible exact Below.refl _ _) | (with_reducible assumption) | (with_reducible refine bdrewN ?_ _) | (with_reducible refine bdrew ?_) | (with_reducible refine balloc0 ?_) | (with_reducible refine balloc ?_ ?_) | (with_reducible apply btrans0; rotate_left; with_reducible assumption) | (with_reducible apply btrans; rotate_left; with_reducible assumption) | exact Below.refl _ _ | assumption | (apply btrans0; rotate_left; assumption) | (apply btrans; rotate_left; assumption) | (simp; done) | omega | (simp; omega)))⟩
  have z1' : 1 ≤ m := by omega
  by_cases z2 : m = 1
  case pos =>
    have hr : piecesR b m = ([b], 0) := by unfold piecesR; rw [hE, if_neg (by simp), if_neg z1, if_pos z2]
    rw [hr]
    subst z2
    clear hE hC hr z1
    go_enter Try.func14, Try.ntmps14
    simp only [bunC]
    go_wp2_with fail
    refine (check_any b _ _ (HR.out.below (C := w.heap.size) (by repeat' (first | (with_reducible refine bset ?_ ?_) | (with_reducible exact Below.refl _ _) | (with_reducible assumption) | (with_reducible refine bdrewN ?_ _) | (with_reducible refine bdrew ?_) | (with_reducible refine balloc0 ?_) | (with_reducible refine balloc ?_ ?_) | (with_reducible apply btrans0; rotate_left; with_reducible assumption) | (with_reducible apply btrans; rotate_left; with_reducible assumption) | exact Below.refl _ _ | assumption | (apply btrans0; rotate_left; assumption) | (apply btrans; rotate_left; assumption) | (simp; done) | omega | (simp; omega))) hN (by first | omega | (simp; done) | (simp; omega))) HF.out).mono ?_
    rintro e w1 ⟨rfl, hb1⟩
    rw [HE.out]
    obtain ⟨k1, f1⟩ := bcell hb1
    have y1 : w.heap.size < w1.heap.size := by have := hb1.size; simp at this; omega
    have y0 : w.heap.size < w1.heap.size := by omega
    go_wp2
    go_ret2
    have hB : Below w.heap.size w (w1.alloc (.cells (bunC b (.slice ua b.blocks.length uc)).toArray 28)) := (by repeat' (first | (with_reducible refine bset ?_ ?_) | (with_reducible exact Below.refl _ _) | (with_reducible assumption) | (with_reducible refine bdrewN ?_ _) | (with_reducible refine bdrew ?_) | (with_reducible refine balloc0 ?_) | (with_reducible refine balloc ?_ ?_) | (with_reducible apply btrans0; rotate_left; with_reducible assumption) | (with_reducible apply btrans; rotate_left; with_reducible assumption) | exact Below.refl _ _ | assumption | (apply btrans0; rotate_left; assumption) | (apply btrans; rotate_left; assumption) | (simp; done) | omega | (simp; omega)))
    exact ⟨_, rfl, RBuns.one (u := .slice ua b.blocks.length uc) heap_new (by simp) (HR.out.below (C := w.heap.size) hB hN (by have := hB.size; simp at this ⊢; omega)), hB⟩
  by_cases y : C = 0
  case neg =>
    have y' : (C != 0) = true := by simpa using y
    have hr : piecesR b m = ([], C) := by unfold piecesR; rw [hE, hC, if_neg (by simp), if_neg z1, if_neg z2, if_pos y]
    rw [hr]
    have z2' : (m == 1) = false := beq_eq_false_iff_ne.2 z2
    clear hE hC y hr z1 z2
    go_enter Try.func14, Try.ntmps14
    simp only [bunC]
    go_wp2_with fail
    refine (check_any b _ _ (HR.out.below (C := w.heap.size) (by repeat' (first | (with_reducible refine bset ?_ ?_) | (with_reducible exact Below.refl _ _) | (with_reducible assumption) | (with_reducible refine bdrewN ?_ _) | (with_reducible refine bdrew ?_) | (with_reducible refine balloc0 ?_) | (with_reducible refine balloc ?_ ?_) | (with_reducible apply btrans0; rotate_left; with_reducible assumption) | (with_reducible apply btrans; rotate_left; with_reducible assumption) | exact Below.refl _ _ | assumption | (apply btrans0; rotate_left; assumption) | (apply btrans; rotate_left; assumption) | (simp; done) | omega | (simp; omega))) hN (by first | omega | (simp; done) | (simp; omega))) HF.out).mono ?_
    rintro e w1 ⟨rfl, hb1⟩
    rw [HE.out]
    obtain ⟨k1, f1⟩ := bcell hb1
    have y1 : w.heap.size < w1.heap.size := by have := hb1.size; simp at this; omega
    have y0 : w.heap.size < w1.heap.size := by omega
    go_wp2_with fail
    refine (cuttable_any b _ _ v6 v7).mono ?_
    rintro e w2 ⟨rfl, hb2⟩
    rw [HC.out]
    go_wp2
    go_ret2
    exact ⟨_, rfl, RBuns.nil _ _, (by repeat' (first | (with_reducible refine bset ?_ ?_) | (with_reducible exact Below.refl _ _) | (with_reducible assumption) | (with_reducible refine bdrewN ?_ _) | (with_reducible refine bdrew ?_) | (with_reducible refine balloc0 ?_) | (with_reducible refine balloc ?_ ?_) | (with_reducible apply btrans0; rotate_left; with_reducible assumption) | (with_reducible apply btrans; rotate_left; with_reducible assumption) | exact Below.refl _ _ | assumption | (apply btrans0; rotate_left; assumption) | (apply btrans; rotate_left; assumption) | (simp; done) | omega | (simp; omega)))⟩
  subst y
  have z2' : (m == 1) = false := beq_eq_false_iff_ne.2 z2
  by_cases z3 : (b.payload.length : Int) < m
  case pos =>
    have hr : piecesR b m = ([], 2) := by unfold piecesR; rw [hE, hC, if_neg (by simp), if_neg z1, if_neg z2, if_neg (by simp), if_pos z3]
    rw [hr]
    clear hE hC hr z1 z2
    go_enter Try.func14, Try.ntmps14
    simp only [bunC]
    go_wp2_with fail
    refine (check_any b _ _ (HR.out.below (C := w.heap.size) (by repeat' (first | (with_reducible refine bset ?_ ?_) | (with_reducible exact Below.refl _ _) | (with_reducible assumption) | (with_reducible refine bdrewN ?_ _) | (with_reducible refine bdrew ?_) | (with_reducible refine balloc0 ?_) | (with_reducible refine balloc ?_ ?_) | (with_reducible apply btrans0; rotate_left; with_reducible assumption) | (with_reducible apply btrans; rotate_left; with_reducible assumption) | exact Below.refl _ _ | assumption | (apply btrans0; rotate_left; assumption) | (apply btrans; rotate_left; assumption) | (simp; done) | omega | (simp; omega))) hN (by first | omega | (simp; done) | (simp; omega))) HF.out).mono ?_
    rintro e w1 ⟨rfl, hb1⟩
    rw [HE.out]
    obtain ⟨k1, f1⟩ := bcell hb1
    have y0 : w.heap.size < w1.heap.size := by have := hb1.size; simp at this; omega
    go_wp2_with fail
    refine (cuttable_any b _ _ v6 v7).mono ?_
    rintro e w2 ⟨rfl, hb2⟩
    rw [HC.out]
    obtain ⟨k2, f2⟩ := bcell hb2
    have y3 : w.heap.size < w2.heap.size := by have := hb2.size; omega
    go_wp2
    go_ret2
    exact ⟨_, rfl, RBuns.nil _ _, (by repeat' (first | (with_reducible refine bset ?_ ?_) | (with_reducible exact Below.refl _ _) | (with_reducible assumption) | (with_reducible refine bdrewN ?_ _) | (with_reducible refine bdrew ?_) | (with_reducible refine balloc0 ?_) | (with_reducible refine balloc ?_ ?_) | (with_reducible apply btrans0; rotate_left; with_reducible assumption) | (with_reducible apply btrans; rotate_left; with_reducible assumption) | exact Below.refl _ _ | assumption | (apply btrans0; rotate_left; assumption) | (apply btrans; rotate_left; assumption) | (simp; done) | omega | (simp; omega)))⟩
  obtain ⟨n', rfl⟩ := Int.eq_ofNat_of_zero_le (show 0 ≤ m by omega)
  have hr : piecesR b (n' : Int) = (partsOf b (pF n' b.payload.length) n', 0) := by unfold piecesR; rw [hE, hC, if_neg (by simp), if_neg z1, if_neg z2, if_neg (by simp), if_neg z3, Int.toNat_natCast]
  rw [hr]
  have z3' : (n' : Int) ≤ (b.payload.length : Int) := by omega
  clear hE hC hr z1 z2 z3
  go_enter Try.func14, Try.ntmps14
  simp only [bunC]
  go_wp2_with fail
  refine (check_any b _ _ (HR.out.below (C := w.heap.size) (by repeat' (first | (with_reducible refine bset ?_ ?_) | (with_reducible exact Below.refl _ _) | (with_reducible assumption) | (with_reducible refine bdrewN ?_ _) | (with_reducible refine bdrew ?_) | (with_reducible refine balloc0 ?_) | (with_reducible refine balloc ?_ ?_) | (with_reducible apply btrans0; rotate_left; with_reducible assumption) | (with_reducible apply btrans; rotate_left; with_reducible assumption) | exact Below.refl _ _ | assumption | (apply btrans0; rotate_left; assumption) | (apply btrans; rotate_left; assumption) | (simp; done) | omega | (simp; omega))) hN (by first | omega | (simp; done) | (simp; omega))) HF.out).mono ?_
  rintro e w1 ⟨rfl, hb1⟩
  rw [HE.out]
  obtain ⟨k1, f1⟩ := bcell hb1
  have y0 : w.heap.size < w1.heap.size := by have := hb1.size; simp at this; omega
  go_wp2_with fail
  refine (cuttable_any b _ _ v6 v7).mono ?_
  rintro e w2 ⟨rfl, hb2⟩
  rw [HC.out]
  obtain ⟨k2, f2⟩ := bcell hb2
  have y3 : w.heap.size < w2.heap.size := by have := hb2.size; omega
  have hB2 : Below w.heap.size w w2 := (by repeat' (first | (with_reducible refine bset ?_ ?_) | (with_reducible exact Below.refl _ _) | (with_reducible assumption) | (with_reducible refine bdrewN ?_ _) | (with_reducible refine bdrew ?_) | (with_reducible refine balloc0 ?_) | (with_reducible refine balloc ?_ ?_) | (with_reducible apply btrans0; rotate_left; with_reducible assumption) | (with_reducible apply btrans; rotate_left; with_reducible assumption) | exact Below.refl _ _ | assumption | (apply btrans0; rotate_left; assumption) | (apply btrans; rotate_left; assumption) | (simp; done) | omega | (simp; omega)))
  have g2 : w2.heap[w.heap.size]? = some (.cells (bunC b (.slice ua b.blocks.length uc)).toArray 28 (0, 0)) := ((hb2.block _ (by omega)).trans (hb1.block _ (by simp))).trans (by repeat (first | exact heap_new' (by first | rfl | (simp; done)) | refine (Below.heap_alloc _ _ _ (by first | (simp; done) | (simp; omega))).trans ?_))
  have c11 : w2.cell? ⟨w.heap.size, 11, none⟩ = some (.string (B b.payload)) := cellB g2 11
  have G2 := Lib.hid g2
  have hnz : ((n' : Int) == 0) = false := beq_eq_false_iff_ne.2 (by omega)
  have hn0 : (0 : Int) < (n' : Int) := by omega
  obtain ⟨Q1, hQ1⟩ : ∃ q : Int, ((b.payload.length / n' : Nat) : Int) = q := ⟨_, rfl⟩
  obtain ⟨Q2, hQ2⟩ : ∃ q : Int, ((b.payload.length % n' : Nat) : Int) = q := ⟨_, rfl⟩
  have hq : IntKind.i64.wrap ((b.payload.length : Int) / (n' : Int)) = Q1 := by
    rw [← hQ1, ← Int.natCast_ediv]; exact wrap_nat _ (Nat.le_trans (Nat.div_le_self _ _) (by omega))
  have hrm : (b.payload.length : Int) % (n' : Int) = Q2 := by rw [← hQ2, ← Int.natCast_emod]
  have hrm2 : (b.payload.length : Int).tmod (n' : Int) = Q2 := by rw [Int.tmod_eq_emod_of_nonneg (by omega)]; exact hrm
  have hnN : ¬ n' = 0 := by omega
  have HQ1 := Lib.hid hQ1
  have HQ2 := Lib.hid hQ2
  clear hQ1 hQ2
  clear k1 k2 f1 f2 g2 hb1 hb2
  go_wp2
  refine wp_region_fork (fun w' => w'.cell? ⟨w.heap.size, 11, none⟩ = some (.string (B b.payload))) [0, 1, 0, 0, 0, 0, 1, 0, 0, 0, 2, 2, 2, 3] [0, 1, 2, 3, 4, 5, 6, 7, 8, 9] 10 11 [11, 12, 13] [10, 12, 13] (by kernel_rfl) (by kernel_rfl) ?_ ?_
  · go_simp
  (iterate 10 (refine planR_held rfl (by rfl) (fun w1 hS => by (try (have hS := hS rfl; obtain hS := hS; repeat (obtain ⟨_, hS⟩ := hS))); go_simp; rfl) ?_; simp only [Act.put, List.setIfInBounds_toArray, List.set_cons_zero, List.set_cons_succ]))
  refine ⟨?_, ?_⟩
  · (refine fork_op rfl (by rfl) (fun K hK => ?_); go_simp)
    (refine hK _ _ (by go_simp) ?_; clear hK K; (try simp only [Act.put, List.setIfInBounds_toArray, List.set_cons_zero, List.set_cons_succ]))
    (refine plan_keep rfl rfl (by rfl) (fun K hK => ?_); go_simp)
    (refine hK _ _ (by go_simp) ?_; clear hK K; (try simp only [Act.put, List.setIfInBounds_toArray, List.set_cons_zero, List.set_cons_succ]))
    clear hq hrm hrm2
    have hne : w2.heap.size ≠ w.heap.size := by omega
    (refine plan_keep rfl rfl (by rfl) (fun K hK => ?_); go_simp)
    (refine hK _ _ (by go_simp) ?_; clear hK K; (try simp only [Act.put, List.setIfInBounds_toArray, List.set_cons_zero, List.set_cons_succ]))
    (refine plan_late rfl rfl (by rfl) (fun K hK => ?_); go_simp)
    (refine hK _ _ ?_; clear hK K; (try simp only [Act.put, List.setIfInBounds_toArray, List.set_cons_zero, List.set_cons_succ]))
    refine plan_done ?_
    have ca := fun o => cellB G2.out o
    simp only [bunC] at ca
    go_wp2_with fail
    have hB3 : Below w.heap.size w (((w2.alloc (.cells #[.int .i64 Q1] 3)).alloc (.cells #[.int .i64 Q2] 3)).drew) := (by repeat' (first | (with_reducible refine bset ?_ ?_) | (with_reducible exact Below.refl _ _) | (with_reducible assumption) | (with_reducible refine bdrewN ?_ _) | (with_reducible refine bdrew ?_) | (with_reducible refine balloc0 ?_) | (with_reducible refine balloc ?_ ?_) | (with_reducible apply btrans0; rotate_left; with_reducible assumption) | (with_reducible apply btrans; rotate_left; with_reducible assumption) | exact Below.refl _ _ | assumption | (apply btrans0; rotate_left; assumption) | (apply btrans; rotate_left; assumption) | (simp; done) | omega | (simp; omega)))
    refine (divide_any b _ _ N _ ?_ (HR.out.below (C := w.heap.size) hB3 hN (Nat.le_refl N)) _ (pF n' b.payload.length) n' rfl v1 (by omega) (by omega) (by omega) HV.out (by omega) ⟨_, _, _, rfl⟩
      (seqPieces _ b.off n' b.payload.length (w2.heap.size + 1) w2.heap.size (by omega) (by omega) (by omega) v1 (by omega) (by simp <;> omega) (by simp <;> omega) (by rw [HQ2.out]; go_simp <;> omega) (by rw [HQ1.out]; go_simp <;> omega))).mono ?_
    · simp; omega
    rintro e w3 ⟨v3', rfl, hr3, hb3⟩
    go_wp2
    go_ret2
    exact ⟨_, rfl, hr3, (by repeat' (first | (with_reducible refine bset ?_ ?_) | (with_reducible exact Below.refl _ _) | (with_reducible assumption) | (with_reducible refine bdrewN ?_ _) | (with_reducible refine bdrew ?_) | (with_reducible refine balloc0 ?_) | (with_reducible refine balloc ?_ ?_) | (with_reducible apply btrans0; rotate_left; with_reducible assumption) | (with_reducible apply btrans; rotate_left; with_reducible assumption) | exact Below.refl _ _ | assumption | (apply btrans0; rotate_left; assumption) | (apply btrans; rotate_left; assumption) | (simp; done) | omega | (simp; omega)))⟩
  · (refine fork_op rfl (by rfl) (fun K hK => ?_); go_simp)
    (refine hK _ _ (by go_simp) ?_; clear hK K; (try simp only [Act.put, List.setIfInBounds_toArray, List.set_cons_zero, List.set_cons_succ]))
    (refine plan_keep rfl rfl (by rfl) (fun K hK => ?_); go_simp)
    (refine hK _ _ (by go_simp) ?_; clear hK K; (try simp only [Act.put, List.setIfInBounds_toArray, List.set_cons_zero, List.set_cons_succ]))
    clear hq hrm hrm2
    have hne : w2.heap.size ≠ w.heap.size := by omega
    (refine plan_keep rfl rfl (by rfl) (fun K hK => ?_); go_simp)
    (refine hK _ _ (by go_simp) ?_; clear hK K; (try simp only [Act.put, List.setIfInBounds_toArray, List.set_cons_zero, List.set_cons_succ]))
    (refine plan_late rfl rfl (by rfl) (fun K hK => ?_); go_simp)
    (refine hK _ _ ?_; clear hK K; (try simp only [Act.put, List.setIfInBounds_toArray, List.set_cons_zero, List.set_cons_succ]))
    refine plan_done ?_
    have ca := fun o => cellB G2.out o
    simp only [bunC] at ca
    go_wp2_with fail
    have hB3 : Below w.heap.size w (((w2.alloc (.cells #[.int .i64 Q2] 3)).alloc (.cells #[.int .i64 Q1] 3)).drew) := (by repeat' (first | (with_reducible refine bset ?_ ?_) | (with_reducible exact Below.refl _ _) | (with_reducible assumption) | (with_reducible refine bdrewN ?_ _) | (with_reducible refine bdrew ?_) | (with_reducible refine balloc0 ?_) | (with_reducible refine balloc ?_ ?_) | (with_reducible apply btrans0; rotate_left; with_reducible assumption) | (with_reducible apply btrans; rotate_left; with_reducible assumption) | exact Below.refl _ _ | assumption | (apply btrans0; rotate_left; assumption) | (apply btrans; rotate_left; assumption) | (simp; done) | omega | (simp; omega)))
    refine (divide_any b _ _ N _ ?_ (HR.out.below (C := w.heap.size) hB3 hN (Nat.le_refl N)) _ (pF n' b.payload.length) n' rfl v1 (by omega) (by omega) (by omega) HV.out (by omega) ⟨_, _, _, rfl⟩
      (seqPieces _ b.off n' b.payload.length w2.heap.size (w2.heap.size + 1) (by omega) (by omega) (by omega) v1 (by omega) (by simp <;> omega) (by simp <;> omega) (by rw [HQ2.out]; go_simp <;> omega) (by rw [HQ1.out]; go_simp <;> omega))).mono ?_
    · simp; omega
    rintro e w3 ⟨v3', rfl, hr3, hb3⟩
    go_wp2
    go_ret2
    exact ⟨_, rfl, hr3, (by repeat' (first | (with_reducible refine bset ?_ ?_) | (with_reducible exact Below.refl _ _) | (with_reducible assumption) | (with_reducible refine bdrewN ?_ _) | (with_reducible refine bdrew ?_) | (with_reducible refine balloc0 ?_) | (with_reducible refine balloc ?_ ?_) | (with_reducible apply btrans0; rotate_left; with_reducible assumption) | (with_reducible apply btrans; rotate_left; with_reducible assumption) | exact Below.refl _ _ | assumption | (apply btrans0; rotate_left; assumption) | (apply btrans; rotate_left; assumption) | (simp; done) | omega | (simp; omega)))⟩
end Go.Proofs.Ytibfchdhppdccaa
